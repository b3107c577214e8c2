/-
  Texts bound together by a program of mine: YtakdmelemfnmdaaAvu, YtakdmelemfnmdaaAvl, YtakdmelemfnmdaaAvm, YtjdnhamngpafmaaGreatTab, YtjdnhamngpafmaaGreatPa, YtjdnhamngpafmaaGreatPb, YtjdnhamngpafmaaGreatPm, YtjdnhamngpafmaaGreatPr, YtakdmelemfnmdaaAvn, YtakdmelemfnmdaaAvo, YtakdmelemfnmdaaAvq, YtakdmelemfnmdaaAvp, YtakdmelemfnmdaaAvs, YtakdmelemfnmdaaAvt, YtakdmelemfnmdaaAvz, YtakdmelemfnmdaaAvw, YtjdnhamngpafmaaGreatPd, YtjdnhamngpafmaaGreatPdz, YtjdnhamngpafmaaGreatPe, YtjdnhamngpafmaaGreatT1, YtjdnhamngpafmaaGreatT2, YtjdnhamngpafmaaGreatT3, YtjdnhamngpafmaaGreatT30, YtjdnhamngpafmaaGreatPo, YtjdnhamngpafmaaGreatT24, YtjdnhamngpafmaaGreatT25, YtjdnhamngpafmaaGreatT4, YtjdnhamngpafmaaGreatT5, YtjdnhamngpafmaaGreatT6, YtjdnhamngpafmaaGreatT7, YtjdnhamngpafmaaGreatT8.
-/
import Derived.Test.YtjdnhamngpafmaaGreatA1
import Derived.ChangeKeysEq
import Derived.Laws.StructEq
import Derived.Test.YtjdnhamngpafmaaGreatChecked
import Derived.KernelRfl
import Derived.ProofKit
import Derived.Carry
import Derived.SizedLaws
import Derived.Deep.Slices
import Derived.JoinedOf
set_option linter.all false
set_option maxRecDepth 100000
set_option maxHeartbeats 4000000

namespace Go.Av
theorem oV{P:Program}{aR:ed}(hT:bY P aR){t e:TypeId}{n:Nat}{ti:cc}(ht:aR t=some ti)(aP:ti.desc=.array n e):P.underlying t=some (.array n e):=by
 obtain⟨_,d,h1,h2⟩:=hT t ti ht;rw[aP]at h2;simp only[tV]at h2;rw[h1,h2]
theorem o9{P:Program}{aR:ed}(hT:bY P aR){o:Oper}{σ:St}{t e:TypeId}{x i:Operand}{ti te:cc}{id off len:Nat}{k:IntKind}{n:Int}
  (ho:o.op=.indexAddr t x i) (hd:∀d,o.dst=some d->d<σ.n) (ht:aR t=some ti) (aP:ti.desc=.array len e) (he:aR e=some te)
  (hx:σ.ev x=some (.mp id off)) (hi:σ.ev i=some (.v (.int k n))) (h0:0<=n) (hn:n<len):Cert P o σ (.mp id (off+n.toNat*te.size)) .pure :=
 Cert.bK .pure (.inl rfl) hd fun a g _ h _=>by
  have ei:=(h i (by simp[ho,Op.operands]) _ hi).bV.1;have hu:=oV hT ht aP;obtain⟨l,o1,h1,h2,h3,eu⟩:=(h x (by simp[ho,Op.operands]) _ hx).ng;exact⟨.pointer (some ⟨l.block,off+n.toNat*te.size,none⟩),by simp[execOp,ho,ei,eu,Instr.indexAt,Instr.sureAddr,asIntOf,run_underlying hu,h0,hn,(hT e te he).sizeOf,addr_add],.mp h1 h2 h3⟩
theorem mF{P:Program}{aR:ed}(hT:bY P aR){o:Oper}{σ:St}{t e:TypeId}{x i:Operand}{ti te:cc}{len:Nat}{oa:Option Addr}{cs:List ae}{k:IntKind}{n:Int}
  (ho:o.op=.indexAddr t x i) (hd:∀d,o.dst=some d->d<σ.n) (ht:aR t=some ti) (aP:ti.desc=.array len e) (he:aR e=some te)
  (hx:σ.ev x=some (.ip oa cs)) (hi:σ.ev i=some (.v (.int k n))) (h0:0<=n) (hn:n<len):Cert P o σ (.ip none (cs.drop (n.toNat*te.size))) .pure :=
 Cert.bK .pure (.inl rfl) hd fun a g _ h _=>by
  have ei:=(h i (by simp[ho,Op.operands]) _ hi).bV.1;have hu:=oV hT ht aP;obtain⟨b,off,f,eu,_,ia,hm,hr⟩:=(h x (by simp[ho,Op.operands]) _ hx).po;refine⟨.pointer (some ⟨b,off+n.toNat*te.size,none⟩),by simp[execOp,ho,ei,eu,Instr.indexAt,Instr.sureAddr,asIntOf,run_underlying hu,h0,hn,(hT e te he).sizeOf,addr_add],
   .ip (.inl rfl) (fun c hc=>ia c (List.mem_of_mem_drop hc)) (fun j=>f (n.toNat*te.size+j)) (fun j c hj=>?_) (fun j c hj=>?_)⟩
  ·rw[List.getElem?_drop]at hj;have:=hm _ c hj;rw[<-Nat.add_assoc]at this;exact this
  rw[List.getElem?_drop]at hj;exact hr _ c hj
theorem tK{P:Program}{aR:ed}(hT:bY P aR){o:Oper}{σ:St}{t e:TypeId}{parts:Array (Nat×Operand)}{n:Nat}{ti te:cc}{ps:List (Nat×ae)}{cs:List ae}
  (ho:o.op=.build t parts) (hd:∀d,o.dst=some d->d<σ.n) (ht:aR t=some ti) (aP:ti.desc=.array n e) (he:aR e=some te) (y8:σ.eA parts.toList=some ps) (gp:∀p∈ps,p.2.flat)
  (gn:iu (fun i=>some (i*te.size,te.size)) ti.zero ps=some cs):Cert P o σ (.agg cs) .pure :=
 Cert.bK .pure (.inl rfl) hd fun a g _ h _=>by
  have bE:=jl (a:=a) (g:=g) (fun x hx y hy=>h x (by simpa[ho,Op.operands]using hx) y hy) y8 gp;obtain⟨⟨i,z,h1,h2,h3,h4,h5,h6,h7,h8,h9⟩,d,wQ,Vb⟩:=hT t ti ht;have hu:=oV hT ht aP;obtain⟨⟨ie,ze,k1,k2,_⟩,_⟩:=hT e te he;obtain⟨cg,q1,q2,q3⟩:=nR (fun i=>some (i*te.size,te.size)) bE (cs:=ti.zero) (arr:=z.cells) ⟨h5,h8 g⟩ gn;have hb:P.built t (parts.map fun(i,x)=>(i,a.eval x)).toList=some cg:=by
   unfold Program.built;simp only[h1,hu,h4,k1,k2];rw[Array.toList_map];simpa using q1
  have bw:=run_build g.w t _ cg hb;exact⟨.agg cg,by simp[execOp,ho,bw],q2.agg (q3 h9)⟩
def tl(P:Program)(t:TypeId)(k:IntKind):Prop:=P.eqGuardType P.depth t=false∧∀(w:World) (a0 a1 b0 b1:Int),(Op.equal t (.agg #[.int k a0,.int k a1]) (.agg #[.int k b0,.int k b1])).run P w=.ok (decide (a0=b0)&&decide (a1=b1)) w
theorem qN{P:Program}{e:TypeId}{k:IntKind}(he:P.underlying e=some (.int k))(xs:Array Value)(i:Nat)(u:Value)(hu:xs[i]?=some u)(w:World):(part e xs i).run P w=.ok u w:=by
 simp[part,Go.isAgg,run_underlying he,hu]
theorem yx{P:Program}{t:TypeId}{k:IntKind}(h:∃e i,P.underlying t=some (.array 2 e)∧P.info? e=some i∧i.size=1∧P.underlying e=some (.int k)∧P.eqGuardType P.depth t=false):tl P t k:=by
 obtain⟨e,ie,PB,k1,di,hu,mM⟩:=h;refine⟨mM,fun w a0 a1 b0 b1=>?_⟩;have hc:P.cellsOf e=1:=by
  simp[Program.cellsOf,k1,di]
 have e0:∃d,Op.equal t (.agg #[.int k a0,.int k a1]) (.agg #[.int k b0,.int k b1])=Op.equalIn (d+2) t (.agg #[.int k a0,.int k a1]) (.agg #[.int k b0,.int k b1]):=⟨9998,rfl⟩
 obtain⟨d,e0⟩:=e0;rw[e0,run_equalIn_array w (d+1) _ _ PB k1,hc];have hi:∀(p q:Int),(Op.equalIn (d+1) e (.int k p) (.int k q)).run P w=.ok (decide (p=q)) w:=fun p q=>by
  have ZM:(p == q)=decide (p=q):=by
   by_cases hq:p=q
   ·simp[hq]
   simp[hq]
  simp[Op.equalIn,run_underlying hu,ZM]
 have p0:=qN hu #[.int k a0,.int k a1] 0 (.int k a0) rfl w;have p1:=qN hu #[.int k a0,.int k a1] 1 (.int k a1) rfl w;have s0:=qN hu #[.int k b0,.int k b1] 0 (.int k b0) rfl w;have s1:=qN hu #[.int k b0,.int k b1] 1 (.int k b1) rfl w;show(Op.eqItems (d+1) e 1 _ _ [0,1]).run P w=_;simp only[Op.eqItems,Sem.run_bind,Nat.zero_mul,Nat.one_mul,p0,s0,p1,s1,hi,Result.andThen_ok];by_cases q0:a0=b0
 ·subst q0;simp only[decide_true,Bool.not_true,Bool.false_eq_true,if_false,Bool.true_and,Sem.run_bind,p1,s1,hi,Result.andThen_ok];by_cases q1:a1=b1<;>simp[q1]
 simp[q0]
theorem zO{P:Program}{o:Oper}{σ:St}{op:BinOp}{t t':TypeId}{x y:Operand}{k:IntKind}{a0 a1 b0 b1:Int}{r:Bool}
  (ho:o.op=.binOp op t x y t') (hd:∀d,o.dst=some d->d<σ.n) (hP:tl P t k)
  (hx:σ.ev x=some (.agg [.v (.int k a0),.v (.int k a1)])) (hy:σ.ev y=some (.agg [.v (.int k b0),.v (.int k b1)]))
  (hr:(op=.eql∧r=(decide (a0=b0)&&decide (a1=b1)))∨(op=.neq∧r=!(decide (a0=b0)&&decide (a1=b1)))):Cert P o σ (.v (.bool r)) .pure :=
 Cert.bK .pure (.inl rfl) hd fun ac g _ h _=>by
  obtain⟨mM,cA⟩:=hP;have cells:∀{z:Operand} {c0 c1:Int},z∈o.op.operands->σ.ev z=some (.agg [.v (.int k c0),.v (.int k c1)])->ac.eval z=.agg #[.int k c0,.int k c1]:=fun {z c0 c1} hz y8=>by
   obtain⟨vs,e1,e2,e3⟩:=(h z hz _ y8).Lw;rw[e1];congr 1;have e2:vs.size=2:=e2;have h0:vs[0]?=some (vs[0]'(by omega)):=by simp[e2]
   have h1:vs[1]?=some (vs[1]'(by omega)):=by simp[e2]
   have q0:=(e3.2 0 _ _ rfl h0).bV.1;have q1:=(e3.2 1 _ _ rfl h1).bV.1;apply Array.ext
   ·simp[e2]
   intro i VO Oz;have:i=0∨i=1:=by
    simp at Oz;omega
   rcases this with rfl|rfl
   ·simpa using q0
   simpa using q1
  have ex:=cells (by simp[ho,Op.operands]) hx;have ey:=cells (by simp[ho,Op.operands]) hy;have hg:=run_eqGuard_agg (P:=P) g.w op t x y #[.int k a0,.int k a1] #[.int k b0,.int k b1] mM;refine⟨.bool r,?_,.v trivial⟩;have vM:=cA g.w a0 a1 b0 b1;rcases hr with⟨e1,e2⟩|⟨e1,e2⟩<;>subst e1<;>subst e2<;>simp[execOp,ho,ex,ey,hg,binOp,vM]
structure Tag{α:Type}(a:α):Type where
def on{α:Type}(x:Option α)(f:α->Prop)(_t:Tag f:={}):Prop :=
 match x with
 | some y=>f y
 | none=>False
theorem yv{α:Type}(y:α)(f:α->Prop)(t:Tag f):on (some y) f t=f y:=rfl
theorem aD{α:Type}{x:Option α}{f:α->Prop}{t:Tag f}(h:on x f t):∃y,x=some y∧f y:=by
 cases x with
 | none=>exact h.elim
 | some y=>exact⟨y,rfl,h⟩
def wu(p:Unit->Prop)(_t:Tag p:={}):Prop:=p ()
def At(σ:St)(f:St->Prop)(_t:Tag f:={}):Prop:=f σ
theorem aV{σ:St}{f:St->Prop}{t:Tag f}(h:f σ):At σ f t:=h
def oE(b:Bool)(X Y:Unit->Prop)(_t:Tag X:={})(_t':Tag Y:={}):Prop:=if b then X ()else Y ()
theorem dF(X Y:Unit->Prop)(t:Tag X)(t':Tag Y):oE true X Y t t'=X ():=rfl
theorem c9(X Y:Unit->Prop)(t:Tag X)(t':Tag Y):oE false X Y t t'=Y ():=rfl
theorem Ee{b:Bool}{X Y:Unit->Prop}{t:Tag X}{t':Tag Y}(h:b=true->X ())(k:b=false->Y ()):oE b X Y t t':=by
 cases b
 ·exact k rfl
 exact h rfl
abbrev fK:=ae->Mode->Prop
def isNil:Operand->Bool
 | .const (.slice none 0 0)=>true
 | _=>false
def vh(aR:ed)(ty:TypeId)(x:Operand)(σ:St)(K:fK):Prop :=
 match isNil x with
 | true=>on (aR ty) fun ti=>match ti.desc with
  | .slice e=>on (aR e) fun te=>K (.aB te.size [] .ex) .pure
  | _=>False
 | false=>on (σ.ev x) fun y=>K y .pure
def Eg(σ:St)(c x z:Operand)(K:fK):Prop :=
 on (σ.ev c) fun
  | .v (.bool b)=>oE b (fun _=>on (σ.ev x) fun y=>K y .pure) (fun _=>on (σ.ev z) fun y=>K y .pure)
  | _=>False
def nB(aR:ed)(s:TypeId)(k:Nat)(x:ae)(K:fK):Prop :=
 on (aR s) fun ti=>match ti.desc with
  | .struct fs=>on fs[k]? fun f=>on (aR f.2) fun tf=>tf.size≠0 ∧
   match x with
   | .ip oa cs=>K (.ip (oa.map (·.add f.1)) (cs.drop f.1)) .pure
   | .mp id off=>K (.mp id (off+f.1)) .pure
   | _=>False
  | _=>False
def y0(aR:ed)(s:TypeId)(k:Nat)(x:ae)(K:fK):Prop :=
 on (aR s) fun ti=>match ti.desc with
  | .struct fs=>on fs[k]? fun f=>on (aR f.2) fun tf=>match x with
   | .agg cs=>oE tf.desc.agg (fun _=>K (.agg ((cs.drop f.1).take tf.size)) .pure) (fun _=>on cs[f.1]? fun r=>K r .pure)
   | _=>False
  | _=>False
def Ef(aR:ed)(O:List al)(t:TypeId)(x:ae)(K:fK):Prop :=
 on (aR t) fun ti =>
  match x with
  | .ip _ cs=>oE ti.desc.agg (fun _=>ti.size<=cs.length∧K (.agg (cs.take ti.size)) .pure) (fun _=>on cs[0]? fun c=>K c .pure)
  | .mp id off=>on O[id]? fun
   | .cells os=>oE ti.desc.agg (fun _=>off+ti.size<=os.length∧K (.agg ((os.drop off).take ti.size)) (.rd id)) (fun _=>on os[off]? fun c=>K c (.rd id))
   | _=>False
  | _=>False
def y2(aR:ed)(O:List al)(t:TypeId)(x y:ae)(K:fK):Prop :=
 on (aR t) fun ti =>
  match x with
  | .mp id off=>on O[id]? fun
   | .cells os=>y.flat∧y.cells.length=ti.size∧off+ti.size<=os.length∧K (.v (.bool false)) (.wr O.length [id] (O.set id (.cells (bk os off y.cells))))
   | _=>False
  | _=>False
def nC(aR:ed)(t:TypeId)(x i:ae)(K:fK):Prop :=
 on (aR t) fun ti=>match ti.desc with
  | .slice e=>on (aR e) fun te =>
   match i with
   | .v (.int _ n) =>
    (match x with
    | .aB sz xs ow=>te.size=sz∧0<=n∧on xs[n.toNat]? fun y=>K (.ip (qB ow (n.toNat*te.size)) y.cells) .pure
    | .ms id off len _=>0<=n∧n<len∧K (.mp id (off+n.toNat*te.size)) .pure
    | .os id len _=>0<=n∧n<len∧K (.mp id (n.toNat*te.size)) .pure
    | _=>False)
   | _=>False
  | .array len e=>on (aR e) fun te =>
   match i with
   | .v (.int _ n) =>
    (match x with
    | .mp id off=>0<=n∧n<len∧K (.mp id (off+n.toNat*te.size)) .pure
    | .ip _ cs=>0<=n∧n<len∧K (.ip none (cs.drop (n.toNat*te.size))) .pure
    | _=>False)
   | _=>False
  | _=>False
def tT:BinOp->ByteArray->ByteArray->Option Bool
 | .eql,a,b=>some (decide (a=b))
 | .neq,a,b=>some (!decide (a=b))
 | _,_,_=>none
def qd:BinOp->Bool->Bool->Option Bool
 | .eql,a,b=>some (a == b)
 | .neq,a,b=>some (!(a == b))
 | _,_,_=>none
def FM(op:BinOp)(k:IntKind)(m n:Int)(K:fK):Prop :=
 oE (j' op m n).isSome (fun _=>on (j' op m n) fun b=>K (.v (.bool b)) .pure) (fun _=>on (dU k op m n) fun r=>Lm k<=r∧r<=GC k∧K (.v (.int k r)) .pure)
def jd:BinOp->Bool->Option Bool
 | .eql,b=>some b
 | .neq,b=>some (!b)
 | _,_=>none
def Hk:ae->Option Bool
 | .v (.pointer none)=>some true
 | .ip _ _=>some false
 | .mp _ _=>some false
 | _=>none
theorem Hl{x:ae}{b:Bool}(h:Hk x=some b):(x=.v (.pointer none)∧b=true)∨(∃oa cs,x=.ip oa cs∧b=false)∨(∃id off,x=.mp id off∧b=false):=by
 unfold Hk at h;split at h
 ·exact .inl ⟨rfl,by simpa using h.symm⟩
 ·exact .inr (.inl ⟨_,_,rfl,by simpa using h.symm⟩)
 ·exact .inr (.inr ⟨_,_,rfl,by simpa using h.symm⟩)
 cases h
def Pd(P:Program)(op:BinOp)(t:TypeId)(x:ae)(K:fK):Prop :=
 (∃e,P.underlying t=some (.pointer e))∧on (Hk x) fun b=>on (jd op b) fun r=>K (.v (.bool r)) .pure
def oS(P:Program)(op:BinOp)(t:TypeId)(x y:ae)(K:fK):Prop :=
 match x,y with
 | .v (.int k m),.v (.int k' n)=>oE (dq op) (fun _=>0<=n∧Lm k<=eI k op m n∧eI k op m n<=GC k∧K (.v (.int k (eI k op m n))) .pure) (fun _=>k=k'∧FM op k m n K)
 | .v (.string a),.v (.string b)=>on (tT op a b) fun r=>K (.v (.bool r)) .pure
 | .v (.bool a),.v (.bool b)=>P.underlying t=some .bool∧on (qd op a b) fun r=>K (.v (.bool r)) .pure
 | x,.v (.pointer none)=>Pd P op t x K
 | .ip (some a) _,.ip (some b) _=>(∃e n,P.underlying t=some (.pointer e)∧(∀w,(sizeOf e).run P w=.ok n w)∧n≠0)∧a.block=b.block∧on (qc op a b) fun r=>K (.v (.bool r)) .pure
 | .agg [.v (.int k a0),.v (.int k1 a1)],.agg [.v (.int k2 b0),.v (.int k3 b1)]=>(k1=k∧k2=k∧k3=k∧tl P t k)∧on (jd op (decide (a0=b0)&&decide (a1=b1))) fun r=>K (.v (.bool r)) .pure
 | _,_=>False
def TD.elem:TD->Option TypeId
 | .slice e=>some e
 | _=>none
theorem TD.lk{d:TD}{e:TypeId}(h:d.elem=some e):d=.slice e:=by
 cases d<;>simp[TD.elem]at h;rw[h]
def Dw:ae->Option Bool
 | .v (.slice none 0 0)=>some true
 | .aB _ _ .nn=>some false
 | .ms _ _ _ _=>some false
 | _=>none
def KX(aR:ed)(op:BinOp)(t:TypeId)(x:ae)(K:fK):Prop :=
 on (aR t) fun ti=>on ti.desc.elem fun _=>on (Dw x) fun b=>on (jd op b) fun r=>K (.v (.bool r)) .pure
def K0(op:UnOp)(x:ae)(K:fK):Prop :=
 match op,x with
 | .not,.v (.bool b)=>K (.v (.bool !b)) .pure
 | .neg,.v (.int k n)=>Lm k<=-n∧-n<=GC k∧K (.v (.int k (-n))) .pure
 | _,_=>False
def HK(σ:St)(p:Option Operand)(CH:Nat)(K:Nat->Prop):Prop :=
 match p with
 | none=>K CH
 | some q=>on (σ.ev q) fun
  | .v (.int _ n)=>0<=n∧K n.toNat
  | _=>False
def BH(sz:Nat)(xs:List ae)(o:pP)(l h:Nat)(K:fK):Prop :=
 match o with
 | .ex=>oE (decide (l=0)&&decide (h=xs.length)) (fun _=>K (.aB sz xs .ex) .pure) (fun _=>K (.aB sz ((xs.take h).drop l) .sh) .pure)
 | _=>K (.aB sz ((xs.take h).drop l) .sh) .pure
theorem Ed{sz:Nat}{xs:List ae}{o:pP}{l h:Nat}{K:fK}(k:BH sz xs o l h K):(o=.ex∧l=0∧h=xs.length∧K (.aB sz xs .ex) .pure)∨K (.aB sz ((xs.take h).drop l) .sh) .pure:=by
 unfold BH at k;split at k
 ·by_cases hf:(decide (l=0)&&decide (h=xs.length))=true
  ·rw[hf,dF]at k;simp only[Bool.and_eq_true,decide_eq_true_eq]at hf;exact .inl ⟨rfl,hf.1,hf.2,k⟩
  rw[show(decide (l=0)&&decide (h=xs.length))=false by simpa using hf,c9]at k;exact .inr k
 exact .inr k
def y1(aR:ed)(σ:St)(t:TypeId)(x:ae)(lo hi mx:Option Operand)(K:fK):Prop :=
 on (aR t) fun ti=>match ti.desc with
  | .slice e=>on (aR e) fun te =>
   match x,mx with
   | .aB sz xs ow,none=>te.size=sz∧HK σ lo 0 fun l=>HK σ hi xs.length fun h=>l<=h∧h<=xs.length∧BH sz xs ow l h K
   | .ms id off len cap,none=>HK σ lo 0 fun l=>HK σ hi len fun h=>l<=h∧h<=cap∧l<cap∧h<=2 ^ 62∧K (.ms id (off+l*te.size) (h-l) (cap-l)) .pure
   | .raw sz len id,none=>0<len∧HK σ lo 0 fun l=>HK σ hi len fun h=>l=0∧h=0∧K (.aB sz [] (.tok id)) .pure
   | .os id len sz,none=>HK σ lo 0 fun l=>HK σ hi len fun h=>l=0∧h<=len∧0<len∧K (.os id h sz) .pure
   | _,_=>False
  | _=>False
def lN:List (Nat×ae)->Prop
 | []=>True
 | p::r=>p.2.flat∧lN r
def pR(n:Nat):List ae->Prop
 | []=>True
 | x::r=>x.cells.length=n∧pR n r
def yX(aR:ed)(σ:St)(t:TypeId)(parts:Array (Nat×Operand))(K:fK):Prop :=
 on (aR t) fun ti=>match ti.desc with
  | .struct fs=>on (iz aR fs) fun pl=>on (σ.eA parts.toList) fun ps=>lN ps∧on (iu (fun i=>pl[i]?) ti.zero ps) fun cs=>K (.agg cs) .pure
  | .array _ e=>on (aR e) fun te=>on (σ.eA parts.toList) fun ps=>lN ps∧on (iu (fun i=>some (i*te.size,te.size)) ti.zero ps) fun cs=>K (.agg cs) .pure
  | _=>False
def mr(aR:ed)(σ:St)(t:TypeId)(len:Nat)(parts:Array (Nat×Operand))(K:fK):Prop :=
 on (aR t) fun ti=>match ti.desc with
  | .slice e=>on (aR e) fun te=>on (σ.eA parts.toList) fun ps=>lN ps∧on (fW 0 ps) fun xs=>0<te.size∧xs.length=len∧pR te.size xs∧len*te.size<=2 ^ 24∧K (.aB te.size (xs.map ae.share) .ex) .pure
  | _=>False
structure Md where
 app:Bool
 made:Bool
def nD(mk:Bool)(aR:ed)(O:List al)(t:TypeId)(x y:ae)(K:fK):Prop :=
 on (aR t) fun ti=>match ti.desc with
  | .slice e=>on (aR e) fun te =>
   match x,y with
   | .v (.int _ n),.v (.int _ n')=>n'=n∧0<=n∧te.bytes*n.toNat<=2 ^ 48∧n.toNat<=2 ^ 62∧0<te.size ∧
     oE mk (fun _=>(te.desc.agg=true∨te.size=1)∧K (.aB te.size (List.replicate n.toNat (zeroOf te).share) .ex) .pure)
      (fun _=>K (.ms O.length 0 n.toNat n.toNat) (.wr O.length [] (O++[.cells (List.replicate n.toNat te.zero).flatten])))
   | _,_=>False
  | _=>False
def Dj(P:Program)(k:TypeId):Option KT :=
 match P.underlying k with
 | some .string=>some .str
 | some (.int k)=>some (.int k)
 | _=>none
def vg(P:Program)(aR:ed)(O:List al)(t:TypeId)(x y:ae)(ok:Bool)(K:fK):Prop :=
 on (aR t) fun ti=>match ti.desc with
  | .map k e=>on (Dj P k) fun kt=>on (aR e) fun te=>(te.desc.agg=true∨te.size=1) ∧
   match y with
   | .v key=>kt.ok key ∧
    (match x with
    | .im T7 es=>T7=kt∧K (kN ok (jM es key) (zeroOf te)) .pure
    | .mm id=>on O[id]? fun
     | .map T7 es=>T7=kt∧K (kN ok (jM es key) (zeroOf te)) (.rd id)
     | _=>False
    | .v (.map none)=>K (kN ok none (zeroOf te)) .pure
    | _=>False)
   | _=>False
  | _=>False
def jz(P:Program)(aR:ed)(O:List al)(t:TypeId)(x y v:ae)(K:fK):Prop :=
 on (aR t) fun ti=>match ti.desc with
  | .map k _=>on (Dj P k) fun kt =>
   match x,y with
   | .mm id,.v key=>kt.ok key∧on O[id]? fun
    | .map T7 es=>T7=kt∧K (.v (.bool false)) (.wr O.length [id] (O.set id (.map kt (mf es key v))))
    | _=>False
   | _,_=>False
  | _=>False
def rN(P:Program)(aR:ed)(O:List al)(t:TypeId)(K:fK):Prop :=
 on (aR t) fun ti=>match ti.desc with
  | .map k _=>on (Dj P k) fun kt=>K (.mm O.length) (.wr O.length [] (O++[.map kt []]))
  | _=>False
def GV:ae->Option Nat
 | .aB _ xs _=>some xs.length
 | .ms _ _ len _=>some len
 | .os _ len _=>some len
 | _=>none
def KV(aR:ed)(t:TypeId)(x:ae)(K:fK):Prop :=
 on (aR t) fun ti=>on ti.desc.elem fun _=>on (GV x) fun n=>K (.v (.int .i64 n)) .pure
theorem GW{x:ae}{n:Nat}(h:GV x=some n):(∃sz xs ow,x=.aB sz xs ow∧n=xs.length)∨(∃id off cap,x=.ms id off n cap)∨∃id sz,x=.os id n sz:=by
 cases x<;>simp[GV]at h
 ·exact .inl ⟨_,_,_,rfl,h.symm⟩
 ·subst h;exact .inr (.inl ⟨_,_,_,rfl⟩)
 subst h;exact .inr (.inr ⟨_,_,rfl⟩)
def ve(P:Program)(mk:Bool)(md:Bool)(aR:ed)(O:List al)(t t':TypeId)(x y:ae)(K:fK):Prop :=
 on (aR t) fun ti=>on ti.desc.elem fun e=>on (aR e) fun te =>
   match x,y with
   | .aB sz xs .ex,.aB Uf ys _=>t'=t∧te.size=sz∧Uf=sz∧xs.length+ys.length<=2 ^ 62∧(xs.length+ys.length)*te.bytes<=2 ^ 47 ∧
     oE md (fun _=>ys.length≠0∧oE mk (fun _=>K (.os O.length (xs.length+ys.length) sz) (.wr O.length [] (O++[.cells (ao (xs++ys.map ae.share))])))
       (fun _=>K (.ms O.length 0 (xs.length+ys.length) (xs.length+ys.length)) (.wr O.length [] (O++[.cells (ao (xs++ys.map ae.share))]))))
      (fun _=>K (.aB sz (xs++ys.map ae.share) (.tok O.length)) (.wr O.length [] (O++[.spare (xs.length+ys.length)])))
   | .aB sz xs (.tok id),.aB Uf ys _=>t'=t∧te.size=sz∧Uf=sz∧O[id]?=some (.spare xs.length)∧xs.length+ys.length<=2 ^ 62∧(xs.length+ys.length)*te.bytes<=2 ^ 47 ∧
     K (.aB sz (xs++ys.map ae.share) (.tok id)) (.wr O.length [id] (O.set id (.spare (xs.length+ys.length))))
   | .aB _ xs .ex,.v (.int k n)=>xs=[]∧k=.i64∧P.underlying t'=some (.int .i64)∧0<n∧n.toNat<=2 ^ 62∧n.toNat*te.bytes<=2 ^ 47∧0<te.size ∧
     oE md (fun _=>K (.raw te.size n.toNat O.length) (.wr O.length [] (O++[.spare 0])))
      (fun _=>K (.ms O.length 0 n.toNat n.toNat) (.wr O.length [] (O++[.cells (List.replicate n.toNat te.zero).flatten])))
   | .ms id off len cap,.aB sz ys _=>t'=t∧te.size=sz∧on O[id]? fun
    | .cells cs=>len+ys.length<=cap∧len+ys.length<=2 ^ 62∧off+(len+ys.length)*sz<=cs.length ∧
     K (.ms id off (len+ys.length) cap) (.wr O.length [id] (O.set id (.cells (bk cs (off+len*sz) (ao (ys.map ae.share))))))
    | _=>False
   | .os id len sz,.aB Uf ys _=>t'=t∧te.size=sz∧Uf=sz∧on O[id]? fun
    | .cells cs=>len*sz<=cs.length∧ys.length≠0∧len+ys.length<=2 ^ 62∧(len+ys.length)*te.bytes<=2 ^ 47 ∧
     K (.os O.length (len+ys.length) sz) (.wr O.length [id] (O.set id .gone++[.cells (cs.take (len*sz)++ao (ys.map ae.share))]))
    | _=>False
   | _,_=>False
def Ih:ae->Option Nat
 | .aB _ xs .ex=>some xs.length
 | _=>none
theorem F1{x:ae}{n:Nat}(h:Ih x=some n):∃sz xs,x=.aB sz xs .ex∧n=xs.length:=by
 unfold Ih at h;split at h
 ·exact⟨_,_,rfl,by simpa using h.symm⟩
 cases h
def KU(aR:ed)(t:TypeId)(x:ae)(K:fK):Prop :=
 on (aR t) fun ti=>on ti.desc.elem fun _=>on (Ih x) fun n=>K (.v (.int .i64 n)) .pure
def yZ(aR:ed)(O:List al)(t:TypeId)(x:ae)(K:fK):Prop :=
 on (aR t) fun ti=>on ti.desc.elem fun e=>on (aR e) fun te=>match x with
  | .ms id off len _=>on O[id]? fun
   | .cells cs=>0<len∧0<te.size∧off+len*te.size<=cs.length∧K (.cK []) (.wr O.length [id] (O.set id (.cells (bk cs off (List.replicate len te.zero).flatten))))
   | _=>False
  | _=>False
def KZ(x y:ae)(K:fK):Prop :=
 match x,y with
 | .v (.int .i64 m),.v (.int .i64 n)=>K (.v (.int .i64 (max m n))) .pure
 | _,_=>False
def KW(x y:ae)(K:fK):Prop :=
 match x,y with
 | .v (.int .i64 m),.v (.int .i64 n)=>K (.v (.int .i64 (min m n))) .pure
 | _,_=>False
theorem Iy{P:Program}{o:Oper}{σ:St}{qW:Array TypeId}{x y:Operand}{m n:Int}
  (ho:o.op=.call ⟨.builtin .max,#[x,y],qW⟩) (hd:∀d,o.dst=some d->d<σ.n) (hx:σ.ev x=some (.v (.int .i64 m))) (hy:σ.ev y=some (.v (.int .i64 n))):Cert P o σ (.v (.int .i64 (max m n))) .pure :=
 Cert.bK .pure (.inl rfl) hd fun a g _ h _=>by
  obtain⟨ex,fx⟩:=(h x (by simp[ho,Op.operands,Call.operands]) _ hx).bV;obtain⟨ey,fy⟩:=(h y (by simp[ho,Op.operands,Call.operands]) _ hy).bV;refine⟨.int .i64 (max m n),?_,.v ?_⟩
  ·rw[cC ho];have e:(if n > m then n else m)=max m n:=by
    split<;>omega
   simp[builtin,Builtin.max_,Builtin.max2,ex,ey,e]
  rcases Int.le_total m n with q|q
  ·rw[Int.max_eq_right q];exact fy
  rw[Int.max_eq_left q];exact fx
theorem Iu{P:Program}{o:Oper}{σ:St}{qW:Array TypeId}{x y:Operand}{m n:Int}
  (ho:o.op=.call ⟨.builtin .min,#[x,y],qW⟩) (hd:∀d,o.dst=some d->d<σ.n) (hx:σ.ev x=some (.v (.int .i64 m))) (hy:σ.ev y=some (.v (.int .i64 n))):Cert P o σ (.v (.int .i64 (min m n))) .pure :=
 Cert.bK .pure (.inl rfl) hd fun a g _ h _=>by
  obtain⟨ex,fx⟩:=(h x (by simp[ho,Op.operands,Call.operands]) _ hx).bV;obtain⟨ey,fy⟩:=(h y (by simp[ho,Op.operands,Call.operands]) _ hy).bV;refine⟨.int .i64 (min m n),?_,.v ?_⟩
  ·rw[cC ho];have e:(if n<m then n else m)=min m n:=by
    split<;>omega
   simp[builtin,Builtin.min_,Builtin.min2,ex,ey,e]
  rcases Int.le_total m n with q|q
  ·rw[Int.min_eq_left q];exact fx
  rw[Int.min_eq_right q];exact fy
def yY(P:Program)(O:List al)(f:ae)(dA:List ae)(K:fK):Prop :=
 match f with
 | .fn (.func id) fs cs =>
  (∃r,bh P id ((fs++dA++cs).map ae.share) r∧au 0 ((fs++dA++cs).map ae.share)∧wu fun _=>K r .pure) ∨
  (∃r O',(ba P id O (fs++dA++cs) fun r' O1=>r'=r∧O1=O')∧((wu fun _=>K r (.write O'))∨∃n l,(∀i,i<n->i ∉ l->O'[i]?=O[i]?)∧wu fun _=>K r (.wr n l O'))) ∨
  (∃r,(ba P id O (fs++dA++cs) fun r' O1=>r'=r∧O1=O)∧wu fun _=>K r .read)
 | _=>False
def dI(P:Program)(aR:ed)(md:Md)(dst:Option Nat)(σ:St)(callee:Callee)(args:List Operand)(qW:List TypeId)(K:fK):Prop :=
 match callee with
 | .value f=>on (σ.ev f) fun f=>on (σ.Aa args) fun dA=>yY P σ.objs f dA K
 | .builtin .len =>
  (match args,qW with
  | [x],[t]=>on (σ.ev x) fun x=>KV aR t x K
  | _,_=>False)
 | .builtin .append =>
  (match args,qW with
  | [x,y],[t,t']=>on (σ.ev x) fun x=>on (σ.ev y) fun y=>ve P md.made md.app aR σ.objs t t' x y K
  | _,_=>False)
 | .builtin .cap =>
  (match args,qW with
  | [x],[t]=>on (σ.ev x) fun x=>KU aR t x K
  | _,_=>False)
 | .builtin .clear =>
  (match args,qW with
  | [x],[t]=>dst=none∧on (σ.ev x) fun x=>yZ aR σ.objs t x K
  | _,_=>False)
 | .builtin .max =>
  (match args with
  | [x,y]=>on (σ.ev x) fun x=>on (σ.ev y) fun y=>KZ x y K
  | _=>False)
 | .builtin .min =>
  (match args with
  | [x,y]=>on (σ.ev x) fun x=>on (σ.ev y) fun y=>KW x y K
  | _=>False)
 | _=>False
def kp(y:ae)(K:fK):Prop :=
 match y with
 | .mp id off=>K (.mp id off) .pure
 | .ip oa cs=>K (.ip oa cs) .pure
 | _=>False
def KY(P:Program)(aR:ed)(md:Md)(o:Oper)(σ:St)(K:fK):Prop :=
 match o.op with
 | .move x=>vh aR o.type x σ K
 | .assign x=>vh aR o.type x σ K
 | .pick c x z=>Eg σ c x z K
 | .fieldAddr s x k=>on (σ.ev x) fun x=>nB aR s k x K
 | .field s x k=>on (σ.ev x) fun x=>y0 aR s k x K
 | .load t x=>on (σ.ev x) fun x=>Ef aR σ.objs t x K
 | .store t x y=>o.dst=none∧on (σ.ev x) fun x=>on (σ.ev y) fun y=>y2 aR σ.objs t x y K
 | .indexAddr t x i=>on (σ.ev x) fun x=>on (σ.ev i) fun i=>nC aR t x i K
 | .binOp op t x y _=>oE (isNil y) (fun _=>on (σ.ev x) fun x=>KX aR op t x K) (fun _=>on (σ.ev x) fun x=>on (σ.ev y) fun y=>oS P op t x y K)
 | .unOp op _ x=>on (σ.ev x) fun x=>K0 op x K
 | .slice t x lo hi mx=>on (σ.ev x) fun x=>y1 aR σ t x lo hi mx K
 | .build t parts=>yX aR σ t parts K
 | .buildSlice t len parts=>mr aR σ t len parts K
 | .alloc t=>on (aR t) fun ti=>K (.mp σ.objs.length 0) (.wr σ.objs.length [] (σ.objs++[.cells ti.zero]))
 | .box _ x=>on (σ.ev x) fun y=>y.flat∧K (.mp σ.objs.length 0) (.wr σ.objs.length [] (σ.objs++[.cells y.cells]))
 | .makeMap t none=>rN P aR σ.objs t K
 | .makeSlice t x y=>on (σ.ev x) fun x=>on (σ.ev y) fun y=>nD md.made aR σ.objs t x y K
 | .makeFunc f first captured=>on (σ.Aa first.toList) fun fs=>on (σ.Aa captured.toList) fun cs=>K (.fn f fs cs) .pure
 | .lookup t x y ok=>on (σ.ev x) fun x=>on (σ.ev y) fun y=>vg P aR σ.objs t x y ok K
 | .mapUpdate t x y v=>o.dst=none∧on (σ.ev x) fun x=>on (σ.ev y) fun y=>on (σ.ev v) fun v=>jz P aR σ.objs t x y v K
 | .insert t x y v=>o.dst=none∧on (σ.ev x) fun x=>on (σ.ev y) fun y=>on (σ.ev v) fun v=>jz P aR σ.objs t x y v K
 | .extract x k=>on (σ.ev x) fun
  | .cK cs=>on cs[k]? fun r=>K r .pure
  | _=>False
 | .call c=>dI P aR md o.dst σ c.callee c.args.toList c.argTypes.toList K
 | .nilCheck x=>on (σ.ev x) fun y=>kp y K
 | _=>False
theorem eE{O X:List al}:∀i,i<O.length->i ∉ ([]:List Nat)->(O++X)[i]?=O[i]?:=fun _ hi _=>List.getElem?_append_left hi
theorem lu{O:List al}{id:Nat}{x:al}:∀i,i<O.length->i ∉ [id]->(O.set id x)[i]?=O[i]?:=fun i _ hl=>List.getElem?_set_ne (fun e=>hl (by simp[e]))
theorem GR{O:List al}{id:Nat}{x y:al}:∀i,i<O.length->i ∉ [id]->(O.set id x++[y])[i]?=O[i]?:=fun i hi hl=>by
 rw[List.getElem?_append_left (by simpa using hi)];exact List.getElem?_set_ne (fun e=>hl (by simp[e]))
theorem Dh{x:Operand}(hn:isNil x=true):x=.const (.slice none 0 0):=by
 unfold isNil at hn;split at hn
 ·rfl
 cases hn
theorem G6{y:ae}{b:Bool}(h:Dw y=some b):(y=.v (.slice none 0 0)∧b=true)∨(∃sz xs,y=.aB sz xs .nn∧b=false)∨(∃id off len cap,y=.ms id off len cap∧b=false):=by
 unfold Dw at h;split at h
 ·exact .inl ⟨rfl,by simpa using h.symm⟩
 ·exact .inr (.inl ⟨_,_,rfl,by simpa using h.symm⟩)
 ·exact .inr (.inr ⟨_,_,_,_,rfl,by simpa using h.symm⟩)
 cases h
theorem mc{op:BinOp}{b r:Bool}(h:jd op b=some r):(op=.eql∧r=b)∨(op=.neq∧r=!b):=by
 unfold jd at h;split at h
 ·exact .inl ⟨rfl,by simpa using h.symm⟩
 ·exact .inr ⟨rfl,by simpa using h.symm⟩
 cases h
theorem qT{P:Program}{aR:ed}{o:Oper}{σ:St}{x:Operand}{K:fK}(ho:o.op=.move x∨o.op=.assign x)(hd:∀d,o.dst=some d->d<σ.n)(h:vh aR o.type x σ K):∃r m,Cert P o σ r m∧K r m:=by
 unfold vh at h;cases hn:isNil x with
 | true =>
  have hx:x=.const (.slice none 0 0):=by
   unfold isNil at hn;split at hn
   ·rfl
   cases hn
  subst hx;simp only[hn]at h;obtain⟨ti,_,h⟩:=aD h;split at h
  ·obtain⟨te,_,h⟩:=aD h;exact⟨_,_,Iw te.size ho hd,h⟩
  exact h.elim
 | false =>
  simp only[hn]at h;obtain⟨y,hy,h⟩:=aD h;exact⟨_,_,F5 ho hd hy,h⟩
theorem rA{P:Program}{k:TypeId}{kt:KT}(h:Dj P k=some kt):∃d,P.underlying k=some d∧kt.desc d:=by
 unfold Dj at h;split at h
 ·simp only[Option.some.injEq]at h;subst h;exact⟨_,by assumption,rfl⟩
 ·simp only[Option.some.injEq]at h;subst h;exact⟨_,by assumption,rfl⟩
 cases h
theorem jO:∀{l:List (Nat×ae)},lN l->∀p∈l,p.2.flat
 | [],_,p,hp=>by cases hp
 | q::r,h,p,hp=>by
  rcases List.mem_cons.1 hp with e|e
  ·subst e;exact h.1
  exact jO h.2 p e
theorem pS{n:Nat}:∀{l:List ae},pR n l->∀x∈l,x.cells.length=n
 | [],_,p,hp=>by cases hp
 | q::r,h,p,hp=>by
  rcases List.mem_cons.1 hp with e|e
  ·subst e;exact h.1
  exact pS h.2 p e
theorem jg{σ:St}{p:Option Operand}{CH:Nat}{K:Nat->Prop}(h:HK σ p CH K):∃n,mR σ p CH n∧K n:=by
 unfold HK at h;split at h
 ·exact⟨CH,.inl ⟨rfl,rfl⟩,h⟩
 rename_i q;obtain⟨y,hy,h⟩:=aD h;split at h
 ·rename_i k n;obtain⟨h1,h2⟩:=h;exact⟨n.toNat,.inr ⟨q,k,rfl,by rw[Int.toNat_of_nonneg h1];exact hy⟩,h2⟩
 exact h.elim
theorem BI{P:Program}{o:Oper}{σ:St}{op:BinOp}{t t':TypeId}{x y:Operand}{k:IntKind}{m n:Int}{K:fK}(ho:o.op=.binOp op t x y t')(hd:∀d,o.dst=some d->d<σ.n)(hx:σ.ev x=some (.v (.int k m)))(hy:σ.ev y=some (.v (.int k n)))
  (h:FM op k m n K):∃r m,Cert P o σ r m∧K r m:=by
 unfold FM at h;cases PG:j' op m n with
 | some b =>
  simp only[PG,Option.isSome_some,dF,yv]at h;exact⟨_,_,zK ho hd hx hy PG,h⟩
 | none =>
  simp only[PG,Option.isSome_none,c9]at h;obtain⟨r,hr,h1,h2,h⟩:=aD h;rw[Dp]at h1;rw[C9]at h2;exact⟨_,_,vy ho hd hx hy hr h1 h2,h⟩
theorem vi{P:Program}{aR:ed}{md:Md}(hT:bY P aR){o:Oper}{σ:St}{K:fK}(hd:∀d,o.dst=some d->d<σ.n)(h:KY P aR md o σ K):∃r m,Cert P o σ r m∧K r m:=by
 unfold KY at h;split at h
 case h_1 x ho=>exact qT (.inl ho) hd h
 case h_2 x ho=>exact qT (.inr ho) hd h
 case h_3 c x z ho =>
  unfold Eg at h;obtain⟨y,hy,h⟩:=aD h;split at h
  ·rename_i b;cases b
   ·rw[c9]at h;obtain⟨r,hr,h⟩:=aD h;exact⟨_,_,wC ho hd hy (by simp) (fun _=>hr),h⟩
   rw[dF]at h;obtain⟨r,hr,h⟩:=aD h;exact⟨_,_,wC ho hd hy (fun _=>hr) (by simp),h⟩
  exact h.elim
 case h_4 s x k ho =>
  obtain⟨y,hy,h⟩:=aD h;unfold nB at h;obtain⟨ti,ht,h⟩:=aD h;split at h
  ·rename_i fs aP;obtain⟨f,hf,h⟩:=aD h;obtain⟨tf,TV,hz,h⟩:=aD h;split at h
   ·exact⟨_,_,p8 hT ho hd ht aP hf TV hz hy,h⟩
   ·exact⟨_,_,p9 hT ho hd ht aP hf TV hz hy,h⟩
   exact h.elim
  exact h.elim
 case h_5 s x k ho =>
  obtain⟨y,hy,h⟩:=aD h;unfold y0 at h;obtain⟨ti,ht,h⟩:=aD h;split at h
  ·rename_i fs aP;obtain⟨f,hf,h⟩:=aD h;obtain⟨tf,TV,h⟩:=aD h;split at h
   ·cases e9:tf.desc.agg with
    | true =>
     simp only[e9,dF]at h;exact⟨_,_,tM hT ho hd ht aP hf TV hy (by rw[if_pos e9]),h⟩
    | false =>
     simp only[e9,c9]at h;obtain⟨r,hr,h⟩:=aD h;exact⟨_,_,tM hT ho hd ht aP hf TV hy (by rw[if_neg (by simp[e9])];exact hr),h⟩
   exact h.elim
  exact h.elim
 case h_6 t x ho =>
  obtain⟨y,hy,h⟩:=aD h;unfold Ef at h;obtain⟨ti,ht,h⟩:=aD h;split at h
  ·cases e9:ti.desc.agg with
   | true =>
    simp only[e9,dF]at h;exact⟨_,_,xT hT ho hd ht hy e9 h.1,h.2⟩
   | false =>
    simp only[e9,c9]at h;obtain⟨c,hc,h⟩:=aD h;exact⟨_,_,vC hT ho hd ht hy e9 hc,h⟩
  ·obtain⟨os,OM,h⟩:=aD h;split at h
   ·cases e9:ti.desc.agg with
    | true =>
     simp only[e9,dF]at h;exact⟨_,_,xU hT ho hd ht hy OM e9 h.1,h.2⟩
    | false =>
     simp only[e9,c9]at h;obtain⟨c,hc,h⟩:=aD h;exact⟨_,_,vD hT ho hd ht hy OM e9 hc,h⟩
   exact h.elim
  exact h.elim
 case h_7 t x y ho =>
  obtain⟨jm,h⟩:=h;obtain⟨x',hx,h⟩:=aD h;obtain⟨y',hy,h⟩:=aD h;unfold y2 at h;obtain⟨ti,ht,h⟩:=aD h;split at h
  ·obtain⟨os,OM,h⟩:=aD h;split at h
   ·obtain⟨h1,h2,h3,h⟩:=h;exact⟨_,_,(CB hT ho jm ht hx OM hy h1 h2 h3).close lu,h⟩
   exact h.elim
  exact h.elim
 case h_8 t x i ho =>
  obtain⟨x',hx,h⟩:=aD h;obtain⟨i',hi,h⟩:=aD h;unfold nC at h;obtain⟨ti,ht,h⟩:=aD h;split at h
  ·rename_i e aP;obtain⟨te,he,h⟩:=aD h;split at h
   ·split at h
    ·obtain⟨h1,h2,h⟩:=h;obtain⟨y,h3,h⟩:=aD h;exact⟨_,_,pc hT ho hd ht aP he h1 hx hi h2 h3,h⟩
    ·obtain⟨h1,h2,h⟩:=h;exact⟨_,_,qa hT ho hd ht aP he hx hi h1 h2,h⟩
    ·obtain⟨h1,h2,h⟩:=h;exact⟨_,_,qb hT ho hd ht aP he hx hi h1 h2,h⟩
    exact h.elim
   exact h.elim
  ·rename_i len e aP;obtain⟨te,he,h⟩:=aD h;split at h
   ·split at h
    ·obtain⟨h1,h2,h⟩:=h;exact⟨_,_,o9 hT ho hd ht aP he hx hi h1 h2,h⟩
    ·obtain⟨h1,h2,h⟩:=h;exact⟨_,_,mF hT ho hd ht aP he hx hi h1 h2,h⟩
    exact h.elim
   exact h.elim
  exact h.elim
 case h_9 op t x y t' ho =>
  cases hn:isNil y with
  | true =>
   simp only[hn,dF]at h;have hy:=Dh hn;subst hy;obtain⟨x',hx,h⟩:=aD h;unfold KX at h;obtain⟨ti,ht,h⟩:=aD h;obtain⟨e,aP,h⟩:=aD h;obtain⟨b,hb,h⟩:=aD h;obtain⟨r,hr,h⟩:=aD h;exact⟨_,_,zP hT ho hd ht (TD.lk aP) hx (G6 hb) (mc hr),h⟩
  | false =>
  simp only[hn,c9]at h;obtain⟨x',hx,h⟩:=aD h;obtain⟨y',hy,h⟩:=aD h;unfold oS at h;split at h
  ·cases hs:dq op with
   | true =>
    simp only[hs,dF]at h;obtain⟨h0,h1,h2,h⟩:=h;rw[Dp]at h1;rw[C9]at h2;exact⟨_,_,vF ho hd hx hy hs h0 h1 h2,h⟩
   | false =>
    simp only[hs,c9]at h;obtain⟨hk,h⟩:=h;subst hk;exact BI ho hd hx hy h
  ·obtain⟨r,hr,h⟩:=aD h;refine⟨_,_,vB ho hd hx hy ?_,h⟩;cases op<;>simp[tT]at hr<;>simp[hr]
  ·obtain⟨hb,h⟩:=h;obtain⟨r,hr,h⟩:=aD h;refine⟨_,_,zN ho hd hb hx hy ?_,h⟩;cases op<;>simp[qd]at hr<;>simp[hr]
  ·obtain⟨⟨e,he⟩,h⟩:=h;obtain⟨b,hb,h⟩:=aD h;obtain⟨r,hr,h⟩:=aD h;exact⟨_,_,vA ho hd he hx hy (Hl hb) (mc hr),h⟩
  ·obtain⟨⟨e,n,he,hn,AI⟩,yd,h⟩:=h;obtain⟨r,hr,h⟩:=aD h;exact⟨_,_,zM ho hd he hn AI hx hy yd hr,h⟩
  ·obtain⟨⟨k1,k2,k3,hP⟩,h9⟩:=h;obtain⟨r,hr,h8⟩:=aD h9;subst k1;subst k2;subst k3;exact⟨_,_,zO ho hd hP hx hy (mc hr),h8⟩
  exact h.elim
 case h_10 op t x ho =>
  obtain⟨x',hx,h⟩:=aD h;unfold K0 at h;split at h
  ·exact⟨_,_,Ix ho hd hx,h⟩
  ·obtain⟨h1,h2,h⟩:=h;rw[Dp]at h1;rw[C9]at h2;exact⟨_,_,Iv ho hd hx h1 h2,h⟩
  exact h.elim
 case h_11 t x lo hi mx ho =>
  obtain⟨x',hx,h⟩:=aD h;unfold y1 at h;obtain⟨ti,ht,h⟩:=aD h;split at h
  ·rename_i e aP;obtain⟨te,he,h⟩:=aD h;split at h
   ·obtain⟨h1,h⟩:=h;obtain⟨l,hl,h⟩:=jg h;obtain⟨hh,oB,h2,h3,h⟩:=jg h;rcases Ed h with⟨e1,e2,e3,hq⟩|hq
    ·subst e1;subst e2;subst e3;exact⟨_,_,sG hT ho hd ht aP he hx hl oB,hq⟩
    exact⟨_,_,CA hT ho hd ht aP he h1 hx hl oB h2 h3,hq⟩
   ·obtain⟨l,hl,h⟩:=jg h;obtain⟨hh,oB,h2,h3,h4,h5,h⟩:=jg h;exact⟨_,_,vG hT ho hd ht aP he hx hl oB h2 h3 h4 h5,h⟩
   ·obtain⟨h1,h⟩:=h;obtain⟨l,hl,hq⟩:=jg h;obtain⟨hh,oB,h2,h3,hz⟩:=jg hq;subst h2;subst h3;exact⟨_,_,tQ hT ho hd ht aP he hx hl oB h1,hz⟩
   ·obtain⟨l,hl,hq⟩:=jg h;obtain⟨hh,oB,h2,h3,h4,hz⟩:=jg hq;subst h2;exact⟨_,_,vH hT ho hd ht aP he hx hl oB h3 h4,hz⟩
   exact h.elim
  exact h.elim
 case h_12 t parts ho =>
  unfold yX at h;obtain⟨ti,ht,h⟩:=aD h;split at h
  ·rename_i fs aP;obtain⟨pl,s7,h⟩:=aD h;obtain⟨ps,mI,gp,h⟩:=aD h;obtain⟨cs,gn,h⟩:=aD h;exact⟨_,_,Cv hT ho hd ht aP s7 mI (jO gp) gn,h⟩
  ·rename_i n e aP;obtain⟨te,he,h⟩:=aD h;obtain⟨ps,mI,gp,h⟩:=aD h;obtain⟨cs,gn,h⟩:=aD h;exact⟨_,_,tK hT ho hd ht aP he mI (jO gp) gn,h⟩
  exact h.elim
 case h_13 t len parts ho =>
  unfold mr at h;obtain⟨ti,ht,h⟩:=aD h;split at h
  ·rename_i e aP;obtain⟨te,he,h⟩:=aD h;obtain⟨ps,mI,gp,h⟩:=aD h;obtain⟨xs,GO,h1,h2,h3,h4,h⟩:=aD h;exact⟨_,_,sD hT ho hd ht aP he h1 mI (jO gp) GO h2 (pS h3) h4,h⟩
  exact h.elim
 case h_14 t ho =>
  obtain⟨ti,ht,h⟩:=aD h;exact⟨_,_,(Cu hT ho hd ht).close eE,h⟩
 case h_15 t x ho =>
  obtain⟨y,hy,hf,h⟩:=aD h;exact⟨_,_,(Is ho hd hy hf).close eE,h⟩
 case h_16 t ho =>
  unfold rN at h;obtain⟨ti,ht,h⟩:=aD h;split at h
  ·obtain⟨kt,PV,h⟩:=aD h;exact⟨_,_,(xV kt ho hd).close eE,h⟩
  exact h.elim
 case h_17 t x y ho =>
  obtain⟨x',hx,h⟩:=aD h;obtain⟨y',hy,h⟩:=aD h;unfold nD at h;obtain⟨ti,ht,h⟩:=aD h;split at h
  ·rename_i e aP;obtain⟨te,he,h⟩:=aD h;split at h
   ·obtain⟨e1,h1,h2,h3,h4,hq⟩:=h;subst e1;by_cases P0:md.made=true
    ·rw[P0,dF]at hq;exact⟨_,_,sF hT ho hd ht aP he hx hy h1 h2 h3 h4 hq.1,hq.2⟩
    rw[show md.made=false by simpa using P0,c9]at hq;exact⟨_,_,(tP hT ho hd ht aP he hx hy h1 h2 h3 h4).close eE,hq⟩
   exact h.elim
  exact h.elim
 case h_18 f first captured ho =>
  obtain⟨fs,Ru,h⟩:=aD h;obtain⟨cs,gn,h⟩:=aD h;exact⟨_,_,vE ho hd Ru gn,h⟩
 case h_19 t x y ok ho =>
  obtain⟨x',hx,h⟩:=aD h;obtain⟨y',hy,h⟩:=aD h;unfold vg at h;obtain⟨ti,ht,h⟩:=aD h;split at h
  ·rename_i k e aP;obtain⟨kt,PV,h⟩:=aD h;obtain⟨d,hk,BS⟩:=rA PV;obtain⟨te,he,di,h⟩:=aD h;split at h
   ·obtain⟨gU,h⟩:=h;split at h
    ·obtain⟨e1,hq⟩:=h;subst e1;exact⟨_,_,tN hT ho hd ht aP hk BS he di hx hy gU,hq⟩
    ·obtain⟨es,PM,h⟩:=aD h;split at h
     case h_2=>exact h.elim
     obtain⟨e1,hq⟩:=h;subst e1;exact⟨_,_,tO hT ho hd ht aP hk BS he di hx PM hy gU,hq⟩
    ·exact⟨_,_,sE hT ho hd ht aP hk BS he di hx hy,h⟩
    exact h.elim
   exact h.elim
  exact h.elim
 case h_20 t x y v ho =>
  obtain⟨jm,h⟩:=h;obtain⟨x',hx,h⟩:=aD h;obtain⟨y',hy,h⟩:=aD h;obtain⟨v',hv,h⟩:=aD h;unfold jz at h;obtain⟨ti,ht,h⟩:=aD h;split at h
  ·rename_i k e aP;obtain⟨kt,PV,h⟩:=aD h;obtain⟨d,hk,BS⟩:=rA PV;split at h
   ·obtain⟨gU,h⟩:=h;obtain⟨es,PM,h⟩:=aD h;split at h
    ·obtain⟨e1,hq⟩:=h;subst e1;exact⟨_,_,(mT hT (.inl ho) jm ht aP hk BS hx PM hy gU hv).close lu,hq⟩
    exact h.elim
   exact h.elim
  exact h.elim
 case h_21 t x y v ho =>
  obtain⟨jm,h⟩:=h;obtain⟨x',hx,h⟩:=aD h;obtain⟨y',hy,h⟩:=aD h;obtain⟨v',hv,h⟩:=aD h;unfold jz at h;obtain⟨ti,ht,h⟩:=aD h;split at h
  ·rename_i k e aP;obtain⟨kt,PV,h⟩:=aD h;obtain⟨d,hk,BS⟩:=rA PV;split at h
   ·obtain⟨gU,h⟩:=h;obtain⟨es,PM,h⟩:=aD h;split at h
    ·obtain⟨e1,hq⟩:=h;subst e1;exact⟨_,_,(mT hT (.inr ho) jm ht aP hk BS hx PM hy gU hv).close lu,hq⟩
    exact h.elim
   exact h.elim
  exact h.elim
 case h_22 x k ho =>
  obtain⟨x',hx,h⟩:=aD h;split at h
  ·obtain⟨r,hr,h⟩:=aD h;exact⟨_,_,xS ho hd hx hr,h⟩
  exact h.elim
 case h_23 c ho =>
  obtain⟨callee,args,qW⟩:=c;simp only at h;unfold dI at h;split at h
  ·obtain⟨f',hf,h⟩:=aD h;obtain⟨dA,has,h⟩:=aD h;unfold yY at h;split at h
   ·rcases h with⟨r,h1,h2,h⟩|⟨r,O',h1,h|⟨n,l,hk,h⟩⟩|⟨r,h1,h⟩
    ·exact⟨_,_,Cy ho hd hf has h1 h2,h⟩
    ·exact⟨_,_,tL ho hd hf has h1,h⟩
    ·exact⟨_,_,(tL ho hd hf has h1).close hk,h⟩
    exact⟨_,_,Cz ho hd hf has h1,h⟩
   exact h.elim
  ·split at h
   ·rename_i x t e1 e2;have ea:args = #[x]:=Array.toList_inj.1 e1;have et:qW = #[t]:=Array.toList_inj.1 e2;subst ea;subst et;obtain⟨x',hx,h⟩:=aD h;unfold KV at h;obtain⟨ti,ht,h⟩:=aD h;obtain⟨e,aP,h⟩:=aD h;obtain⟨n,hn,h⟩:=aD h;exact⟨_,_,It hT ho hd ht (TD.lk aP) hx (GW hn),h⟩
   exact h.elim
  ·split at h
   ·rename_i x y t t' e1 e2;have ea:args = #[x,y]:=Array.toList_inj.1 e1;have et:qW = #[t,t']:=Array.toList_inj.1 e2;subst ea;subst et;obtain⟨x',hx,h⟩:=aD h;obtain⟨y',hy,h⟩:=aD h;unfold ve at h;obtain⟨ti,ht,h⟩:=aD h;obtain⟨e,aP,h⟩:=aD h;have aP:=TD.lk aP;obtain⟨te,he,h⟩:=aD h;split at h
    ·obtain⟨h0,h1,h2,h3,h4,hq⟩:=h;subst h0;subst h2;by_cases Tm:md.app=true
     ·rw[Tm,dF]at hq;obtain⟨X1,UO⟩:=hq;cases P0:md.made with
      | true =>
       rw[P0,dF]at UO;exact⟨_,_,(pZ hT ho hd ht aP he h1 hx hy X1 h3 h4).close eE,UO⟩
      | false =>
       rw[P0,c9]at UO;exact⟨_,_,(sA hT ho hd ht aP he h1 hx hy X1 h3 h4).close eE,UO⟩
     rw[show md.app=false by simpa using Tm,c9]at hq;exact⟨_,_,(tH hT ho hd ht aP he h1 hx hy h3 h4).close eE,hq⟩
    ·obtain⟨h0,h1,h2,h3,h4,h5,hq⟩:=h;subst h0;subst h2;exact⟨_,_,(sC hT ho hd ht aP he h1 hx hy h3 h4 h5).close lu,hq⟩
    ·obtain⟨h0,h1,h2,h3,h4,h5,h6,hq⟩:=h;subst h0;subst h1;cases Tm:md.app with
     | true =>
      rw[Tm,dF]at hq;exact⟨_,_,(sB hT ho hd ht aP he h2 hx hy h3 h4 h5 h6).close eE,hq⟩
     | false =>
      rw[Tm,c9]at hq;exact⟨_,_,(rj hT ho hd ht aP he h2 hx hy h3 h4 h5 h6).close eE,hq⟩
    ·obtain⟨h0,h1,hq⟩:=h;subst h0;obtain⟨o1,nV,hq⟩:=aD hq;split at hq
     ·obtain⟨h2,h3,h4,hq⟩:=hq;exact⟨_,_,(tI hT ho hd ht aP he h1 hx nV hy h2 h3 h4).close lu,hq⟩
     exact hq.elim
    ·obtain⟨h0,h1,h2,hq⟩:=h;subst h0;subst h2;obtain⟨o1,nV,hq⟩:=aD hq;split at hq
     ·obtain⟨h3,h4,h5,h6,hq⟩:=hq;exact⟨_,_,(tJ hT ho hd ht aP he h1 hx nV hy h3 h4 h5 h6).close GR,hq⟩
     exact hq.elim
    exact h.elim
   exact h.elim
  ·split at h
   ·rename_i x t e1 e2;have ea:args = #[x]:=Array.toList_inj.1 e1;have et:qW = #[t]:=Array.toList_inj.1 e2;subst ea;subst et;obtain⟨x',hx,h⟩:=aD h;unfold KU at h;obtain⟨ti,ht,h⟩:=aD h;obtain⟨e,aP,h⟩:=aD h;obtain⟨n,hn,h⟩:=aD h;obtain⟨sz,xs,e3,e4⟩:=F1 hn;subst e3;subst e4;exact⟨_,_,Cw hT ho hd ht (TD.lk aP) hx,h⟩
   exact h.elim
  ·split at h
   ·rename_i x t e1 e2;have ea:args = #[x]:=Array.toList_inj.1 e1;have et:qW = #[t]:=Array.toList_inj.1 e2;subst ea;subst et;obtain⟨jm,h⟩:=h;obtain⟨x',hx,h⟩:=aD h;unfold yZ at h;obtain⟨ti,ht,h⟩:=aD h;obtain⟨e,aP,h⟩:=aD h;obtain⟨te,he,h⟩:=aD h;split at h
    ·obtain⟨o1,nV,h⟩:=aD h;split at h
     ·obtain⟨h2,h3,h4,h⟩:=h;exact⟨_,_,(vz hT ho jm ht (TD.lk aP) he hx nV h2 h3 h4).close lu,h⟩
     exact h.elim
    exact h.elim
   exact h.elim
  ·split at h
   ·rename_i x y e1;have ea:args = #[x,y]:=Array.toList_inj.1 e1;subst ea;obtain⟨x',hx,h⟩:=aD h;obtain⟨y',hy,h⟩:=aD h;unfold KZ at h;split at h
    ·exact⟨_,_,Iy ho hd hx hy,h⟩
    exact h.elim
   exact h.elim
  ·split at h
   ·rename_i x y e1;have ea:args = #[x,y]:=Array.toList_inj.1 e1;subst ea;obtain⟨x',hx,h⟩:=aD h;obtain⟨y',hy,h⟩:=aD h;unfold KW at h;split at h
    ·exact⟨_,_,Iu ho hd hx hy,h⟩
    exact h.elim
   exact h.elim
  exact h.elim
 case h_24 x ho =>
  obtain⟨y,hy,h⟩:=aD h;unfold kp at h;split at h
  ·exact⟨_,_,oH ho hd hy (.inl ⟨_,_,rfl⟩),h⟩
  ·exact⟨_,_,oH ho hd hy (.inr ⟨_,_,rfl⟩),h⟩
  exact h.elim
 case h_25=>exact h.elim
def II(d:Option Nat)(n:Nat):Prop :=
 match d with
 | some d=>d<n
 | none=>True
def iA:List (Nat×Nat)->Nat->Option Nat
 | [],_=>none
 | (k,d)::r,j=>if k=j then some d else iA r j
def kD(i:Nat)(d:Option Nat)(ds:List (Nat×Nat)):List (Nat×Nat) :=
 match d with
 | some d=>(i,d)::ds
 | none=>ds
def R0(σ:St)(f:St->Prop)(_t:Tag f:={}):Prop:=f σ
theorem Qv(n:Nat)(s:List (Nat×ae))(O:List al)(f:St->Prop)(t:Tag f):R0 ⟨n,s,O⟩ f t=f ⟨n,s,O⟩:=rfl
def ff(P:Program)(aR:ed)(md:Md):List Oper->Nat->List (Nat×Nat)->St->List Kind->(St->List Kind->Prop)->Prop
 | [],_,_,σ,ks,K=>K σ ks
 | o::r,i,ds,σ,ks,K=>II o.dst σ.n ∧
  match o.guard with
  | none=>KY P aR md o σ fun x m=>R0 ⟨σ.n,oD o.dst x σ.bf,m.post σ.objs⟩ fun τ=>ff P aR md r (i+1) (kD i o.dst ds) τ (m.kind::ks) K
  | some (j,want)=>on (iA ds j) fun t=>on (σ.get t) fun
   | .v (.bool b)=>oE (b == want)
    (fun _=>KY P aR md o ⟨σ.n,bq t (.v (.bool want)) σ.bf,σ.objs⟩ fun x m=>R0 ⟨σ.n,oD o.dst x (bq t (.v (.bool want)) σ.bf),m.post σ.objs⟩ fun τ=>ff P aR md r (i+1) (kD i o.dst ds) τ (m.kind::ks) K)
    (fun _=>R0 ⟨σ.n,tZ σ.n o.dst (bq t (.v (.bool !want)) σ.bf),σ.objs⟩ fun τ=>ff P aR md r (i+1) (kD i o.dst ds) τ (.pure::ks) K)
   | .cK []=>R0 ⟨σ.n,tZ σ.n o.dst σ.bf,σ.objs⟩ fun τ=>ff P aR md r (i+1) (kD i o.dst ds) τ (.pure::ks) K
   | _=>False
theorem B6{all:Array Oper}{i:Nat}{o:Oper}(ho:all[i]?=some o){ds:List (Nat×Nat)}(h:∀j t,iA ds j=some t->(all[j]?).bind (·.dst)=some t):∀j t,iA (kD i o.dst ds) j=some t->(all[j]?).bind (·.dst)=some t:=by
 intro j t hj;cases hd:o.dst with
 | none =>
  rw[hd]at hj;exact h j t hj
 | some d =>
  rw[hd]at hj;simp only[kD,iA]at hj;split at hj
  ·rename_i e;subst e;simp only[Option.some.injEq]at hj;subst hj;simp[ho,hd]
  exact h j t hj
theorem Bq{σ:St}{t:Nat}{x:ae}(h:σ.get t=some x):pQ ⟨σ.n,bq t x σ.bf,σ.objs⟩ σ:=by
 refine⟨rfl,rfl,fun s=>?_⟩;simp only[St.get,gi];split
 ·rename_i e;subst e;exact h.symm
 rfl
theorem lT{P:Program}{ops:Array Oper}:∀{l l':List (Nat×Kind)} {σ τ ρ:St},fj P ops l σ τ->fj P ops l' τ ρ->fj P ops (l++l') σ ρ
 | [],_,_,_,_,h,k=>k.same h.symm
 | (i,q)::r,_,_,_,_,h,k=>by
  obtain⟨fF,h1,h2⟩:=h;exact⟨fF,h1,lT h2 k⟩
theorem dO{P:Program}{aR:ed}{md:Md}(hT:bY P aR){all:Array Oper}{K:St->List Kind->Prop}:∀(l:List Oper) (k:Nat) (ds:List (Nat×Nat)) (σ:St) (ks:List Kind),(∀j,l[j]?=all[k+j]?)->(∀j t,iA ds j=some t->(all[j]?).bind (·.dst)=some t)->ff P aR md l k ds σ ks K ->
  ∃(τ:St) (sb:List Kind),fj P all (sb.zipIdx k |>.map fun p=>(p.2,p.1)) σ τ∧sb.length=l.length∧K τ (sb.reverse++ks)
 | [],k,_,σ,ks,_,_,h=>⟨σ,[],pQ.refl σ,rfl,h⟩
 | o::r,k,ds,σ,ks,hl,BQ,h=>by
  obtain⟨hd,h⟩:=h;have SJ:∀d,o.dst=some d->d<σ.n:=fun d e=>by
   rw[e]at hd;exact hd
  have ho:all[k]?=some o:=by
   have:=hl 0;simpa using this.symm
  have Ml:=B6 ho BQ;have hr:∀j,r[j]?=all[k+1+j]?:=fun j=>by
   have:=hl (j+1);rw[show k+1+j=k+(j+1) by omega];simpa using this
  cases hg:o.guard with
  | none =>
   simp only[hg]at h;obtain⟨x,m,hc,h⟩:=vi hT SJ h;obtain⟨τ,sb,h1,h2,h3⟩:=dO hT r (k+1) _ _ _ hr Ml h;refine⟨τ,m.kind::sb,?_,by simp[h2],by simpa using h3⟩;simp only[List.zipIdx_cons,List.map_cons];exact⟨_,⟨o,ho,.inl ⟨by simp[cQ,hg],x,m,hc,rfl,rfl⟩⟩,h1⟩
  | some p =>
   obtain⟨j,want⟩:=p;simp only[hg]at h;obtain⟨t,Lj,h⟩:=aD h;have ht:=BQ j t Lj;obtain⟨y,hy,h⟩:=aD h;split at h
   ·rename_i b;by_cases hb:b=want
    ·rw[show(b == want)=true by simp[hb],dF]at h;have hs:=Bq (hb ▸ hy);obtain⟨x,m,hc,h⟩:=vi hT (σ:=⟨σ.n,bq t (.v (.bool want)) σ.bf,σ.objs⟩) SJ h;obtain⟨τ,sb,h1,h2,h3⟩:=dO hT r (k+1) _ _ _ hr Ml h;refine⟨τ,m.kind::sb,?_,by simp[h2],by simpa using h3⟩;simp only[List.zipIdx_cons,List.map_cons];have dz:oU P all k m.kind ⟨σ.n,bq t (.v (.bool want)) σ.bf,σ.objs⟩ (St.put ⟨σ.n,bq t (.v (.bool want)) σ.bf,σ.objs⟩ o.dst x (m.post σ.objs)) :=
      ⟨o,ho,.inl ⟨by simp[cQ,hg,ht,St.get,gi],x,m,hc,rfl,rfl⟩⟩
     obtain⟨fF,q1,q2⟩:=dz.same hs;exact⟨fF,q1,h1.same q2⟩
    rw[show(b == want)=false by simp[hb],c9]at h;have Mf:b=!want:=by cases b<;>cases want<;>simp_all
    have hs:=Bq (Mf ▸ hy);obtain⟨τ,sb,h1,h2,h3⟩:=dO hT r (k+1) _ _ _ hr Ml h;refine⟨τ,.pure::sb,?_,by simp[h2],by simpa using h3⟩;simp only[List.zipIdx_cons,List.map_cons];have dz:oU P all k .pure ⟨σ.n,bq t (.v (.bool !want)) σ.bf,σ.objs⟩ (St.skip ⟨σ.n,bq t (.v (.bool !want)) σ.bf,σ.objs⟩ o.dst) :=
     ⟨o,ho,.inr ⟨by cases want<;>simp[cQ,hg,ht,St.get,gi],rfl,rfl⟩⟩
    obtain⟨fF,q1,q2⟩:=dz.same hs;exact⟨fF,q1,h1.same q2⟩
   ·obtain⟨τ,sb,h1,h2,h3⟩:=dO hT r (k+1) _ _ _ hr Ml h;refine⟨τ,.pure::sb,?_,by simp[h2],by simpa using h3⟩;simp only[List.zipIdx_cons,List.map_cons];exact⟨_,⟨o,ho,.inr ⟨by simp[cQ,hg,ht,hy],rfl,rfl⟩⟩,h1⟩
   exact h.elim
def fm(ops:Array Oper)(ks:List Kind):Prop:=nk ops ks=true
def iH(draw:Bool)(p:Unit->Prop)(_t:Tag p:={}):Prop:=draw=true->p ()
theorem zX(p:Unit->Prop)(t:Tag p):iH false p t=True:=by simp[iH]
theorem CM(p:Unit->Prop)(t:Tag p):iH true p t=p ():=by simp[iH]
theorem j7{P:Program}{kb:Nat}{aR:ed}(md:Md)(hT:bY P aR)(hm:P.follows .mixedOrders=true){id:Nat}{l:List Oper}{draw:Bool}{Q:dP->St->Prop}{σ:St}
  (h:ff P aR md l 0 [] σ [] fun τ ks=>iH draw (fun _=>fm l.toArray ks.reverse)∧At τ (Q .norm)):cu P kb (.region id l.toArray draw) Q σ:=by
 obtain⟨ops,P6⟩:∃ops,ops=l.toArray:=⟨_,rfl⟩
 have hl:l=ops.toList:=by rw[P6]
 rw[<-P6]at h ⊢;rw[hl]at h;clear P6 hl;obtain⟨τ,ks,h1,h2,h3,h4⟩:=dO (all:=ops) hT ops.toList 0 [] σ [] (fun j=>by simp) (fun j t hj=>by simp[iA]at hj) h;intro base a g hb hr;have oI:fj P ops ((List.range ops.size).map fun i=>(i,ks.getD i .write)) σ τ:=by
  have e:(ks.zipIdx 0).map (fun p=>(p.2,p.1))=(List.range ops.size).map fun i=>(i,ks.getD i .write):=by
   apply List.ext_getElem?;intro i;simp only[List.getElem?_map];have hlen:ks.length=ops.size:=by simpa using h2
   by_cases hi:i<ops.size
   ·rw[List.getElem?_range hi];simp[hlen,hi]
   rw[List.getElem?_eq_none (by simp only[List.length_zipIdx];omega),List.getElem?_eq_none (by simp only[List.length_range];omega)];rfl
  rw[<-e];exact h1
 cases draw with
 | false=>exact k9 oI hr fun a g wU=>⟨g,τ,rfl,wU,h4⟩
 | true =>
  have hB:=h3 rfl;simp only[List.append_nil,List.reverse_reverse]at hB;exact mD hm hB oI hr fun a g wU=>⟨g,τ,rfl,wU,h4⟩
theorem fM{P:Program}{kb:Nat}{aR:ed}(hT:bY P aR)(hm:P.follows .mixedOrders=true){id:Nat}{l:List Oper}{draw:Bool}{Q:dP->St->Prop}{σ:St}
  (h:ff P aR ⟨false,false⟩ l 0 [] σ [] fun τ ks=>iH draw (fun _=>fm l.toArray ks.reverse)∧At τ (Q .norm)):cu P kb (.region id l.toArray draw) Q σ:=j7 ⟨false,false⟩ hT hm h
def slotsOf:Nat->List ae->List (Nat×ae)
 | _,[]=>[]
 | k,x::r=>(k,x)::slotsOf (k+1) r
theorem l9:∀(l:List ae) (k s:Nat) (x:ae),look (slotsOf k l) s=some x->k<=s∧l[s-k]?=some x
 | [],k,s,x,h=>by cases h
 | y::r,k,s,x,h=>by
  simp only[slotsOf,look]at h;split at h
  ·rename_i e;subst e;simp only[Option.some.injEq]at h;subst h;simp
  obtain⟨h1,h2⟩:=l9 r (k+1) s x h;refine⟨by omega,?_⟩;rw[show s-k=(s-(k+1))+1 by omega];simpa using h2
def pD(aR:ed)(σ:St):ResultVar->Option ae
 | .tmp t=>σ.get t
 | .cell a ty =>
  match σ.get a,aR ty with
  | some (.mp id off),some ti =>
   match σ.objs[id]? with
   | some (.cells cs)=>if ti.desc.agg then(if off+ti.size<=cs.length then some (.agg ((cs.drop off).take ti.size))else none)else cs[off]?
   | _=>none
  | _,_=>none
def fI(aR:ed)(σ:St):List ResultVar->Option (List ae)
 | []=>some []
 | v::r =>
  match pD aR σ v,fI aR σ r with
  | some x,some xs=>some (x::xs)
  | _,_=>none
def iJ:List ae->ae
 | [x]=>x
 | xs=>.cK xs
def kh(a:Act):ResultVar->Sem Value
 | .tmp t=>pure (a.tmps.getD t undef)
 | .cell c t=>do loadVar t (<-asAddr (a.tmps.getD c undef))
theorem Bl{P:Program}{aR:ed}(hT:bY P aR){σ:St}{base:G}{a:Act}{g:G}(hr:Rel base σ a g){v:ResultVar}{x:ae}(h:pD aR σ v=some x) :
  ∃u,(kh a v).run P g.w=.ok u g.w∧RV g x u:=by
 cases v with
 | tmp t =>
  obtain⟨u,h1,h2⟩:=hr.slot t x h;exact⟨u,by simp[kh,Array.getD_eq_getD_getElem?,h1],h2⟩
 | cell c ty =>
  simp only[pD]at h;split at h
  ·rename_i id off ti hc TW;obtain⟨u,h1,h2⟩:=hr.slot c _ hc;obtain⟨l,o1,he,ho,_,eu⟩:=h2.ng;split at h
   ·rename_i cs gn;have C5:g.objs[id]?=some (.cells cs):=by rw[hr.objs];exact gn
    obtain⟨arr,t',_,de,hlen,uw,ia,_⟩:=hr.good.row C5 he;subst eu;split at h
    ·rename_i e9;split at h
     ·rename_i hs;simp only[Option.some.injEq]at h;subst h;obtain⟨f,hf⟩:∃f:Nat->Value,∀j,off+j<arr.size->arr[off+j]?=some (f j):=⟨fun j=>arr.getD (off+j) undef,fun j hj=>by simp[Array.getD_eq_getD_getElem?,hj]⟩
      have bw:=(hT ty ti TW).sd e9 g.w l.block off f (fun j hj=>by
       rw[cell_of_row de];exact hf j (by omega))
      refine⟨.agg ((List.range ti.size).map f).toArray,by simp[kh,Array.getD_eq_getD_getElem?,h1,asAddr,bw],?_⟩;have hl:((cs.drop off).take ti.size).length=ti.size:=by simp;omega
      have:=RV.ofRow (g:=g) ((cs.drop off).take ti.size) f (fun c hc=>ia c (List.mem_of_mem_drop (List.mem_of_mem_take hc))) (fun j c hj=>by
       have gZ:=lI hj;rw[List.getElem?_drop]at gZ;have aZ:=I gZ;exact uw (off+j) c _ gZ (hf j (by omega)))
      rw[hl]at this;exact this
     cases h
    rename_i e9;have aZ:=I h;have dd:g.w.cell? ⟨l.block,off,none⟩=some arr[off]:=by
     rw[cell_of_row de];simp[show off<arr.size by omega]
    have bw:=(hT ty ti TW).qy (by simpa using e9) g.w ⟨l.block,off,none⟩ _ dd;exact⟨arr[off],by simp[kh,Array.getD_eq_getD_getElem?,h1,asAddr,bw],uw off x _ h (by simp[show off<arr.size by omega])⟩
   cases h
  cases h
theorem mh{P:Program}{aR:ed}(hT:bY P aR){σ:St}{base:G}{a:Act}{g:G}(hr:Rel base σ a g):∀{vs:List ResultVar} {xs:List ae},fI aR σ vs=some xs ->
  ∃us:List Value,(vs.mapM (kh a)).run P g.w=.ok us g.w∧lM g xs us.toArray
 | [],xs,h=>by
  simp only[fI,Option.some.injEq]at h;subst h;exact⟨[],by simp,⟨rfl,by simp⟩⟩
 | v::r,xs,h=>by
  simp only[fI]at h;cases hv:pD aR σ v with
  | none=>simp[hv]at h
  | some x =>
   cases wV:fI aR σ r with
   | none=>simp[hv,wV]at h
   | some ys =>
    simp only[hv,wV,Option.some.injEq]at h;subst h;obtain⟨u,h1,h2⟩:=Bl hT hr hv;obtain⟨us,h3,h4,h5⟩:=mh hT hr wV;refine⟨u::us,?_,by simpa using h4,fun j c w e1 e2=>?_⟩
    ·rw[List.mapM_cons];simp only[Sem.run_bind,h1,Result.andThen_ok,h3,Sem.run_pure]
    cases j with
    | zero =>
     simp at e1 e2;subst e1;subst e2;exact h2
    | succ j=>exact h5 j c w (by simpa using e1) (by simpa using e2)
def Ek(aR:ed)(rv:List ResultVar)(sh:Bool)(k:Nat)(R:ae->List al->Prop):dP->St->Prop
 | .exit _,_=>False
 | _,σ=>on (fI aR σ rv) fun rs=>k<=σ.objs.length∧(∀o∈σ.objs.take k,o.upto k)∧(iJ (if sh then rs.map ae.share else rs)).upto k∧R (iJ (if sh then rs.map ae.share else rs)) (σ.objs.take k)
theorem RV.iJ{g:G}{xs:List ae}{us:List Value}(h:lM g xs us.toArray):RV g (iJ xs) (if h:us.toArray.size=1 then us.toArray[0]else .tuple us.toArray):=by
 obtain⟨h1,h2⟩:=h
 match xs,us,h1,h2 with
 | [],[],_,h2=>exact .cK rfl (by simp)
 | [x],[u],_,h2 =>
  simp only[List.size_toArray,List.length_singleton,dite_true];exact h2 0 x u rfl rfl
 | x::y::r,u0::u1::s,h1,h2 =>
  rw[dif_neg (by simp)];exact .cK h1 h2
 | [],_::_,h1,_=>simp at h1
 | _::_,[],h1,_=>simp at h1
 | [_],_::_::_,h1,_=>simp at h1
 | _::_::_,[_],h1,_=>simp at h1
theorem eY{P:Program}{aR:ed}(hT:bY P aR){f:FuncId}{fn:Func}{c:Code}{O:List al}{args:List ae}{R:ae->List al->Prop}(sh:Bool)(k:Nat)(hf:P.funcs[f]?=some fn)(hb:fn.body=some c)
  (uu : (fn.name == "runtime.NumGoroutine") = false) (hn : args.length <= fn.ntmps) (hk : O.length <= k) (h : cu P O.length c (Ek aR fn.results.toList sh k R) ⟨fn.ntmps, slotsOf 0 args, O⟩) : ba P f O args R := by
 refine⟨⟨fn,hf,uu,by simp[hb]⟩,fun g vs hg ho ha=>?_⟩;refine calls_of_wp hf hb ?_;have bE:Rel g ⟨fn.ntmps,slotsOf 0 args,O⟩ { tmps:=vs++Array.replicate (fn.ntmps-vs.size) undef,defers:=[] } g:={
  le:=Le.refl g
  good:=hg
  objs:=ho
  size:=by
   have:=ha.1;simp only[Array.size_append,Array.size_replicate];omega
  defers:=rfl
  slot:=fun s x hx=>by
   obtain⟨_,h1⟩:=l9 args 0 s x hx;simp only[Nat.sub_zero]at h1;have aZ:=I h1;have jF:s<vs.size:=by rw[ha.1];exact aZ
   refine⟨vs[s],?_,ha.2 s x _ h1 (by simp[jF])⟩;simp only;rw[Array.getElem?_append,if_pos jF];simp[jF] }
 refine wp_mono (h g _ g (by rw[ho];exact Nat.le_refl _) bE) fun e a w hp=>?_;have key:∀g' fF,g'.w=w->Rel g fF a g'->(on (fI aR fF fn.results.toList) fun rs=>k<=fF.objs.length∧(∀o∈fF.objs.take k,o.upto k)∧(Av.iJ (if sh then rs.map ae.share else rs)).upto k∧R (Av.iJ (if sh then rs.map ae.share else rs)) (fF.objs.take k)) ->
   a.defers=[]∧∃v,(results fn a.tmps).run P w=.ok v w∧∃g' v' r,Ending.returned v=.returned v'∧g'.w=w∧Le g g'∧Good g'∧RV g' r v'∧R r g'.objs:=by
  intro g' fF hw hr hq;subst hw;obtain⟨rs,wV,h1,h2,h3,h4⟩:=aD hq;obtain⟨us,q1,q2⟩:=mh hT hr wV;have hO:g'.objs=fF.objs:=hr.objs;refine⟨hr.defers,(if h:us.toArray.size=1 then us.toArray[0]else .tuple us.toArray),?_,g'.ny k,_,_,rfl,rfl,hr.le.ny (by rw[ho];exact hk),hr.good.ny (by rw[hO];exact h1) (by rw[hO];exact h2),?_,by simp only[G.ny,hO];exact h4⟩
  ·have hm:fn.results.mapM (kh a)=Functor.map List.toArray (fn.results.toList.mapM (kh a)):=Array.mapM_eq_mapM_toList;have dS:results fn a.tmps=(do
    let vs <-fn.results.mapM (kh a)
    pure (if h:vs.size=1 then vs[0]else .tuple vs)):=rfl
   rw[dS,hm];simp only[Sem.run_bind,Sem.run_map,q1,Result.andThen_ok,Sem.run_pure]
  have jT:lM g' (if sh then rs.map ae.share else rs) us.toArray:=by
   cases sh
   ·exact q2
   exact q2.share
  exact(RV.iJ jT).ny (by rw[hO];exact h1) h3
 cases e with
 | normal =>
  obtain⟨g',fF,h1,h2,h3⟩:=hp;exact key g' fF h1 h2 h3
 | ret =>
  obtain⟨g',fF,h1,h2,h3⟩:=hp;exact key g' fF h1 h2 h3
 | exit id =>
  obtain⟨g',fF,h1,h2,h3⟩:=hp;exact h3.elim
 | goto l=>exact hp.elim
 | panic c=>exact hp.elim
 | outgrown=>exact hp.elim
theorem yK(P:Program)(kb:Nat)(c:Code)(Q:dP->St->Prop)(σ:St):bG P kb c Q .norm σ=cu P kb c Q σ:=rfl
theorem nv(P:Program)(kb:Nat)(c:Code)(Q:dP->St->Prop)(σ:St):bG P kb c Q .ret σ=Q .ret σ:=rfl
theorem yJ(P:Program)(kb:Nat)(c:Code)(Q:dP->St->Prop)(σ:St)(id:Nat):bG P kb c Q (.exit id) σ=Q (.exit id) σ:=rfl
theorem tD(id:Nat)(Q:dP->St->Prop)(σ:St):bC id Q .norm σ=Q .norm σ:=rfl
theorem kS(id:Nat)(Q:dP->St->Prop)(σ:St):bC id Q .ret σ=Q .ret σ:=rfl
theorem tE(id:Nat)(Q:dP->St->Prop)(σ:St):bC id Q (.exit id) σ=Q .norm σ:=by simp[bC]
theorem sx{id ux:Nat}(h:ux≠id)(Q:dP->St->Prop)(σ:St):bC id Q (.exit ux) σ=Q (.exit ux) σ:=by simp[bC,h]
theorem vY{ι:Type}(L:ι->St)(μ:ι->Nat)(i:ι)(Q:dP->St->Prop)(σ:St):fC L μ i Q .norm σ = ∃j,μ j<μ i∧bd σ (L j):=rfl
theorem ma{ι:Type}(L:ι->St)(μ:ι->Nat)(i:ι)(Q:dP->St->Prop)(σ:St):fC L μ i Q .ret σ=Q .ret σ:=rfl
theorem vX{ι:Type}(L:ι->St)(μ:ι->Nat)(i:ι)(Q:dP->St->Prop)(σ:St)(id:Nat):fC L μ i Q (.exit id) σ=Q (.exit id) σ:=rfl
def Ej:ae->Value->Bool
 | .v (.int k n),.int k' n'=>decide (k=k')&&decide (n=n')&&decide (k.min<=n)&&decide (n<=k.max)
 | .v (.bool b),.bool b'=>b == b'
 | .v (.string s),.string s'=>decide (s=s')
 | .v (.pointer none),.pointer none=>true
 | .v (.map none),.map none=>true
 | .v .nilFunc,.nilFunc=>true
 | .v .nilIface,.nilIface=>true
 | .aB _ [] .ex,.slice none 0 0=>true
 | _,_=>false
theorem BM{x:ae}{u:Value}(h:Ej x u=true):(∀g:G,RV g x u)∧x.scalar:=by
 unfold Ej at h;split at h
 ·simp only[Bool.and_eq_true,decide_eq_true_eq]at h;obtain⟨⟨⟨h1,h2⟩,h3⟩,h4⟩:=h;subst h1;subst h2;exact⟨fun g=>.v ⟨h3,h4⟩,trivial⟩
 ·simp only[beq_iff_eq]at h;subst h;exact⟨fun g=>.v trivial,trivial⟩
 ·simp only[decide_eq_true_eq]at h;subst h;exact⟨fun g=>.v trivial,trivial⟩
 ·exact⟨fun g=>.v trivial,trivial⟩
 ·exact⟨fun g=>.v trivial,trivial⟩
 ·exact⟨fun g=>.v trivial,trivial⟩
 ·exact⟨fun g=>.v trivial,trivial⟩
 ·exact⟨fun g=>.nil (fun id e=>by cases e) (by simp),trivial⟩
 cases h
def ot:List ae->List Value->Bool
 | [],[]=>true
 | x::xs,u::us=>Ej x u&&ot xs us
 | _,_=>false
theorem qU:∀{xs:List ae} {us:List Value},ot xs us=true->us.length=xs.length∧(∀g:G,∀(j:Nat) (c:ae) (u:Value),xs[j]?=some c->us[j]?=some u->RV g c u)∧∀c∈xs,c.scalar
 | [],[],_=>⟨rfl,by simp,by simp⟩
 | x::xs,u::us,h=>by
  simp only[ot,Bool.and_eq_true]at h;obtain⟨h1,h2⟩:=BM h.1;obtain⟨h3,h4,h5⟩:=qU h.2;refine⟨by simp[h3],fun g j c w a b=>?_,fun c hc=>?_⟩
  ·cases j with
   | zero =>
    simp at a b;subst a;subst b;exact h1 g
   | succ j=>exact h4 g j c w (by simpa using a) (by simpa using b)
  rcases List.mem_cons.1 hc with e|e
  ·subst e;exact h2
  exact h5 c e
 | [],_::_,h=>by simp[ot]at h
 | _::_,[],h=>by simp[ot]at h
def nQ:List Field->List (Nat×TypeId)->Bool
 | [],[]=>true
 | f::r,p::q=>decide (f.offset=p.1)&&decide (f.type=p.2)&&nQ r q
 | _,_=>false
theorem qj:∀{fs:List Field} {ps:List (Nat×TypeId)},nQ fs ps=true->fs.map (fun f=>(f.offset,f.type))=ps
 | [],[],_=>rfl
 | f::r,p::q,h=>by
  simp only[nQ,Bool.and_eq_true,decide_eq_true_eq]at h;obtain⟨⟨h1,h2⟩,h3⟩:=h;rw[List.map_cons,qj h3,h1,h2]
 | [],_::_,h=>by simp[nQ]at h
 | _::_,[],h=>by simp[nQ]at h
def Iz:TypeDesc->TD->Bool
 | .struct fields,.struct fs=>nQ fields.toList fs
 | .slice e,.slice e'=>decide (e=e')
 | .array n e,.array n' e'=>decide (n=n')&&decide (e=e')
 | .map k e,.map k' e'=>decide (k=k')&&decide (e=e')
 | .struct _,.other=>false
 | .array _ _,.other=>false
 | _,.other=>true
 | _,_=>false
theorem CG{d:TypeDesc}{td:TD}(h:Iz d td=true):tV d td:=by
 unfold Iz at h;split at h
 ·exact⟨_,rfl,qj h⟩
 ·simp only[decide_eq_true_eq]at h;subst h;rfl
 ·simp only[Bool.and_eq_true,decide_eq_true_eq]at h;obtain⟨h1,h2⟩:=h;subst h1;subst h2;rfl
 ·simp only[Bool.and_eq_true,decide_eq_true_eq]at h;obtain⟨h1,h2⟩:=h;subst h1;subst h2;rfl
 ·cases h
 ·cases h
 ·rename_i h1 h2;cases d<;>first|trivial|exact(h1 _ rfl).elim|exact(h2 _ _ rfl).elim
 cases h
def D0(agg:Bool):Value->Bool
 | .agg _=>agg
 | _=>!agg
def cT(P:Program)(t:TypeId)(ti:cc):Bool :=
 match P.info? t,P.underlying t with
 | some i,some d=>decide (i.size=ti.size)&&decide (i.bytes=ti.bytes)&&Iz d ti.desc&&decide (ti.zero.length=ti.size) &&
  (match i.zero with
  | some z=>ot ti.zero z.cells.toList&&D0 ti.desc.agg z
  | none=>false)
 | _,_=>false
theorem aU{P:Program}{t:TypeId}{ti:cc}(h:cT P t ti=true):Uq P t ti:=by
 unfold cT at h;split at h
 ·rename_i i d hi hd;split at h
  ·rename_i z hz;simp only[Bool.and_eq_true,decide_eq_true_eq]at h;obtain⟨⟨⟨⟨h1,h2⟩,h3⟩,h4⟩,h5,h6⟩:=h;obtain⟨q1,q2,q3⟩:=qU h5;refine⟨⟨i,z,hi,h1,h2,hz,by simpa using q1,h4,⟨fun ha=>?_,fun ha=>?_⟩,fun g j c u a b=>q2 g j c u a (by simpa using b),q3⟩,d,hd,CG h3⟩
   ·cases z with
    | agg cs=>exact⟨cs,rfl⟩
    | _=>simp[D0,ha]at h6
   cases z with
   | agg cs=>simp[D0,ha]at h6
   | _=>rfl
  simp at h
 cases h
end Go.Av
namespace Go.Proofs.YtjdnhamngpafmaaGreat
open Go.Av
def aR:ed
 | 1=>some ⟨1,8,[.v .nilFunc],.other⟩
 | 2=>some ⟨1,8,[.v (.int .i64 0)],.other⟩
 | 3=>some ⟨1,8,[.v (.int .i64 0)],.other⟩
 | 4=>some ⟨1,1,[.v (.bool false)],.other⟩
 | 5=>some ⟨1,1,[.v (.int .u8 0)],.other⟩
 | 9=>some ⟨1,16,[.v (.string ByteArray.empty)],.other⟩
 | 22=>some ⟨1,24,[.aB 2 [] .ex],.slice 34⟩
 | 24=>some ⟨2,32,[.aB 2 [] .ex,.v (.int .i64 0)],.struct [(0,22),(1,3)]⟩
 | 26=>some ⟨1,8,[.v (.int .i64 0)],.other⟩
 | 32=>some ⟨1,24,[.aB 7 [] .ex],.slice 50⟩
 | 34=>some ⟨2,32,[.v (.int .i64 0),.aB 7 [] .ex],.struct [(0,3),(1,32)]⟩
 | 35=>some ⟨1,24,[.aB 3 [] .ex],.slice 43⟩
 | 38=>some ⟨1,24,[.aB 1 [] .ex],.slice 41⟩
 | 41=>some ⟨1,24,[.aB 1 [] .ex],.slice 3⟩
 | 43=>some ⟨3,40,[.v (.int .i64 0),.aB 1 [] .ex,.v (.int .i64 0)],.struct [(0,3),(1,41),(2,3)]⟩
 | 45=>some ⟨1,24,[.aB 2 [] .ex],.slice 82⟩
 | 47=>some ⟨5,72,[.v (.int .i64 0),.v (.int .i64 0),.v (.int .i64 0),.aB 1 [] .ex,.aB 2 [] .ex],.struct [(0,3),(1,3),(2,3),(3,41),(4,45)]⟩
 | 48=>some ⟨1,24,[.aB 4 [] .ex],.slice 65⟩
 | 50=>some ⟨7,120,[.aB 1 [] .ex,.aB 4 [] .ex,.v (.int .i64 0),.v (.int .i64 0),.v (.int .i64 0),.aB 1 [] .ex,.aB 2 [] .ex],.struct [(0,41),(1,48),(2,47)]⟩
 | 56=>some ⟨1,24,[.aB 1 [] .ex],.slice 4⟩
 | 65=>some ⟨4,48,[.v (.int .i64 0),.v (.int .i64 0),.v (.int .i64 0),.aB 1 [] .ex],.struct [(0,3),(1,3),(2,3),(3,41)]⟩
 | 67=>some ⟨3,40,[.aB 1 [] .ex,.v (.int .i64 0),.v (.int .i64 0)],.struct [(0,41),(1,3),(2,3)]⟩
 | 77=>some ⟨1,24,[.aB 2 [] .ex],.slice 79⟩
 | 79=>some ⟨2,16,[.v (.int .i64 0),.v (.int .i64 0)],.array 2 3⟩
 | 82=>some ⟨2,32,[.v (.int .i64 0),.aB 1 [] .ex],.struct [(0,3),(1,41)]⟩
 | 83=>some ⟨1,24,[.aB 2 [] .ex],.slice 87⟩
 | 87=>some ⟨2,16,[.v (.int .i64 0),.v (.int .i64 0)],.struct [(0,3),(1,3)]⟩
 | 97=>some ⟨1,8,[.v .nilFunc],.other⟩
 | 102=>some ⟨1,8,[.v (.pointer none)],.other⟩
 | 103=>some ⟨1,8,[.v (.map none)],.map 3 138⟩
 | 105=>some ⟨3,40,[.v (.int .i64 0),.aB 7 [] .ex,.v (.map none)],.struct [(0,34),(2,103)]⟩
 | 110=>some ⟨1,8,[.v (.int .u64 0)],.other⟩
 | 112=>some ⟨1,8,[.v .nilFunc],.other⟩
 | 120=>some ⟨4,80,[.v (.int .i64 0),.aB 7 [] .ex,.aB 1 [] .ex,.aB 1 [] .ex],.struct [(0,34),(2,41),(3,38)]⟩
 | 121=>some ⟨1,8,[.v (.pointer none)],.other⟩
 | 122=>some ⟨1,24,[.aB 1 [] .ex],.slice 56⟩
 | 124=>some ⟨1,24,[.aB 1 [] .ex],.slice 162⟩
 | 126=>some ⟨9,168,[.v (.int .i64 0),.aB 7 [] .ex,.aB 1 [] .ex,.aB 1 [] .ex,.aB 1 [] .ex,.v (.int .i64 0),.v (.int .i64 0),.aB 7 [] .ex,.aB 1 [] .ex],.struct [(0,120),(4,122),(5,3),(6,34),(8,124)]⟩
 | 129=>some ⟨1,8,[.v (.pointer none)],.other⟩
 | 130=>some ⟨1,24,[.aB 1 [] .ex],.slice 172⟩
 | 132=>some ⟨9,112,[.aB 2 [] .ex,.v (.int .i64 0),.aB 1 [] .ex,.v (.int .i64 0),.v (.bool false),.v (.bool false),.aB 1 [] .ex,.v (.int .i64 0),.v (.int .i64 0)],.struct [(0,24),(2,130),(3,3),(4,4),(5,4),(6,67)]⟩
 | 138=>some ⟨2,16,[.v (.int .i64 0),.v (.int .i64 0)],.struct [(0,3),(1,3)]⟩
 | 139=>some ⟨1,24,[.aB 2 [] .ex],.slice 142⟩
 | 140=>some ⟨1,8,[.v (.int .u64 0)],.other⟩
 | 142=>some ⟨2,16,[.v (.int .u64 0),.v (.int .u64 0)],.array 2 140⟩
 | 148=>some ⟨2,48,[.aB 1 [] .ex,.aB 1 [] .ex],.struct [(0,41),(1,41)]⟩
 | 162=>some ⟨1,8,[.v (.map none)],.map 3 3⟩
 | 166=>some ⟨2,16,[.v (.int .i64 0),.v (.int .i64 0)],.struct [(0,3),(1,3)]⟩
 | 167=>some ⟨1,24,[.aB 2 [] .ex],.slice 166⟩
 | 168=>some ⟨1,8,[.v (.pointer none)],.other⟩
 | 171=>some ⟨1,24,[.aB 4 [] .ex],.slice 178⟩
 | 172=>some ⟨1,8,[.v (.pointer none)],.other⟩
 | 173=>some ⟨1,8,[.v (.map none)],.map 3 178⟩
 | 175=>some ⟨5,40,[.v (.int .i64 0),.v (.int .i64 0),.v (.int .i64 0),.v (.int .i64 0),.v (.map none)],.struct [(0,3),(1,3),(2,3),(3,3),(4,173)]⟩
 | 176=>some ⟨1,8,[.v (.pointer none)],.other⟩
 | 178=>some ⟨4,48,[.v (.int .i64 0),.v (.int .i64 0),.aB 4 [] .ex,.v (.pointer none)],.struct [(0,3),(1,3),(2,171),(3,176)]⟩
 | 187=>some ⟨1,8,[.v .nilFunc],.other⟩
 | 191=>some ⟨1,8,[.v (.int .u64 0)],.other⟩
 | 195=>some ⟨1,8,[.v (.pointer none)],.other⟩
 | 206=>some ⟨1,8,[.v .nilFunc],.other⟩
 | 211=>some ⟨1,8,[.v (.pointer none)],.other⟩
 | _=>none
theorem Ug:aR 1=some ⟨1,8,[.v .nilFunc],.other⟩:=rfl
theorem Uh:aR 2=some ⟨1,8,[.v (.int .i64 0)],.other⟩:=rfl
theorem Kj:aR 3=some ⟨1,8,[.v (.int .i64 0)],.other⟩:=rfl
theorem Ui:aR 4=some ⟨1,1,[.v (.bool false)],.other⟩:=rfl
theorem Uj:aR 5=some ⟨1,1,[.v (.int .u8 0)],.other⟩:=rfl
theorem Uk:aR 9=some ⟨1,16,[.v (.string ByteArray.empty)],.other⟩:=rfl
theorem QF:aR 22=some ⟨1,24,[.aB 2 [] .ex],.slice 34⟩:=rfl
theorem QG:aR 24=some ⟨2,32,[.aB 2 [] .ex,.v (.int .i64 0)],.struct [(0,22),(1,3)]⟩:=rfl
theorem QH:aR 26=some ⟨1,8,[.v (.int .i64 0)],.other⟩:=rfl
theorem QI:aR 32=some ⟨1,24,[.aB 7 [] .ex],.slice 50⟩:=rfl
theorem QJ:aR 34=some ⟨2,32,[.v (.int .i64 0),.aB 7 [] .ex],.struct [(0,3),(1,32)]⟩:=rfl
theorem QK:aR 35=some ⟨1,24,[.aB 3 [] .ex],.slice 43⟩:=rfl
theorem QL:aR 38=some ⟨1,24,[.aB 1 [] .ex],.slice 41⟩:=rfl
theorem D9:aR 41=some ⟨1,24,[.aB 1 [] .ex],.slice 3⟩:=rfl
theorem QM:aR 43=some ⟨3,40,[.v (.int .i64 0),.aB 1 [] .ex,.v (.int .i64 0)],.struct [(0,3),(1,41),(2,3)]⟩:=rfl
theorem QN:aR 45=some ⟨1,24,[.aB 2 [] .ex],.slice 82⟩:=rfl
theorem QO:aR 47=some ⟨5,72,[.v (.int .i64 0),.v (.int .i64 0),.v (.int .i64 0),.aB 1 [] .ex,.aB 2 [] .ex],.struct [(0,3),(1,3),(2,3),(3,41),(4,45)]⟩:=rfl
theorem QP:aR 48=some ⟨1,24,[.aB 4 [] .ex],.slice 65⟩:=rfl
theorem QQ:aR 50=some ⟨7,120,[.aB 1 [] .ex,.aB 4 [] .ex,.v (.int .i64 0),.v (.int .i64 0),.v (.int .i64 0),.aB 1 [] .ex,.aB 2 [] .ex],.struct [(0,41),(1,48),(2,47)]⟩:=rfl
theorem QR:aR 56=some ⟨1,24,[.aB 1 [] .ex],.slice 4⟩:=rfl
theorem QS:aR 65=some ⟨4,48,[.v (.int .i64 0),.v (.int .i64 0),.v (.int .i64 0),.aB 1 [] .ex],.struct [(0,3),(1,3),(2,3),(3,41)]⟩:=rfl
theorem QT:aR 67=some ⟨3,40,[.aB 1 [] .ex,.v (.int .i64 0),.v (.int .i64 0)],.struct [(0,41),(1,3),(2,3)]⟩:=rfl
theorem QU:aR 77=some ⟨1,24,[.aB 2 [] .ex],.slice 79⟩:=rfl
theorem QV:aR 79=some ⟨2,16,[.v (.int .i64 0),.v (.int .i64 0)],.array 2 3⟩:=rfl
theorem QW:aR 82=some ⟨2,32,[.v (.int .i64 0),.aB 1 [] .ex],.struct [(0,3),(1,41)]⟩:=rfl
theorem QX:aR 83=some ⟨1,24,[.aB 2 [] .ex],.slice 87⟩:=rfl
theorem QY:aR 87=some ⟨2,16,[.v (.int .i64 0),.v (.int .i64 0)],.struct [(0,3),(1,3)]⟩:=rfl
theorem QZ:aR 97=some ⟨1,8,[.v .nilFunc],.other⟩:=rfl
theorem Ng:aR 102=some ⟨1,8,[.v (.pointer none)],.other⟩:=rfl
theorem Nh:aR 103=some ⟨1,8,[.v (.map none)],.map 3 138⟩:=rfl
theorem Ni:aR 105=some ⟨3,40,[.v (.int .i64 0),.aB 7 [] .ex,.v (.map none)],.struct [(0,34),(2,103)]⟩:=rfl
theorem Nj:aR 110=some ⟨1,8,[.v (.int .u64 0)],.other⟩:=rfl
theorem Nk:aR 112=some ⟨1,8,[.v .nilFunc],.other⟩:=rfl
theorem Nl:aR 120=some ⟨4,80,[.v (.int .i64 0),.aB 7 [] .ex,.aB 1 [] .ex,.aB 1 [] .ex],.struct [(0,34),(2,41),(3,38)]⟩:=rfl
theorem Nn:aR 121=some ⟨1,8,[.v (.pointer none)],.other⟩:=rfl
theorem No:aR 122=some ⟨1,24,[.aB 1 [] .ex],.slice 56⟩:=rfl
theorem Np:aR 124=some ⟨1,24,[.aB 1 [] .ex],.slice 162⟩:=rfl
theorem Nq:aR 126=some ⟨9,168,[.v (.int .i64 0),.aB 7 [] .ex,.aB 1 [] .ex,.aB 1 [] .ex,.aB 1 [] .ex,.v (.int .i64 0),.v (.int .i64 0),.aB 7 [] .ex,.aB 1 [] .ex],.struct [(0,120),(4,122),(5,3),(6,34),(8,124)]⟩:=rfl
theorem Nr:aR 129=some ⟨1,8,[.v (.pointer none)],.other⟩:=rfl
theorem Ns:aR 130=some ⟨1,24,[.aB 1 [] .ex],.slice 172⟩:=rfl
theorem Nt:aR 132=some ⟨9,112,[.aB 2 [] .ex,.v (.int .i64 0),.aB 1 [] .ex,.v (.int .i64 0),.v (.bool false),.v (.bool false),.aB 1 [] .ex,.v (.int .i64 0),.v (.int .i64 0)],.struct [(0,24),(2,130),(3,3),(4,4),(5,4),(6,67)]⟩:=rfl
theorem Nu:aR 138=some ⟨2,16,[.v (.int .i64 0),.v (.int .i64 0)],.struct [(0,3),(1,3)]⟩:=rfl
theorem Nv:aR 139=some ⟨1,24,[.aB 2 [] .ex],.slice 142⟩:=rfl
theorem FK:aR 140=some ⟨1,8,[.v (.int .u64 0)],.other⟩:=rfl
theorem Nw:aR 142=some ⟨2,16,[.v (.int .u64 0),.v (.int .u64 0)],.array 2 140⟩:=rfl
theorem FL:aR 148=some ⟨2,48,[.aB 1 [] .ex,.aB 1 [] .ex],.struct [(0,41),(1,41)]⟩:=rfl
theorem Nx:aR 162=some ⟨1,8,[.v (.map none)],.map 3 3⟩:=rfl
theorem Ny:aR 166=some ⟨2,16,[.v (.int .i64 0),.v (.int .i64 0)],.struct [(0,3),(1,3)]⟩:=rfl
theorem Nz:aR 167=some ⟨1,24,[.aB 2 [] .ex],.slice 166⟩:=rfl
theorem NA:aR 168=some ⟨1,8,[.v (.pointer none)],.other⟩:=rfl
theorem NB:aR 171=some ⟨1,24,[.aB 4 [] .ex],.slice 178⟩:=rfl
theorem NC:aR 172=some ⟨1,8,[.v (.pointer none)],.other⟩:=rfl
theorem ND:aR 173=some ⟨1,8,[.v (.map none)],.map 3 178⟩:=rfl
theorem NF:aR 175=some ⟨5,40,[.v (.int .i64 0),.v (.int .i64 0),.v (.int .i64 0),.v (.int .i64 0),.v (.map none)],.struct [(0,3),(1,3),(2,3),(3,3),(4,173)]⟩:=rfl
theorem NG:aR 176=some ⟨1,8,[.v (.pointer none)],.other⟩:=rfl
theorem NH:aR 178=some ⟨4,48,[.v (.int .i64 0),.v (.int .i64 0),.aB 4 [] .ex,.v (.pointer none)],.struct [(0,3),(1,3),(2,171),(3,176)]⟩:=rfl
theorem NI:aR 187=some ⟨1,8,[.v .nilFunc],.other⟩:=rfl
theorem NJ:aR 191=some ⟨1,8,[.v (.int .u64 0)],.other⟩:=rfl
theorem NK:aR 195=some ⟨1,8,[.v (.pointer none)],.other⟩:=rfl
theorem NL:aR 206=some ⟨1,8,[.v .nilFunc],.other⟩:=rfl
theorem NM:aR 211=some ⟨1,8,[.v (.pointer none)],.other⟩:=rfl
theorem Q0:cT Go.Proofs.Tryz.prog 1 ⟨1,8,[.v .nilFunc],.other⟩=true:=by kernel_rfl
theorem Q1:cT Go.Proofs.Tryz.prog 2 ⟨1,8,[.v (.int .i64 0)],.other⟩=true:=by kernel_rfl
theorem Q2:cT Go.Proofs.Tryz.prog 3 ⟨1,8,[.v (.int .i64 0)],.other⟩=true:=by kernel_rfl
theorem Q3:cT Go.Proofs.Tryz.prog 4 ⟨1,1,[.v (.bool false)],.other⟩=true:=by kernel_rfl
theorem Q4:cT Go.Proofs.Tryz.prog 5 ⟨1,1,[.v (.int .u8 0)],.other⟩=true:=by kernel_rfl
theorem Q5:cT Go.Proofs.Tryz.prog 9 ⟨1,16,[.v (.string ByteArray.empty)],.other⟩=true:=by kernel_rfl
theorem NN:cT Go.Proofs.Tryz.prog 22 ⟨1,24,[.aB 2 [] .ex],.slice 34⟩=true:=by kernel_rfl
theorem NO:cT Go.Proofs.Tryz.prog 24 ⟨2,32,[.aB 2 [] .ex,.v (.int .i64 0)],.struct [(0,22),(1,3)]⟩=true:=by kernel_rfl
theorem NP:cT Go.Proofs.Tryz.prog 26 ⟨1,8,[.v (.int .i64 0)],.other⟩=true:=by kernel_rfl
theorem NQ:cT Go.Proofs.Tryz.prog 32 ⟨1,24,[.aB 7 [] .ex],.slice 50⟩=true:=by kernel_rfl
theorem NR:cT Go.Proofs.Tryz.prog 34 ⟨2,32,[.v (.int .i64 0),.aB 7 [] .ex],.struct [(0,3),(1,32)]⟩=true:=by kernel_rfl
theorem NS:cT Go.Proofs.Tryz.prog 35 ⟨1,24,[.aB 3 [] .ex],.slice 43⟩=true:=by kernel_rfl
theorem NT:cT Go.Proofs.Tryz.prog 38 ⟨1,24,[.aB 1 [] .ex],.slice 41⟩=true:=by kernel_rfl
theorem NU:cT Go.Proofs.Tryz.prog 41 ⟨1,24,[.aB 1 [] .ex],.slice 3⟩=true:=by kernel_rfl
theorem NV:cT Go.Proofs.Tryz.prog 43 ⟨3,40,[.v (.int .i64 0),.aB 1 [] .ex,.v (.int .i64 0)],.struct [(0,3),(1,41),(2,3)]⟩=true:=by kernel_rfl
theorem NW:cT Go.Proofs.Tryz.prog 45 ⟨1,24,[.aB 2 [] .ex],.slice 82⟩=true:=by kernel_rfl
theorem NY:cT Go.Proofs.Tryz.prog 47 ⟨5,72,[.v (.int .i64 0),.v (.int .i64 0),.v (.int .i64 0),.aB 1 [] .ex,.aB 2 [] .ex],.struct [(0,3),(1,3),(2,3),(3,41),(4,45)]⟩=true:=by kernel_rfl
theorem NZ:cT Go.Proofs.Tryz.prog 48 ⟨1,24,[.aB 4 [] .ex],.slice 65⟩=true:=by kernel_rfl
theorem N0:cT Go.Proofs.Tryz.prog 50 ⟨7,120,[.aB 1 [] .ex,.aB 4 [] .ex,.v (.int .i64 0),.v (.int .i64 0),.v (.int .i64 0),.aB 1 [] .ex,.aB 2 [] .ex],.struct [(0,41),(1,48),(2,47)]⟩=true:=by kernel_rfl
theorem N1:cT Go.Proofs.Tryz.prog 56 ⟨1,24,[.aB 1 [] .ex],.slice 4⟩=true:=by kernel_rfl
theorem N2:cT Go.Proofs.Tryz.prog 65 ⟨4,48,[.v (.int .i64 0),.v (.int .i64 0),.v (.int .i64 0),.aB 1 [] .ex],.struct [(0,3),(1,3),(2,3),(3,41)]⟩=true:=by kernel_rfl
theorem N3:cT Go.Proofs.Tryz.prog 67 ⟨3,40,[.aB 1 [] .ex,.v (.int .i64 0),.v (.int .i64 0)],.struct [(0,41),(1,3),(2,3)]⟩=true:=by kernel_rfl
theorem N4:cT Go.Proofs.Tryz.prog 77 ⟨1,24,[.aB 2 [] .ex],.slice 79⟩=true:=by kernel_rfl
theorem N5:cT Go.Proofs.Tryz.prog 79 ⟨2,16,[.v (.int .i64 0),.v (.int .i64 0)],.array 2 3⟩=true:=by kernel_rfl
theorem N6:cT Go.Proofs.Tryz.prog 82 ⟨2,32,[.v (.int .i64 0),.aB 1 [] .ex],.struct [(0,3),(1,41)]⟩=true:=by kernel_rfl
theorem N7:cT Go.Proofs.Tryz.prog 83 ⟨1,24,[.aB 2 [] .ex],.slice 87⟩=true:=by kernel_rfl
theorem N8:cT Go.Proofs.Tryz.prog 87 ⟨2,16,[.v (.int .i64 0),.v (.int .i64 0)],.struct [(0,3),(1,3)]⟩=true:=by kernel_rfl
theorem N9:cT Go.Proofs.Tryz.prog 97 ⟨1,8,[.v .nilFunc],.other⟩=true:=by kernel_rfl
theorem Kl:cT Go.Proofs.Tryz.prog 102 ⟨1,8,[.v (.pointer none)],.other⟩=true:=by kernel_rfl
theorem Km:cT Go.Proofs.Tryz.prog 103 ⟨1,8,[.v (.map none)],.map 3 138⟩=true:=by kernel_rfl
theorem Kn:cT Go.Proofs.Tryz.prog 105 ⟨3,40,[.v (.int .i64 0),.aB 7 [] .ex,.v (.map none)],.struct [(0,34),(2,103)]⟩=true:=by kernel_rfl
theorem Ko:cT Go.Proofs.Tryz.prog 110 ⟨1,8,[.v (.int .u64 0)],.other⟩=true:=by kernel_rfl
theorem Kp:cT Go.Proofs.Tryz.prog 112 ⟨1,8,[.v .nilFunc],.other⟩=true:=by kernel_rfl
theorem Kq:cT Go.Proofs.Tryz.prog 120 ⟨4,80,[.v (.int .i64 0),.aB 7 [] .ex,.aB 1 [] .ex,.aB 1 [] .ex],.struct [(0,34),(2,41),(3,38)]⟩=true:=by kernel_rfl
theorem Kr:cT Go.Proofs.Tryz.prog 121 ⟨1,8,[.v (.pointer none)],.other⟩=true:=by kernel_rfl
theorem Ks:cT Go.Proofs.Tryz.prog 122 ⟨1,24,[.aB 1 [] .ex],.slice 56⟩=true:=by kernel_rfl
theorem Kt:cT Go.Proofs.Tryz.prog 124 ⟨1,24,[.aB 1 [] .ex],.slice 162⟩=true:=by kernel_rfl
theorem Ku:cT Go.Proofs.Tryz.prog 126 ⟨9,168,[.v (.int .i64 0),.aB 7 [] .ex,.aB 1 [] .ex,.aB 1 [] .ex,.aB 1 [] .ex,.v (.int .i64 0),.v (.int .i64 0),.aB 7 [] .ex,.aB 1 [] .ex],.struct [(0,120),(4,122),(5,3),(6,34),(8,124)]⟩=true:=by kernel_rfl
theorem Kv:cT Go.Proofs.Tryz.prog 129 ⟨1,8,[.v (.pointer none)],.other⟩=true:=by kernel_rfl
theorem Kw:cT Go.Proofs.Tryz.prog 130 ⟨1,24,[.aB 1 [] .ex],.slice 172⟩=true:=by kernel_rfl
theorem Kx:cT Go.Proofs.Tryz.prog 132 ⟨9,112,[.aB 2 [] .ex,.v (.int .i64 0),.aB 1 [] .ex,.v (.int .i64 0),.v (.bool false),.v (.bool false),.aB 1 [] .ex,.v (.int .i64 0),.v (.int .i64 0)],.struct [(0,24),(2,130),(3,3),(4,4),(5,4),(6,67)]⟩=true:=by kernel_rfl
theorem Ky:cT Go.Proofs.Tryz.prog 138 ⟨2,16,[.v (.int .i64 0),.v (.int .i64 0)],.struct [(0,3),(1,3)]⟩=true:=by kernel_rfl
theorem Kz:cT Go.Proofs.Tryz.prog 139 ⟨1,24,[.aB 2 [] .ex],.slice 142⟩=true:=by kernel_rfl
theorem KA:cT Go.Proofs.Tryz.prog 140 ⟨1,8,[.v (.int .u64 0)],.other⟩=true:=by kernel_rfl
theorem KB:cT Go.Proofs.Tryz.prog 142 ⟨2,16,[.v (.int .u64 0),.v (.int .u64 0)],.array 2 140⟩=true:=by kernel_rfl
theorem KC:cT Go.Proofs.Tryz.prog 148 ⟨2,48,[.aB 1 [] .ex,.aB 1 [] .ex],.struct [(0,41),(1,41)]⟩=true:=by kernel_rfl
theorem KD:cT Go.Proofs.Tryz.prog 162 ⟨1,8,[.v (.map none)],.map 3 3⟩=true:=by kernel_rfl
theorem KE:cT Go.Proofs.Tryz.prog 166 ⟨2,16,[.v (.int .i64 0),.v (.int .i64 0)],.struct [(0,3),(1,3)]⟩=true:=by kernel_rfl
theorem KF:cT Go.Proofs.Tryz.prog 167 ⟨1,24,[.aB 2 [] .ex],.slice 166⟩=true:=by kernel_rfl
theorem KG:cT Go.Proofs.Tryz.prog 168 ⟨1,8,[.v (.pointer none)],.other⟩=true:=by kernel_rfl
theorem KH:cT Go.Proofs.Tryz.prog 171 ⟨1,24,[.aB 4 [] .ex],.slice 178⟩=true:=by kernel_rfl
theorem KI:cT Go.Proofs.Tryz.prog 172 ⟨1,8,[.v (.pointer none)],.other⟩=true:=by kernel_rfl
theorem KJ:cT Go.Proofs.Tryz.prog 173 ⟨1,8,[.v (.map none)],.map 3 178⟩=true:=by kernel_rfl
theorem KK:cT Go.Proofs.Tryz.prog 175 ⟨5,40,[.v (.int .i64 0),.v (.int .i64 0),.v (.int .i64 0),.v (.int .i64 0),.v (.map none)],.struct [(0,3),(1,3),(2,3),(3,3),(4,173)]⟩=true:=by kernel_rfl
theorem KL:cT Go.Proofs.Tryz.prog 176 ⟨1,8,[.v (.pointer none)],.other⟩=true:=by kernel_rfl
theorem KM:cT Go.Proofs.Tryz.prog 178 ⟨4,48,[.v (.int .i64 0),.v (.int .i64 0),.aB 4 [] .ex,.v (.pointer none)],.struct [(0,3),(1,3),(2,171),(3,176)]⟩=true:=by kernel_rfl
theorem KN:cT Go.Proofs.Tryz.prog 187 ⟨1,8,[.v .nilFunc],.other⟩=true:=by kernel_rfl
theorem KO:cT Go.Proofs.Tryz.prog 191 ⟨1,8,[.v (.int .u64 0)],.other⟩=true:=by kernel_rfl
theorem KP:cT Go.Proofs.Tryz.prog 195 ⟨1,8,[.v (.pointer none)],.other⟩=true:=by kernel_rfl
theorem KQ:cT Go.Proofs.Tryz.prog 206 ⟨1,8,[.v .nilFunc],.other⟩=true:=by kernel_rfl
theorem KR:cT Go.Proofs.Tryz.prog 211 ⟨1,8,[.v (.pointer none)],.other⟩=true:=by kernel_rfl
set_option maxRecDepth 100000 in
theorem hT:bY Go.Proofs.Tryz.prog aR:=by
 intro t ti h;unfold aR at h;split at h
 ·cases h;exact aU Q0
 ·cases h;exact aU Q1
 ·cases h;exact aU Q2
 ·cases h;exact aU Q3
 ·cases h;exact aU Q4
 ·cases h;exact aU Q5
 ·cases h;exact aU NN
 ·cases h;exact aU NO
 ·cases h;exact aU NP
 ·cases h;exact aU NQ
 ·cases h;exact aU NR
 ·cases h;exact aU NS
 ·cases h;exact aU NT
 ·cases h;exact aU NU
 ·cases h;exact aU NV
 ·cases h;exact aU NW
 ·cases h;exact aU NY
 ·cases h;exact aU NZ
 ·cases h;exact aU N0
 ·cases h;exact aU N1
 ·cases h;exact aU N2
 ·cases h;exact aU N3
 ·cases h;exact aU N4
 ·cases h;exact aU N5
 ·cases h;exact aU N6
 ·cases h;exact aU N7
 ·cases h;exact aU N8
 ·cases h;exact aU N9
 ·cases h;exact aU Kl
 ·cases h;exact aU Km
 ·cases h;exact aU Kn
 ·cases h;exact aU Ko
 ·cases h;exact aU Kp
 ·cases h;exact aU Kq
 ·cases h;exact aU Kr
 ·cases h;exact aU Ks
 ·cases h;exact aU Kt
 ·cases h;exact aU Ku
 ·cases h;exact aU Kv
 ·cases h;exact aU Kw
 ·cases h;exact aU Kx
 ·cases h;exact aU Ky
 ·cases h;exact aU Kz
 ·cases h;exact aU KA
 ·cases h;exact aU KB
 ·cases h;exact aU KC
 ·cases h;exact aU KD
 ·cases h;exact aU KE
 ·cases h;exact aU KF
 ·cases h;exact aU KG
 ·cases h;exact aU KH
 ·cases h;exact aU KI
 ·cases h;exact aU KJ
 ·cases h;exact aU KK
 ·cases h;exact aU KL
 ·cases h;exact aU KM
 ·cases h;exact aU KN
 ·cases h;exact aU KO
 ·cases h;exact aU KP
 ·cases h;exact aU KQ
 ·cases h;exact aU KR
 cases h
theorem hm:Go.Proofs.Tryz.prog.follows .mixedOrders=true:=by kernel_rfl
structure Ins where
 to:Int
 op:Int
 n:Int
 args:List Int
structure Edge where
 block:Int
 args:List Int
structure Term where
 kind:Int
 arg:Int
 n:Int
 cases:List Int
 to:List Edge
structure Block where
 params:List Int
 ins:List Ins
 term:Term
structure Func where
 name:Int
 blocks:List Block
structure cf where
 fns:List Func
 main:Int
abbrev aI(n:Int):ae:=.v (.int .i64 n)
abbrev aT(l:List Int):ae:=.aB 1 (l.map aI) .sh
def Ins.enc(i:Ins):ae:=.agg [aI i.to,aI i.op,aI i.n,aT i.args]
abbrev bP(l:List Ins):ae:=.aB 4 (l.map Ins.enc) .sh
def Edge.enc(e:Edge):ae:=.agg [aI e.block,aT e.args]
abbrev aE(l:List Edge):ae:=.aB 2 (l.map Edge.enc) .sh
def Term.enc(t:Term):ae:=.agg [aI t.kind,aI t.arg,aI t.n,aT t.cases,aE t.to]
def Block.enc(b:Block):ae:=.agg [aT b.params,bP b.ins,aI b.term.kind,aI b.term.arg,aI b.term.n,aT b.term.cases,aE b.term.to]
abbrev aw(l:List Block):ae:=.aB 7 (l.map Block.enc) .sh
def Func.enc(f:Func):ae:=.agg [aI f.name,aw f.blocks]
abbrev a7(l:List Func):ae:=.aB 2 (l.map Func.enc) .sh
def cf.enc(u:cf):ae:=.agg [a7 u.fns,aI u.main]
theorem av(n:Nat)(l:List Int):au n (l.map aI):=by
 rw[bZ];intro x hx;obtain⟨c,_,rfl⟩:=List.mem_map.1 hx;trivial
theorem H5(l:List Int):(l.map aI).map ae.share=l.map aI:=by
 rw[List.map_map];rfl
theorem Ins.aj(i:Ins):i.enc.cells=[aI i.to,aI i.op,aI i.n,aT i.args]:=rfl
theorem Ins.fold(i:Ins):ae.agg [aI i.to,aI i.op,aI i.n,aT i.args]=i.enc:=rfl
theorem Ins.aL(n:Nat)(i:Ins):i.enc.upto n:=by
 simp only[Ins.enc,ae.upto,au,and_true,true_and,av]
theorem Ins.ag(n:Nat)(l:List Ins):au n (l.map Ins.enc):=by
 rw[bZ];intro x hx;obtain⟨c,_,rfl⟩:=List.mem_map.1 hx;exact c.aL n
theorem Ins.ar(i:Ins):i.enc.flat:=trivial
theorem Ins.ak(i:Ins):i.enc.share=i.enc:=rfl
theorem Ins.dE(l:List Ins):(l.map Ins.enc).map ae.share=l.map Ins.enc:=by
 rw[List.map_map];rfl
theorem Edge.aj(e:Edge):e.enc.cells=[aI e.block,aT e.args]:=rfl
theorem Edge.fold(e:Edge):ae.agg [aI e.block,aT e.args]=e.enc:=rfl
theorem Edge.aL(n:Nat)(e:Edge):e.enc.upto n:=by
 simp only[Edge.enc,ae.upto,au,and_true,true_and,av]
theorem Edge.ag(n:Nat)(l:List Edge):au n (l.map Edge.enc):=by
 rw[bZ];intro x hx;obtain⟨c,_,rfl⟩:=List.mem_map.1 hx;exact c.aL n
theorem Edge.ar(e:Edge):e.enc.flat:=trivial
theorem Edge.ak(e:Edge):e.enc.share=e.enc:=rfl
theorem Edge.dE(l:List Edge):(l.map Edge.enc).map ae.share=l.map Edge.enc:=by
 rw[List.map_map];rfl
theorem Term.aj(t:Term):t.enc.cells=[aI t.kind,aI t.arg,aI t.n,aT t.cases,aE t.to]:=rfl
theorem Term.fold(t:Term):ae.agg [aI t.kind,aI t.arg,aI t.n,aT t.cases,aE t.to]=t.enc:=rfl
theorem Term.aL(n:Nat)(t:Term):t.enc.upto n:=by
 simp only[Term.enc,ae.upto,au,and_true,true_and,av,Edge.ag]
theorem Term.ag(n:Nat)(l:List Term):au n (l.map Term.enc):=by
 rw[bZ];intro x hx;obtain⟨c,_,rfl⟩:=List.mem_map.1 hx;exact c.aL n
theorem Term.ar(t:Term):t.enc.flat:=trivial
theorem Term.ak(t:Term):t.enc.share=t.enc:=rfl
theorem Term.dE(l:List Term):(l.map Term.enc).map ae.share=l.map Term.enc:=by
 rw[List.map_map];rfl
theorem Block.aj(b:Block):b.enc.cells=[aT b.params,bP b.ins,aI b.term.kind,aI b.term.arg,aI b.term.n,aT b.term.cases,aE b.term.to]:=rfl
theorem Block.fold(b:Block):ae.agg [aT b.params,bP b.ins,aI b.term.kind,aI b.term.arg,aI b.term.n,aT b.term.cases,aE b.term.to]=b.enc:=rfl
theorem Block.aL(n:Nat)(b:Block):b.enc.upto n:=by
 simp only[Block.enc,ae.upto,au,and_true,true_and,av,Edge.ag,Ins.ag]
theorem Block.ag(n:Nat)(l:List Block):au n (l.map Block.enc):=by
 rw[bZ];intro x hx;obtain⟨c,_,rfl⟩:=List.mem_map.1 hx;exact c.aL n
theorem Block.ar(b:Block):b.enc.flat:=trivial
theorem Block.ak(b:Block):b.enc.share=b.enc:=rfl
theorem Block.dE(l:List Block):(l.map Block.enc).map ae.share=l.map Block.enc:=by
 rw[List.map_map];rfl
theorem Func.aj(f:Func):f.enc.cells=[aI f.name,aw f.blocks]:=rfl
theorem Func.fold(f:Func):ae.agg [aI f.name,aw f.blocks]=f.enc:=rfl
theorem Func.aL(n:Nat)(f:Func):f.enc.upto n:=by
 simp only[Func.enc,ae.upto,au,and_true,true_and,av,Block.ag]
theorem Func.ag(n:Nat)(l:List Func):au n (l.map Func.enc):=by
 rw[bZ];intro x hx;obtain⟨c,_,rfl⟩:=List.mem_map.1 hx;exact c.aL n
theorem Func.ar(f:Func):f.enc.flat:=trivial
theorem Func.ak(f:Func):f.enc.share=f.enc:=rfl
theorem Func.dE(l:List Func):(l.map Func.enc).map ae.share=l.map Func.enc:=by
 rw[List.map_map];rfl
theorem cf.aj(u:cf):u.enc.cells=[a7 u.fns,aI u.main]:=rfl
theorem cf.fold(u:cf):ae.agg [a7 u.fns,aI u.main]=u.enc:=rfl
theorem cf.aL(n:Nat)(u:cf):u.enc.upto n:=by
 simp only[cf.enc,ae.upto,au,and_true,true_and,av,Func.ag]
theorem cf.ag(n:Nat)(l:List cf):au n (l.map cf.enc):=by
 rw[bZ];intro x hx;obtain⟨c,_,rfl⟩:=List.mem_map.1 hx;exact c.aL n
theorem cf.ar(u:cf):u.enc.flat:=trivial
theorem cf.ak(u:cf):u.enc.share=u.enc:=rfl
theorem cf.dE(l:List cf):(l.map cf.enc).map ae.share=l.map cf.enc:=by
 rw[List.map_map];rfl
theorem WL:Dj Tryz.prog 3=some (.int .i64):=by
 unfold Dj;rw[Tryz.underlying3]
def kX(n:Int):Prop:=-9223372036854775808<=n∧n<=9223372036854775807
def uf(l:List Int):Prop:=∀n∈l,kX n
def Ins.fit(i:Ins):Prop:=kX i.to∧kX i.op∧kX i.n∧uf i.args∧i.args.length<=2 ^ 47
def Edge.fit(e:Edge):Prop:=kX e.block∧uf e.args∧e.args.length<=2 ^ 47
def Term.fit(t:Term):Prop:=kX t.kind∧kX t.arg∧kX t.n∧uf t.cases∧t.cases.length<=2 ^ 47∧t.to.length<=2 ^ 47∧∀e∈t.to,e.fit
def Block.fit(b:Block):Prop:=uf b.params∧b.params.length<=2 ^ 47∧b.ins.length<=2 ^ 47∧(∀i∈b.ins,i.fit)∧b.term.fit
def Func.fit(f:Func):Prop:=kX f.name∧f.blocks.length<=2 ^ 47∧∀b∈f.blocks,b.fit
def cf.fit(u:cf):Prop:=kX u.main∧u.fns.length<=2 ^ 47∧∀f∈u.fns,f.fit
inductive SV where
 | mk (kind n:Int) (list:List SV) (arr:Option Nat)
def eP:Option Nat->ae
 | none=>.v (.pointer none)
 | some id=>.mp id 0
namespace SV
def kind:SV->Int|mk k _ _ _=>k
def n:SV->Int|mk _ n _ _=>n
def list:SV->List SV|mk _ _ l _=>l
def arr:SV->Option Nat|mk _ _ _ a=>a
mutual
def enc:SV->ae
 | mk k n l a=>.agg [aI k,aI n,.aB 4 (IL l) .sh,eP a]
def IL:List SV->List ae
 | []=>[]
 | p::r=>p.enc::IL r
end
theorem z6:∀l:List SV,IL l=l.map enc
 | []=>by simp[IL]
 | p::r=>by simp[IL,z6 r]
theorem fu(p:SV):p.enc=.agg [aI p.kind,aI p.n,.aB 4 (p.list.map enc) .sh,eP p.arr]:=by
 cases p with
 | mk k n l a=>simp[enc,kind,SV.n,list,arr,z6]
theorem fold(p:SV):ae.agg [aI p.kind,aI p.n,.aB 4 (p.list.map enc) .sh,eP p.arr]=p.enc:=(fu p).symm
theorem jC(k n:Int)(l:List SV)(a:Option Nat):(mk k n l a).enc=.agg [aI k,aI n,.aB 4 (l.map enc) .sh,eP a]:=fu _
theorem aj(p:SV):p.enc.cells=[aI p.kind,aI p.n,.aB 4 (p.list.map enc) .sh,eP p.arr]:=by
 rw[fu];rfl
theorem FW(p:SV):ae.agg p.enc.cells=p.enc:=by
 rw[aj,fold]
theorem _root_.Go.Proofs.YtjdnhamngpafmaaGreat.cr(a:Option Nat):(eP a).bo=eP a:=by cases a<;>rfl
theorem _root_.Go.Proofs.YtjdnhamngpafmaaGreat.Rk(a:Option Nat):(eP a).scalar:=by cases a<;>trivial
theorem ak(p:SV):p.enc.share=p.enc:=by
 rw[fu];have:=cr p.arr;unfold ae.bo at this;simp[ae.share,ae.bo,this]
theorem ar(p:SV):p.enc.flat:=by
 rw[fu];trivial
theorem dE(l:List SV):(l.map enc).map ae.share=l.map enc:=by
 rw[List.map_map];exact List.map_congr_left fun p _=>ak p
theorem cV(p:SV):p.enc.cells.length=4:=by
 rw[aj];rfl
inductive bc(n:Nat):SV->Prop
 | mk {k m:Int} {l:List SV} {a:Option Nat} (ha:∀id,a=some id->id<n) (hl:∀v,v∈l->bc n v):bc n (.mk k m l a)
theorem bc.mono{n m:Nat}(h:n<=m){v:SV}(k:bc n v):bc m v:=by
 induction k with
 | mk ha hl ih=>exact .mk (fun id e=>Nat.lt_of_lt_of_le (ha id e) h) ih
theorem eP_upto{n:Nat}{a:Option Nat}(h:∀id,a=some id->id<n):(eP a).upto n:=by
 cases a with
 | none=>trivial
 | some id=>exact h id rfl
theorem bc.aL{n:Nat}{p:SV}(h:bc n p):p.enc.upto n:=by
 induction h with
 | mk ha hl ih =>
  rw[jC];simp only[ae.upto,au,true_and,and_true];refine⟨?_,eP_upto ha⟩;rw[bZ];intro x hx;obtain⟨v,hv,rfl⟩:=List.mem_map.1 hx;exact ih v hv
theorem ag{n:Nat}{l:List SV}(h:∀v∈l,bc n v):au n (l.map enc):=by
 rw[bZ];intro x hx;obtain⟨v,hv,rfl⟩:=List.mem_map.1 hx;exact(h v hv).aL
theorem iM{n:Nat}{l:List SV}(h:∀v∈l,bc n v):au n (ao (l.map enc)):=by
 rw[bZ];intro c hc;simp only[ao,List.mem_flatMap,List.mem_map]at hc;obtain⟨_,⟨p,hp,rfl⟩,hc⟩:=hc;have:=(h p hp).aL;rw[fu]at this;rw[aj]at hc;simp only[ae.upto,bZ]at this;exact this c hc
theorem MY(l:List SV):(ao (l.map enc)).length=l.length*4:=by
 rw[ca (sz:=4) (fun x hx=>by
  obtain⟨p,_,rfl⟩:=List.mem_map.1 hx;exact p.cV)]
 simp
theorem FB:∀{l:List SV} {k:Nat} {p:SV},l[k]?=some p->((ao (l.map enc)).drop (k*4)).take 4=p.enc.cells
 | q::r,0,p,h=>by
  simp only[List.getElem?_cons_zero,Option.some.injEq]at h;subst h;simp only[List.map_cons,ao,List.flatMap_cons,Nat.zero_mul,List.drop_zero];rw[List.take_append_of_le_length (by rw[cV];exact Nat.le_refl _),List.take_of_length_le (by rw[cV];exact Nat.le_refl _)]
 | q::r,k+1,p,h=>by
  have ih:=FB (l:=r) (k:=k) (p:=p) (by simpa using h);simp only[List.map_cons,ao,List.flatMap_cons]at ih ⊢;rw[List.drop_append,List.drop_of_length_le (by rw[cV];omega),cV,show(k+1)*4-4=k*4 by omega];exact ih
theorem MZ{l:List SV}{k:Nat}(h:k<l.length)(q:SV):bk (ao (l.map enc)) (k*4) q.enc.cells=ao ((l.set k q).map enc):=by
 induction l generalizing k with
 | nil=>simp at h
 | cons p r ih =>
  cases k with
  | zero =>
   simp only[List.set_cons_zero,List.map_cons,ao,List.flatMap_cons,bk,Nat.zero_mul,List.take_zero,List.nil_append,Nat.zero_add,cV];rw[List.drop_append_of_le_length (by rw[cV];exact Nat.le_refl _),List.drop_of_length_le (by rw[cV];exact Nat.le_refl _)];rfl
  | succ k =>
   have:=ih (k:=k) (by simpa using h);simp only[List.set_cons_succ,List.map_cons,ao,List.flatMap_cons,bk,cV]at this ⊢;rw[List.take_append,List.drop_append,cV,List.take_of_length_le (by rw[cV];omega),List.drop_of_length_le (by rw[cV];omega),show(k+1)*4-4=k*4 by omega,show(k+1)*4+4-4=k*4+4 by omega,List.nil_append,List.append_assoc,this]
def word(n:Int):SV:=mk 0 n [] none
def zero:SV:=mk 0 0 [] none
inductive Wf(f:Nat)(a:Nat->Prop):SV->Prop
 | mk {k m:Int} {l:List SV} {r:Option Nat}
   (h0:0<=k∧k<=4) (h1:k=0∨k=1->-1073741824<=m∧m<=1073741823) (h2:k=2->0<=m∧m<f) (h3:k=3->∃id,r=some id)
   (h4:k=4->∀v,v∈l->v.kind=0) (hl:l.length<=1000) (hr:∀id,r=some id->a id) (h:∀v,v∈l->Wf f a v):Wf f a (.mk k m l r)
theorem Wf.under{f n:Nat}{a:Nat->Prop}(ha:∀id,a id->id<n){v:SV}(h:Wf f a v):bc n v:=by
 induction h with
 | mk h0 h1 h2 h3 h4 hl hr h ih=>exact .mk (fun id e=>ha id (hr id e)) ih
theorem Wf.mono{f:Nat}{a b:Nat->Prop}(yd:∀id,a id->b id){v:SV}(h:Wf f a v):Wf f b v:=by
 induction h with
 | mk h0 h1 h2 h3 h4 hl hr h ih=>exact .mk h0 h1 h2 h3 h4 hl (fun id e=>yd id (hr id e)) ih
theorem Wf.word{f:Nat}{a:Nat->Prop}{n:Int}(h:-1073741824<=n∧n<=1073741823):Wf f a (word n) :=
 .mk (by omega) (fun _=>h) (by omega) (by omega) (by omega) (by simp) (by simp) (by simp)
theorem Wf.zero{f:Nat}{a:Nat->Prop}:Wf f a zero:=Wf.word (n:=0) (by omega)
theorem Wf.num{f:Nat}{a:Nat->Prop}{v:SV}(h:Wf f a v):v.kind=0∨v.kind=1->-1073741824<=v.n∧v.n<=1073741823:=by cases h;assumption
theorem Wf.fn{f:Nat}{a:Nat->Prop}{v:SV}(h:Wf f a v):v.kind=2->0<=v.n∧v.n<f:=by cases h;assumption
theorem Wf.array{f:Nat}{a:Nat->Prop}{v:SV}(h:Wf f a v):v.kind=3->∃id,v.arr=some id:=by cases h;assumption
theorem Wf.vec{f:Nat}{a:Nat->Prop}{v:SV}(h:Wf f a v):v.kind=4->∀x∈v.list,x.kind=0:=by cases h;assumption
theorem Wf.len{f:Nat}{a:Nat->Prop}{v:SV}(h:Wf f a v):v.list.length<=1000:=by cases h;assumption
theorem Wf.ref{f:Nat}{a:Nat->Prop}{v:SV}(h:Wf f a v):∀id,v.arr=some id->a id:=by cases h;assumption
theorem Wf.kids{f:Nat}{a:Nat->Prop}{v:SV}(h:Wf f a v):∀x∈v.list,Wf f a x:=by cases h;assumption
end SV
def gl:List (Int×SV)->Int->Option SV
 | [],_=>none
 | (k,v)::r,key=>if k=key then some v else gl r key
def dg:List (Int×SV)->Int->SV->List (Int×SV)
 | [],key,y=>[(key,y)]
 | (k,x)::r,key,y=>if k=key then(key,y)::r else(k,x)::dg r key y
def gd(e:Int×SV):Value×ae:=(.int .i64 e.1,e.2.enc)
theorem nP(k l:Int):mw (.int .i64 k) (.int .i64 l)=decide (k=l):=by
 simp[mw]
theorem lv(es:List (Int×SV))(k:Int):jM (es.map gd) (.int .i64 k)=(gl es k).map SV.enc:=by
 induction es with
 | nil=>rfl
 | cons p r ih =>
  obtain⟨a,v⟩:=p;simp only[List.map_cons,gd,jM,gl,nP,decide_eq_true_eq];split
  ·rfl
  exact ih
theorem qG(es:List (Int×SV))(k:Int)(v:SV):mf (es.map gd) (.int .i64 k) v.enc=(dg es k v).map gd:=by
 induction es with
 | nil=>rfl
 | cons p r ih =>
  obtain⟨a,x⟩:=p;simp only[List.map_cons,gd,mf,dg,nP,decide_eq_true_eq];split
  ·rfl
  simp only[List.map_cons,gd];rw[<-ih]
def eO(es:List (Int×SV))(k:Int):SV:=(gl es k).getD .zero
theorem xa{es:List (Int×SV)}{k:Int}{v:SV}(h:gl es k=some v):∃e∈es,e.2=v:=by
 induction es with
 | nil=>simp[gl]at h
 | cons p r ih =>
  obtain⟨a,x⟩:=p;simp only[gl]at h;split at h
  ·exact⟨(a,x),by simp,by simpa using h⟩
  obtain⟨e,h1,h2⟩:=ih h;exact⟨e,by simp[h1],h2⟩
theorem jY{es:List (Int×SV)}{k:Int}{v:SV}{e:Int×SV}(h:e∈dg es k v):e∈es∨e=(k,v):=by
 induction es with
 | nil=>simpa[dg]using h
 | cons p r ih =>
  obtain⟨a,x⟩:=p;simp only[dg]at h;split at h
  ·rcases List.mem_cons.1 h with h|h
   ·exact .inr h
   exact .inl (by simp[h])
  rcases List.mem_cons.1 h with h|h
  ·exact .inl (by simp[h])
  rcases ih h with h|h
  ·exact .inl (by simp[h])
  exact .inr h
instance:Inhabited Ins:=⟨⟨0,0,0,[]⟩⟩
instance:Inhabited Edge:=⟨⟨0,[]⟩⟩
instance:Inhabited Term:=⟨⟨0,0,0,[],[]⟩⟩
instance:Inhabited Block:=⟨⟨[],[],default⟩⟩
instance:Inhabited Func:=⟨⟨0,[]⟩⟩
instance:Inhabited SV:=⟨.zero⟩
structure Fr where
 bL:Nat
 c8:Nat
 fn:Int
 blk:Int
 pos:Nat
 to:Int
 vals:List (Int×SV)
structure BY where
 lL:Nat
 eo:Nat
 l:List SV
structure Mach where
 sid:Nat
 frames:List Fr
 heap:List BY
 next:Nat
 left:Int
 short:Bool
 over:Bool
 out:List Int
 fin:Int
 val:Int
def bH(u:cf)(k:Int):Func:=u.fns[k.toNat]?.getD default
def aF(f:Func)(k:Int):Block:=f.blocks[k.toNat]?.getD default
def jN(n:Int):Int:=(n+1073741824) % 2147483648-1073741824
def cX(op a b:Int):SV×Int :=
 if op=1 then(.word (jN (a+b)),0)
 else if op=2 then(.word (jN (a-b)),0)
 else if op=3 then(.word (jN (a*b)),0)
 else if op=6 then(.word (if a<b then 1 else 0),0)
 else if op=7 then(.word (if a=b then 1 else 0),0)
 else if b=0 then(.zero,1)
 else if op=4 then(.word (jN (a.tdiv b)),0)
 else(.word (a.tmod b),0)
def j5(l:List SV)(k:Int):Bool:=l.all fun v=>decide (v.kind=k)
def bW(l:List SV)(k:Nat):SV:=l[k]?.getD .zero
def cG(i:Ins)(args:List SV):SV×Int :=
 if i.op=11 then
  if((bW args 0).kind≠1∧(bW args 0).kind≠2)∨((bW args 0).list.length:Int)<=i.n then(.zero,5)else(bW (bW args 0).list i.n.toNat,0)
 else if(bW args 0).kind≠1 then(.zero,5)
 else if i.op=10 then(.word (bW args 0).n,0)
 else if i.op=12 then(.word (bW args 0).list.length,0)
 else if(bW args 1).kind≠0 then(.zero,5)
 else if(bW args 1).n<0∨((bW args 0).list.length:Int)<=(bW args 1).n then(.zero,2)
 else(bW (bW args 0).list (bW args 1).n.toNat,0)
def jV(op:Int):List SV->List SV->List SV
 | a::r,b::s=>(cX op a.n b.n).1::jV op r s
 | _,_=>[]
def cY(i:Ins)(args:List SV):SV×Int :=
 if i.op=22 then
  if j5 args 0 then(.mk 4 0 args none,0)else(.zero,5)
 else if i.op=24 then
  if(bW args 0).kind≠4∨((bW args 0).list.length:Int)<=i.n then(.zero,5)else(bW (bW args 0).list i.n.toNat,0)
 else if !j5 args 4∨(bW args 0).list.length≠(bW args 1).list.length then(.zero,5)
 else(.mk 4 0 (jV i.n (bW args 0).list (bW args 1).list) none,0)
namespace Mach
def db(m:Mach)(n:Int):Mach:=if m.left<n then { m with short:=true,over:=true }else { m with left:=m.left-n }
def stop(m:Mach)(e n:Int):Mach:={ m with over:=true,fin:=e,val:=n }
def gR:List BY->Option Nat->List SV
 | [],_=>[]
 | a::r,id=>if id=some a.lL then a.l else gR r id
def jI:List BY->Option Nat->List SV->List BY
 | [],_,_=>[]
 | a::r,id,l=>if id=some a.lL then⟨a.lL,a.eo,l⟩::r else a::jI r id l
def bj(m:Mach)(size fill:SV):Mach×SV×Int :=
 if size.kind≠0 then(m,.zero,5)
 else if size.n<0∨1024<size.n then(m,.zero,6)
 else if(m.db size.n).short then(m.db size.n,.zero,0)
 else({ m.db size.n with heap:=m.heap++[⟨m.next+8,m.next+7,List.replicate size.n.toNat fill⟩],next:=m.next+9 },.mk 3 0 [] (some (m.next+8)),0)
def effect(m:Mach)(i:Ins)(args:List SV):Mach×SV×Int :=
 if i.op=15 then
  if(bW args 0).kind≠0 then(m,.zero,5)
  else if m.out.length=1000 then(m,.zero,6)
  else({ m with out:=m.out++[(bW args 0).n] },.word 0,0)
 else if i.op=16 then m.bj (bW args 0) (bW args 1)
 else if i.op=18 then
  if !j5 args 0 then(m,.zero,5)
  else if(bW args 0).n<0∨(bW args 1).n<=(bW args 0).n then(m,.zero,2)
  else(m,.word 0,0)
 else if(bW args 0).kind≠3∨(i.op≠17∧(bW args 1).kind≠0)then(m,.zero,5)
 else if i.op=17 then(m,.word (gR m.heap (bW args 0).arr).length,0)
 else if(bW args 1).n<0∨((gR m.heap (bW args 0).arr).length:Int)<=(bW args 1).n then(m,.zero,2)
 else if i.op=19 then(m,bW (gR m.heap (bW args 0).arr) (bW args 1).n.toNat,0)
 else({ m with heap:=jI m.heap (bW args 0).arr ((gR m.heap (bW args 0).arr).set (bW args 1).n.toNat (bW args 2)) },.word 0,0)
def exec(m:Mach)(i:Ins)(args:List SV):Mach×SV×Int :=
 if i.op=0 then(m,.word i.n,0)
 else if 1<=i.op∧i.op<=7 then
  if !j5 args 0 then(m,.zero,5)else(m,cX i.op (bW args 0).n (bW args 1).n)
 else if i.op=8 then(m,.mk 1 i.n args none,0)
 else if i.op=9 then(m,.mk 2 i.n args none,0)
 else if i.op=10∨i.op=11∨i.op=12∨i.op=21 then(m,cG i args)
 else if i.op=22∨i.op=23∨i.op=24 then(m,cY i args)
 else if i.op=100 then(m,bW args 0,0)
 else m.effect i args
end Mach
def cL:List (Int×SV)->List Int->List SV->List (Int×SV)
 | es,p::ps,a::l=>cL (dg es p a) ps l
 | es,_,_=>es
def cx(es:List (Int×SV))(l:List Int):List SV:=l.map (eO es)
def eT(t:Term)(n:Int):Nat :=
 if t.kind=2 then(if n≠0 then 0 else 1)else t.cases.findIdx (· == n)
namespace Mach
def enter(u:cf)(m:Mach)(fn:Int)(args:List SV)(to:Int):Mach :=
 { m with sid:=m.next+2,next:=m.next+3,frames:=⟨m.next+1,m.next,fn,0,0,to,cL [] (aF (bH u fn) 0).params args⟩::m.frames }
def bA(m:Mach)(f:Fr):Mach:={ m with frames:=f::m.frames.tail }
def follow(u:cf)(m:Mach)(f:Fr)(e:Edge):Mach :=
 m.bA { f with blk:=e.block,pos:=0,vals:=cL f.vals (aF (bH u f.fn) e.block).params (cx f.vals e.args) }
def leave(m:Mach)(f:Fr)(v:SV):Mach :=
 match m.frames.tail with
 | []=>{ m with frames:=[] }.stop 0 (if v.kind=0∨v.kind=1 then v.n else 0)
 | g::r=>{ m with frames:={ g with vals:=dg g.vals f.to v }::r }
def finish(u:cf)(m:Mach)(f:Fr)(t:Term):Mach :=
 if t.kind=4 then m.stop t.n 0
 else if t.kind=1 then m.follow u f (t.to[0]?.getD default)
 else if t.kind=0 then m.leave f (eO f.vals t.arg)
 else if(eO f.vals t.arg).kind≠0 then m.stop 5 0
 else m.follow u f (t.to[eT t (eO f.vals t.arg).n]?.getD default)
def settle(f:Fr)(to:Int)(r:Mach×SV×Int):Mach :=
 (if r.2.2≠0 then r.1.stop r.2.2 0 else r.1).bA { f with vals:=dg f.vals to r.2.1 }
def act(u:cf)(m:Mach)(f:Fr)(i:Ins)(args:List SV):Mach :=
 if i.op=13 then m.enter u i.n args i.to
 else if i.op=14 then
  if(bW args 0).kind=2∧(aF (bH u (bW args 0).n) 0).params.length=args.length then m.enter u (bW args 0).n args i.to else m.stop 5 0
 else settle f i.to (m.exec i args)
def step(u:cf)(m:Mach):Mach :=
 match m.frames with
 | []=>m
 | f::_ =>
  match (aF (bH u f.fn) f.blk).ins[f.pos]? with
  | none=>m.finish u f (aF (bH u f.fn) f.blk).term
  | some i=>(m.bA { f with pos:=f.pos+1 }).act u { f with pos:=f.pos+1 } i (cx f.vals i.args)
def start(fuel:Int):Mach:=⟨0,[],[],4,fuel,false,false,[],0,0⟩
def run(u:cf):Nat->Mach->Mach
 | 0,m=>m
 | k+1,m=>if m.over then m else if(m.db 1).short then m.db 1 else run u k (step u (m.db 1))
end Mach
structure Lp where
 out:List Int
 fin:Int
 val:Int
 n:Int
 e:Int
def df(u:cf)(fuel:Int):Lp :=
 let m:=Mach.run u (fuel.toNat+2) ((Mach.start fuel).enter u u.main [] 0)
 if m.short then⟨[],0,0,0,13⟩else⟨m.out,m.fin,m.val,fuel-m.left,0⟩
def fG(n:Int):Prop:=-1073741824<=n∧n<=1073741823
structure HZ(u:cf)(i:Ins):Prop where
 op:(0<=i.op∧i.op<=24)∨i.op=100
 len:i.args.length<=4096
 fits:kX i.to∧kX i.n
 c0:i.op=0->fG i.n
 c2:(1<=i.op∧i.op<=7)∨i.op=16∨i.op=18∨i.op=19∨i.op=21∨i.op=23->i.args.length=2
 c1:i.op=10∨i.op=11∨i.op=12∨i.op=15∨i.op=17∨i.op=24∨i.op=100->i.args.length=1
 c3:i.op=20->i.args.length=3
 Ur:i.op=8->fG i.n∧i.args.length<=16
 U8:i.op=9->0<=i.n∧i.n<u.fns.length∧i.args.length<=16
 call:i.op=13->0<=i.n∧i.n<u.fns.length∧(aF (bH u i.n) 0).params.length=i.args.length
 app:i.op=14->1<=i.args.length
 UW:i.op=11∨i.op=24->0<=i.n
 pack:i.op=22->i.args.length<=16
 vec:i.op=23->i.n=1∨i.n=2∨i.n=3
structure B0(f:Func)(e:Edge):Prop where
 lo:0<=e.block
 hi:e.block<f.blocks.length
 args:e.args.length=(aF f e.block).params.length
 len:e.args.length<=4096
structure B4(f:Func)(t:Term):Prop where
 kind:0<=t.kind∧t.kind<=4
 n:0<=t.n∧t.n<=6
 jump:t.kind=1->t.to.length=1
 cond:t.kind=2->t.to.length=2
 switch:t.kind=3->t.to.length=t.cases.length+1
 eZ:∀e∈t.to,B0 f e
 cl:t.cases.length<=2 ^ 40
structure Ls(u:cf)(f:Func)(b:Block):Prop where
 ins:∀i∈b.ins,HZ u i
 term:B4 f b.term
 len:b.ins.length<=2 ^ 40
structure iK(u:cf):Prop where
 main:0<=u.main∧u.main<u.fns.length
 few:u.fns.length<=256
 none:(aF (bH u u.main) 0).params=[]
 ne:∀f∈u.fns,f.blocks≠[]∧f.blocks.length<=2 ^ 40
 blocks:∀f∈u.fns,∀b∈f.blocks,Ls u f b
def hU(u:cf)(m:Mach)(v:SV):Prop:=SV.Wf u.fns.length (fun id=>∃a∈m.heap,a.lL=id) v
structure B1(u:cf)(m:Mach)(f:Fr):Prop where
 fn:0<=f.fn∧f.fn<u.fns.length
 blk:0<=f.blk∧f.blk<(bH u f.fn).blocks.length
 pos:f.pos<=(aF (bH u f.fn) f.blk).ins.length
 vals:∀e∈f.vals,hU u m e.2
structure dc(u:cf)(m:Mach):Prop where
 frames:∀f∈m.frames,B1 u m f
 ld:∀a∈m.heap,a.l.length<=1024∧∀v∈a.l,hU u m v
 left:0<=m.left
 depth:m.frames.length+m.left<=2 ^ 40
 out:m.out.length<=1000
 words:∀n∈m.out,fG n
 fin:0<=m.fin∧m.fin<=6
 val:fG m.val
 done:m.fin≠0->m.val=0
 over:m.over=false->m.frames≠[]∧m.short=false
def eB(b:Bool):ae:=.v (.bool b)
def az(u:cf)(m:Mach):List ae:=[a7 u.fns,aI u.main,.os m.sid m.frames.length 1,aI m.left,.v (.bool m.short),.v (.bool m.over),.aB 1 (m.out.map aI) (.tok 3),aI m.fin,aI m.val]
def aQ(f:Fr):List ae:=[aI f.fn,aI f.blk,aI f.pos,aI f.to,.mm f.c8]
def eh(l:List Fr):List ae:=l.reverse.map fun f=>.mp f.bL 0
theorem Jx(v:Int):KT.ok (.int .i64) (.int .i64 v)=True:=by simp[KT.ok]
theorem bR{O:List al}{n k:Nat}{x:al}(h:∀o∈O,o.upto n)(hx:x.upto n):∀o∈O.set k x,o.upto n:=fun o ho=>by
 rcases List.mem_or_eq_of_mem_set ho with q|q
 ·exact h o q
 subst q;exact hx
theorem pH{O:List al}{n:Nat}{x:al}(h:∀o∈O,o.upto n)(hx:x.upto n):∀o∈O++[x],o.upto n:=fun o ho=>by
 rcases List.mem_append.1 ho with q|q
 ·exact h o q
 simp only[List.mem_singleton]at q;subst q;exact hx
theorem bX{O:List al}{k:Nat}{x:al}:(O.set k x).take O.length=O.set k x:=List.take_of_length_le (by simp)
theorem cj{O X:List al}{k:Nat}{x:al}(h:O[k]?=some x):(O++X)[k]?=some x:=by
 rw[List.getElem?_append_left (I h),h]
theorem bm{O:List al}{k j:Nat}{x y:al}(h:O[k]?=some x)(hj:j≠k):(O.set j y)[k]?=some x:=by
 rw[List.getElem?_set_ne hj,h]
theorem lP{O:List al}{k:Nat}{x y:al}(h:O[k]?=some x):(O.set k y)[k]?=some y:=List.getElem?_set_self (I h)
theorem kE{O X:List al}{k:Nat}:(O++X)[O.length+k]?=X[k]?:=by
 rw[List.getElem?_append_right (by omega)];simp
theorem sU{O X:List al}:(O++X)[O.length]?=X[0]?:=kE (k:=0)
theorem Bt{O X:List al}{k:Nat}{y:al}:(O++X).set (O.length+k) y=O++X.set k y:=by
 rw[List.set_append_right _ _ (by omega)];simp
theorem Bu{O X:List al}{y:al}:(O++X).set O.length y=O++X.set 0 y:=Bt (k:=0)
theorem J7{a y:al}{X:List al}:(a::X).set 0 y=y::X:=rfl
theorem J6{a y:al}{k:Nat}{X:List al}:(a::X).set (k+1) y=a::X.set k y:=rfl
theorem Kk{O X:List al}:(O++X).take O.length=O:=by simp
end Go.Proofs.YtjdnhamngpafmaaGreat
namespace Go.Av
theorem Lz{P:Program}{kb:Nat}{c:Code}{Q:dP->St->Prop}{σ:St}{F:Prop}(hf:∀base a g,Rel base σ a g->F)(h:F->cu P kb c Q σ):cu P kb c Q σ:=fun base a g hb hr=>h (hf base a g hr) base a g hb hr
theorem fp{P:Program}{kb:Nat}{c:Code}{Q:dP->St->Prop}{n:Nat}{bf:List (Nat×ae)}{O:List al}(s:Nat){sz:Nat}{xs:List ae}{o:pP}(hs:look bf s=some (.aB sz xs o))
  (h:xs.length<=2 ^ 62->cu P kb c Q ⟨n,bf,O⟩):cu P kb c Q ⟨n,bf,O⟩ :=
 Lz (fun _ _ _ hr=>by
  obtain⟨u,_,h2⟩:=hr.slot s _ hs;exact h2.MG) h
theorem qz:∀{l:List (Nat×ae)} {s:Nat} {x:ae},look l s=some x->(s,x)∈l
 | (k,y)::r,s,x,h=>by
  simp only[look]at h;split at h
  ·rename_i e;subst e;simp only[Option.some.injEq]at h;subst h;exact List.mem_cons_self
  exact List.mem_cons_of_mem _ (qz h)
theorem bF{P:Program}{kb:Nat}{c:Code}{Q:dP->St->Prop}{n:Nat}{bf:List (Nat×ae)}{O:List al}(k:Nat)(cw:List (Nat×ae))(hk:k<=O.length)(Jd:kb<=k)(O':List al)(I1:O.take k=O')(hb:∀o∈O',o.upto k)
  (hs:fL ⟨n,bf,O⟩ cw) (pN:∀p∈cw,p.2.upto k) (h:cu P kb c Q ⟨n,cw,O'⟩):cu P kb c Q ⟨n,bf,O⟩ :=
 re k hk Jd cw (by rw[I1];exact hb) hs (fun s x hx=>pN _ (qz hx)) (by rw[I1];exact h)
theorem eK{α:Type}(l:List α)(x:α):(l++[x])[l.length]?=some x:=by simp
theorem u7{α:Type}(l:List α)(x y:α):(l++[x]).set l.length y=l++[y]:=by simp
theorem xy{α:Type}(l m:List α):(l++m).take l.length=l:=by simp
theorem D6(cs:List ae):bk cs 0 []=cs:=by simp[bk]
theorem Bz(c x:ae)(cs xs:List ae):bk (c::cs) 0 (x::xs)=x::bk cs 0 xs:=by simp[bk]
theorem BA(c:ae)(cs xs:List ae)(k:Nat):bk (c::cs) (k+1) xs=c::bk cs k xs:=by
 simp only[bk,List.take_succ_cons,List.cons_append,List.cons.injEq,true_and];rw[show k+1+xs.length=(k+xs.length)+1 by omega,List.drop_succ_cons]
theorem yV{α β:Type}(f:α->β)(l:List α):(l.map f).take l.length=l.map f:=List.take_of_length_le (by simp)
mutual
theorem ae.cE{n m:Nat}(h:n<=m):∀x:ae,x.upto n->x.upto m
 | .v _,_=>trivial
 | .agg cs,hx=>fZ h cs hx
 | .aB _ xs o,hx=>by
  refine⟨fZ h xs hx.1,?_⟩;have:=hx.2;cases o<;>first|trivial|exact Nat.lt_of_lt_of_le this h
 | .ip _ cs,hx=>fZ h cs hx
 | .mp _ _,hx=>Nat.lt_of_lt_of_le hx h
 | .ms _ _ _ _,hx=>Nat.lt_of_lt_of_le hx h
 | .os _ _ _,hx=>Nat.lt_of_lt_of_le hx h
 | .raw _ _ _,hx=>Nat.lt_of_lt_of_le hx h
 | .mm _,hx=>Nat.lt_of_lt_of_le hx h
 | .im _ es,hx=>pG h es hx
 | .fn _ fs cs,hx=>⟨fZ h fs hx.1,fZ h cs hx.2⟩
 | .cK cs,hx=>fZ h cs hx
theorem fZ{n m:Nat}(h:n<=m):∀l:List ae,au n l->au m l
 | [],_=>trivial
 | x::r,hx=>⟨ae.cE h x hx.1,fZ h r hx.2⟩
theorem pG{n m:Nat}(h:n<=m):∀l:List (Value×ae),nz n l->nz m l
 | [],_=>trivial
 | (k,x)::r,hx=>⟨ae.cE h x hx.1,pG h r hx.2⟩
end
theorem al.cE{n m:Nat}(h:n<=m){o:al}(ho:o.upto n):o.upto m:=by
 cases o with
 | cells cs=>exact fZ h cs ho
 | map kt es=>exact pG h es ho
 | _=>trivial
theorem sub_self(O:List al)(x:ae):Sub O x x=True:=by simp[Sub.refl]
theorem Sub.int{O:List al}{k:IntKind}{a b:Int}(h:a=b):Sub O (.v (.int k a)) (.v (.int k b)):=.of_eq (by rw[h])
theorem Sub.aB{O:List al}{sz:Nat}{xs ys:List ae}{o:pP}(h:xs=ys):Sub O (.aB sz xs o) (.aB sz ys o):=.of_eq (by rw[h])
theorem an{p:Unit->Prop}{t:Tag p}(h:p ()):wu p t:=h
theorem LN(x:Value):ae.cells (.v x)=[.v x]:=rfl
theorem Pu(x:Value):ae.flat (.v x)=True:=rfl
theorem tj(x:Value):ae.share (.v x)=.v x:=rfl
theorem cy(x:Value):ae.bo (.v x)=.v x:=rfl
theorem F3(sz:Nat)(xs:List ae)(o:pP):ae.cells (.aB sz xs o)=[.aB sz xs o]:=rfl
theorem IX(sz:Nat)(xs:List ae)(o:pP):ae.flat (.aB sz xs o)=True:=rfl
theorem Hv(sz:Nat)(xs:List ae)(o:pP):ae.share (.aB sz xs o)=.aB sz xs .sh:=rfl
theorem b8(sz:Nat)(xs:List ae)(o:pP):ae.bo (.aB sz xs o)=.aB sz xs .sh:=rfl
theorem Io(oa:Option Addr)(cs:List ae):ae.cells (.ip oa cs)=[.ip oa cs]:=rfl
theorem LY(oa:Option Addr)(cs:List ae):ae.flat (.ip oa cs)=True:=rfl
theorem J'(oa:Option Addr)(cs:List ae):ae.share (.ip oa cs)=.ip oa cs:=rfl
theorem dv(oa:Option Addr)(cs:List ae):ae.bo (.ip oa cs)=.ip oa cs:=rfl
theorem Iq(id off:Nat):ae.cells (.mp id off)=[.mp id off]:=rfl
theorem L0(id off:Nat):ae.flat (.mp id off)=True:=rfl
theorem Kb(id off:Nat):ae.share (.mp id off)=.mp id off:=rfl
theorem dx(id off:Nat):ae.bo (.mp id off)=.mp id off:=rfl
theorem F4(sz n id:Nat):ae.cells (.raw sz n id)=[.raw sz n id]:=rfl
theorem IY(sz n id:Nat):ae.flat (.raw sz n id)=True:=rfl
theorem Hw(sz n id:Nat):ae.share (.raw sz n id)=.raw sz n id:=rfl
theorem wm(sz n id:Nat):ae.bo (.raw sz n id)=.raw sz n id:=rfl
theorem Ir(id off len cap:Nat):ae.cells (.ms id off len cap)=[.ms id off len cap]:=rfl
theorem L4(id off len cap:Nat):ae.flat (.ms id off len cap)=True:=rfl
theorem Kc(id off len cap:Nat):ae.share (.ms id off len cap)=.ms id off len cap:=rfl
theorem yN(id off len cap:Nat):ae.bo (.ms id off len cap)=.ms id off len cap:=rfl
theorem Ip(id:Nat):ae.cells (.mm id)=[.mm id]:=rfl
theorem LZ(id:Nat):ae.flat (.mm id)=True:=rfl
theorem Ka(id:Nat):ae.share (.mm id)=.mm id:=rfl
theorem dw(id:Nat):ae.bo (.mm id)=.mm id:=rfl
theorem Im(kt:KT)(es:List (Value×ae)):ae.cells (.im kt es)=[.im kt es]:=rfl
theorem LX(kt:KT)(es:List (Value×ae)):ae.flat (.im kt es)=True:=rfl
theorem J9(kt:KT)(es:List (Value×ae)):ae.share (.im kt es)=.im kt es:=rfl
theorem du(kt:KT)(es:List (Value×ae)):ae.bo (.im kt es)=.im kt es:=rfl
theorem Il(f:Fn)(fs cs:List ae):ae.cells (.fn f fs cs)=[.fn f fs cs]:=rfl
theorem LW(f:Fn)(fs cs:List ae):ae.flat (.fn f fs cs)=True:=rfl
theorem J8(f:Fn)(fs cs:List ae):ae.share (.fn f fs cs)=.fn f fs cs:=rfl
theorem dt(f:Fn)(fs cs:List ae):ae.bo (.fn f fs cs)=.fn f fs cs:=rfl
theorem F2(cs:List ae):ae.cells (.agg cs)=cs:=rfl
theorem flat_agg(cs:List ae):ae.flat (.agg cs)=True:=rfl
theorem Hu(cs:List ae):ae.share (.agg cs)=.agg (cs.map ae.bo):=rfl
theorem Hx(cs:List ae):ae.share (.cK cs)=.cK cs:=rfl
def aa:=And.intro @ff.eq_1 <|
 And.intro @ff.eq_2 <|
 And.intro @KY.eq_1 <|
 And.intro @vh.eq_1 <|
 And.intro @yv <|
 And.intro @zX <|
 And.intro @CM <|
 And.intro @dF <|
 And.intro @c9 <|
 And.intro @Eg.eq_1 <|
 And.intro @nB.eq_1 <|
 And.intro @y0.eq_1 <|
 And.intro @Ef.eq_1 <|
 And.intro @y2.eq_1 <|
 And.intro @nC.eq_1 <|
 And.intro @oS.eq_1 <|
 And.intro @oS.eq_2 <|
 And.intro @oS.eq_3 <|
 And.intro @oS.eq_4 <|
 And.intro @oS.eq_5 <|
 And.intro @oS.eq_6 <|
 And.intro @oS.eq_7 <|
 And.intro @Pd.eq_1 <|
 And.intro @Hk.eq_1 <|
 And.intro @Hk.eq_2 <|
 And.intro @Hk.eq_3 <|
 And.intro @FM.eq_1 <|
 And.intro @K0.eq_1 <|
 And.intro @K0.eq_2 <|
 And.intro @K0.eq_3 <|
 And.intro @HK.eq_1 <|
 And.intro @HK.eq_2 <|
 And.intro @y1.eq_1 <|
 And.intro @BH.eq_1 <|
 And.intro @BH.eq_2 <|
 And.intro @yX.eq_1 <|
 And.intro @mr.eq_1 <|
 And.intro @nD.eq_1 <|
 And.intro @vg.eq_1 <|
 And.intro @jz.eq_1 <|
 And.intro @rN.eq_1 <|
 And.intro @KV.eq_1 <|
 And.intro @ve.eq_1 <|
 And.intro @KX.eq_1 <|
 And.intro @KU.eq_1 <|
 And.intro @yZ.eq_1 <|
 And.intro @yY.eq_1 <|
 And.intro @yY.eq_2 <|
 And.intro @dI.eq_1 <|
 And.intro @dI.eq_2 <|
 And.intro @dI.eq_3 <|
 And.intro @dI.eq_4 <|
 And.intro @dI.eq_5 <|
 And.intro @dI.eq_6 <|
 And.intro @dI.eq_7 <|
 And.intro @dI.eq_8 <|
 And.intro @dI.eq_9 <|
 And.intro @dI.eq_10 <|
 And.intro @dI.eq_11 <|
 And.intro @dI.eq_12 <|
 And.intro @dI.eq_13 <|
 And.intro @dI.eq_14 <|
 And.intro @KZ.eq_1 <|
 And.intro @KW.eq_1 <|
 And.intro @kp.eq_1 <|
 And.intro @kp.eq_2 <|
 @kp.eq_3
def WS:=And.intro @Qv <|
 And.intro @qB.eq_1 <|
 And.intro @qB.eq_2 <|
 And.intro @qB.eq_3 <|
 And.intro @qB.eq_4 <|
 And.intro @qB.eq_5 <|
 And.intro @qc.eq_1 <|
 And.intro @qc.eq_2 <|
 And.intro @isNil.eq_1 <|
 And.intro @isNil.eq_2 <|
 And.intro @St.ev.eq_1 <|
 And.intro @St.ev.eq_2 <|
 And.intro @St.ev.eq_3 <|
 And.intro @St.ev.eq_4 <|
 And.intro @St.get.eq_1 <|
 And.intro @iA.eq_1 <|
 And.intro @iA.eq_2 <|
 And.intro @kD.eq_1 <|
 And.intro @kD.eq_2 <|
 And.intro @look.eq_1 <|
 And.intro @look.eq_2 <|
 And.intro @slotsOf.eq_1 <|
 And.intro @slotsOf.eq_2 <|
 And.intro @II.eq_1 <|
 And.intro @II.eq_2 <|
 And.intro @oD.eq_1 <|
 And.intro @oD.eq_2 <|
 And.intro @bq.eq_1 <|
 And.intro @aY.eq_1 <|
 And.intro @aY.eq_2 <|
 And.intro @tZ.eq_1 <|
 And.intro @tZ.eq_2 <|
 And.intro @Mode.post.eq_1 <|
 And.intro @Mode.post.eq_2 <|
 And.intro @Mode.post.eq_3 <|
 And.intro @Mode.post.eq_4 <|
 And.intro @Mode.kind.eq_1 <|
 And.intro @Mode.kind.eq_2 <|
 And.intro @Mode.kind.eq_3 <|
 And.intro @Mode.kind.eq_4 <|
 And.intro @Mode.kind.eq_5 <|
 And.intro @Mode.kind.eq_6 <|
 And.intro @LN <|
 And.intro @Pu <|
 And.intro @tj <|
 And.intro @cy <|
 And.intro @F3 <|
 And.intro @IX <|
 And.intro @Hv <|
 And.intro @b8 <|
 And.intro @Io <|
 And.intro @LY <|
 And.intro @J' <|
 And.intro @dv <|
 And.intro @Iq <|
 And.intro @L0 <|
 And.intro @Kb <|
 And.intro @dx <|
 And.intro @F4 <|
 And.intro @IY <|
 And.intro @Hw <|
 And.intro @wm <|
 And.intro @Ir <|
 And.intro @L4 <|
 And.intro @Kc <|
 And.intro @yN <|
 And.intro @Ip <|
 And.intro @LZ <|
 And.intro @Ka <|
 And.intro @dw <|
 And.intro @Im <|
 And.intro @LX <|
 And.intro @J9 <|
 And.intro @du <|
 And.intro @Il <|
 And.intro @LW <|
 And.intro @J8 <|
 And.intro @dt <|
 And.intro @F2 <|
 And.intro @flat_agg <|
 And.intro @Hu <|
 And.intro @Hx <|
 And.intro @tn.eq_1 <|
 And.intro @tn.eq_2 <|
 And.intro @tn.eq_3 <|
 And.intro @tn.eq_4 <|
 And.intro @j'.eq_1 <|
 And.intro @j'.eq_2 <|
 And.intro @j'.eq_3 <|
 And.intro @j'.eq_4 <|
 And.intro @j'.eq_5 <|
 And.intro @j'.eq_6 <|
 And.intro @j'.eq_7 <|
 And.intro @dU.eq_1 <|
 And.intro @dU.eq_2 <|
 And.intro @dU.eq_3 <|
 And.intro @dU.eq_4 <|
 And.intro @dU.eq_5 <|
 And.intro @dU.eq_6 <|
 And.intro @dU.eq_7 <|
 And.intro @dU.eq_8 <|
 And.intro @dU.eq_9 <|
 And.intro @eI.eq_1 <|
 And.intro @dq.eq_1 <|
 And.intro @dq.eq_2 <|
 And.intro @dq.eq_3 <|
 And.intro @dq.eq_4 <|
 And.intro @dq.eq_5 <|
 And.intro @dq.eq_6 <|
 And.intro @dq.eq_7 <|
 And.intro @dq.eq_8 <|
 And.intro @dq.eq_9 <|
 And.intro @dq.eq_10 <|
 And.intro @dq.eq_11 <|
 And.intro @dq.eq_12 <|
 And.intro @dq.eq_13 <|
 And.intro @dq.eq_14 <|
 And.intro @dq.eq_15 <|
 And.intro @dq.eq_16 <|
 And.intro @dq.eq_17 <|
 And.intro @tT.eq_1 <|
 And.intro @tT.eq_2 <|
 And.intro @tT.eq_3 <|
 And.intro @qd.eq_1 <|
 And.intro @qd.eq_2 <|
 And.intro @qd.eq_3 <|
 And.intro @Bool.and_true <|
 And.intro @Bool.true_and <|
 And.intro @Bool.and_false <|
 And.intro @Bool.false_and <|
 And.intro @Bool.and_self <|
 And.intro @Dw.eq_1 <|
 And.intro @Dw.eq_2 <|
 And.intro @Dw.eq_3 <|
 And.intro @Dw.eq_4 <|
 And.intro @jd.eq_1 <|
 And.intro @jd.eq_2 <|
 And.intro @jd.eq_3 <|
 And.intro @Ih.eq_1 <|
 And.intro @Ih.eq_2 <|
 And.intro @St.Aa.eq_1 <|
 And.intro @St.Aa.eq_2 <|
 And.intro @St.eA.eq_1 <|
 And.intro @St.eA.eq_2 <|
 And.intro @lN.eq_1 <|
 And.intro @lN.eq_2 <|
 And.intro @pR.eq_1 <|
 And.intro @pR.eq_2 <|
 And.intro @iu.eq_1 <|
 And.intro @iu.eq_2 <|
 And.intro @D6 <|
 And.intro @Bz <|
 And.intro @BA <|
 And.intro @fW.eq_1 <|
 And.intro @fW.eq_2 <|
 And.intro @iz.eq_1 <|
 And.intro @iz.eq_2 <|
 And.intro @TD.agg.eq_1 <|
 And.intro @TD.agg.eq_2 <|
 And.intro @TD.agg.eq_3 <|
 And.intro @TD.elem.eq_1 <|
 And.intro @TD.elem.eq_2 <|
 And.intro @GV.eq_1 <|
 And.intro @GV.eq_2 <|
 And.intro @GV.eq_3 <|
 And.intro @kN.eq_1 <|
 And.intro @zeroOf.eq_1 <|
 And.intro @Lm.eq_1 <|
 And.intro @Lm.eq_2 <|
 And.intro @Lm.eq_3 <|
 And.intro @Lm.eq_4 <|
 And.intro @Lm.eq_5 <|
 And.intro @GC.eq_1 <|
 And.intro @GC.eq_2 <|
 And.intro @GC.eq_3 <|
 And.intro @GC.eq_4 <|
 And.intro @GC.eq_5 <|
 And.intro @GC.eq_6 <|
 And.intro @GC.eq_7 <|
 And.intro @GC.eq_8 <|
 And.intro @and_self <|
 And.intro @true_and <|
 And.intro @and_true <|
 And.intro @not_false_eq_true <|
 And.intro @List.nil_append.{0} <|
 And.intro @List.cons_append.{0} <|
 And.intro @List.append_nil.{0} <|
 And.intro @List.length_nil.{0} <|
 And.intro @List.length_cons.{0} <|
 And.intro @List.getElem?_cons_zero.{0} <|
 And.intro @List.getElem?_cons_succ.{0} <|
 And.intro @List.getElem?_nil.{0} <|
 And.intro @List.take_succ_cons.{0} <|
 And.intro @List.take_zero.{0} <|
 And.intro @List.take_nil.{0} <|
 And.intro @List.drop_succ_cons.{0} <|
 And.intro @List.drop_zero.{0} <|
 And.intro @List.drop_nil.{0} <|
 And.intro @List.set_cons_zero.{0} <|
 And.intro @List.set_cons_succ.{0} <|
 And.intro @List.map_cons.{0,0} <|
 And.intro @List.map_nil.{0,0} <|
 And.intro @Option.map_none.{0,0} <|
 And.intro @Option.map_some.{0,0} <|
 And.intro @Option.isSome_some.{0} <|
 And.intro @Option.isSome_none.{0} <|
 And.intro @Option.bind_some.{0,0} <|
 And.intro @Bool.false_eq_true <|
 And.intro @Bool.not_true <|
 And.intro @Bool.not_false <|
 And.intro @beq_self_eq_true.{0} <|
 And.intro @List.getElem?_toArray.{0} <|
 And.intro @Nat.zero_add <|
 And.intro @Nat.add_zero <|
 And.intro @decide_true <|
 And.intro @decide_false <|
 And.intro @beq_true <|
 And.intro @beq_false <|
 And.intro @Bool.true_beq <|
 And.intro @Bool.false_beq <|
 And.intro @Bool.not_not <|
 And.intro @decide_eq_true_eq <|
 And.intro @decide_eq_false_iff_not <|
 And.intro @Bool.not_eq_true' <|
 And.intro @Bool.not_eq_false' <|
 And.intro @Bool.not_eq_true <|
 And.intro @Bool.not_eq_false <|
 And.intro @Int.toNat_natCast <|
 And.intro @Int.natCast_zero <|
 And.intro @Int.sub_zero <|
 And.intro @Int.add_zero <|
 And.intro @Int.zero_add <|
 And.intro @Int.toNat_zero <|
 And.intro @List.getElem?_map.{0,0} <|
 And.intro @Int.natCast_nonneg <|
 And.intro @List.length_map.{0,0} <|
 And.intro @List.not_mem_nil.{0} <|
 And.intro @false_implies <|
 And.intro @List.length_append.{0} <|
 And.intro @or_false <|
 And.intro @or_true <|
 And.intro @true_or <|
 And.intro @false_or <|
 And.intro @or_self <|
 And.intro @eK <|
 And.intro @u7 <|
 And.intro @yV <|
 @Nat.le_refl
def bD:=And.intro @yK <|
 And.intro @yJ <|
 And.intro @nv <|
 And.intro @tD <|
 And.intro @kS <|
 And.intro @tE <|
 And.intro @sx <|
 And.intro @vY <|
 And.intro @ma <|
 And.intro @vX <|
 @not_false_eq_true
def G.cut(g:G)(n:Nat):G:=⟨g.w,fun b off=>g.fr b off∨∃(id:Nat) (l:Loc) (o:al),n<=id∧g.env[id]?=some (some l)∧g.objs[id]?=some o∧o.live∧l.block=b∧l.lo<=off,g.env.take n,g.objs.take n⟩
theorem take_iff{α:Type}{l:List α}{n i:Nat}{x:α}:(l.take n)[i]?=some x↔i<n∧l[i]?=some x:=by
 rw[List.getElem?_take];split
 ·rename_i h;simp[h]
 rename_i h;simp[h]
theorem cut_own{g:G}{n b off:Nat}:xG (g.cut n) b off↔xG g b off:=by
 constructor
 ·rintro((h|⟨id,l,o,_,h1,h2,h3,h4,h5⟩)|⟨id,l,o,h1,h2,h3,h4,h5⟩)
  ·exact .inl h
  ·exact .inr ⟨id,l,o,h1,h2,h3,h4,h5⟩
  exact .inr ⟨id,l,o,(take_iff.1 h1).2,(take_iff.1 h2).2,h3,h4,h5⟩
 rintro(h|⟨id,l,o,h1,h2,h3,h4,h5⟩)
 ·exact .inl (.inl h)
 rcases Nat.lt_or_ge id n with aZ|qX
 ·exact .inr ⟨id,l,o,take_iff.2 ⟨aZ,h1⟩,take_iff.2 ⟨aZ,h2⟩,h3,h4,h5⟩
 exact .inl (.inr ⟨id,l,o,qX,h1,h2,h3,h4,h5⟩)
theorem RV.cut{g:G}{n:Nat}(AI:n<=g.objs.length){x:ae}{u:Value}(h:RV g x u)(hb:x.upto n):RV (g.cut n) x u:=by
 induction h with
 | v hx=>exact .v hx
 | agg hl ia _ ih =>
  simp only[ae.upto,bZ]at hb;exact .agg hl ia fun i c u a b=>ih i c u a b (hb c (List.mem_of_getElem? a))
 | nil ho P3 =>
  simp only[ae.upto]at hb;refine .nil (fun id e=>?_) P3;subst e;have:=hb.2;simp only at this;simp only[G.cut,List.length_take];omega
 | aB di ia ee gu hs f hm hr ho ih =>
  rename_i sz xs o a cap;simp only[ae.upto,bZ]at hb;refine .aB di ia ee gu hs f (fun j c hj=>⟨(hm j c hj).1,fun q=>(hm j c hj).2 (cut_own.1 q)⟩) (fun j c hj=>ih j c hj ?_) ?_
  ·have hc:=List.mem_of_getElem? hj;simp only[ao,List.mem_flatMap]at hc;obtain⟨x,hx,hc⟩:=hc;have:=hb.1 x hx;cases x with
   | agg cs =>
    simp only[ae.upto,bZ]at this;exact this c hc
   | _=>simp only[ae.cells,List.mem_singleton]at hc;subst hc;exact this
  cases o with
  | sh=>trivial
  | nn=>trivial
  | ex=>exact ho
  | loc a=>exact ho
  | tok id =>
   have l5:=hb.2;simp only at l5;refine⟨by simp only[G.cut,List.length_take];omega,fun m la=>?_⟩;obtain⟨h1,h2⟩:=ho.2 m (take_iff.1 la).2;refine⟨h1,fun e=>?_⟩;rcases h2 e with q|⟨l,arr,t,q1,q2⟩
   ·exact .inl q
   exact .inr ⟨l,arr,t,take_iff.2 ⟨l5,q1⟩,q2⟩
 | ip ha ia f hm hr ih =>
  simp only[ae.upto,bZ]at hb;exact .ip ha ia f (fun j c hj=>⟨(hm j c hj).1,fun q=>(hm j c hj).2 (cut_own.1 q)⟩) fun j c hj=>ih j c hj (hb c (List.mem_of_getElem? hj))
 | mp he ho To =>
  simp only[ae.upto]at hb;exact .mp (take_iff.2 ⟨hb,he⟩) (take_iff.2 ⟨hb,ho⟩) To
 | ms he ho To hc Gt gu =>
  simp only[ae.upto]at hb;exact .ms (take_iff.2 ⟨hb,he⟩) (take_iff.2 ⟨hb,ho⟩) To hc Gt gu
 | os he ho To hc Gt gu =>
  simp only[ae.upto]at hb;exact .os (take_iff.2 ⟨hb,he⟩) (take_iff.2 ⟨hb,ho⟩) To hc Gt gu
 | raw P3 ho =>
  rename_i sz n0 id a cap;have l5:id<n:=hb;refine .raw P3 ⟨by simp only[G.cut,List.length_take];omega,fun m la=>?_⟩;obtain⟨h1,h2⟩:=ho.2 m (take_iff.1 la).2;refine⟨h1,fun e=>?_⟩;rcases h2 e with q|⟨l,arr,t,q1,q2⟩
  ·exact .inl q
  exact .inr ⟨l,arr,t,take_iff.2 ⟨l5,q1⟩,q2⟩
 | mm he ho To =>
  simp only[ae.upto]at hb;exact .mm (take_iff.2 ⟨hb,he⟩) (take_iff.2 ⟨hb,ho⟩) To
 | im hh To hl hk PV _ ih =>
  simp only[ae.upto,uptoE_iff]at hb;exact .im hh (fun off q=>To off (cut_own.1 q)) hl hk PV fun i e kx a b=>ih i e kx a b (hb kx (List.mem_of_getElem? b))
 | fn hl UJ _ _ ih Yd =>
  simp only[ae.upto,bZ]at hb;exact .fn hl UJ (fun i c u a b=>ih i c u a b (hb.1 c (List.mem_of_getElem? a))) fun i c u a b=>Yd i c u a b (hb.2 c (List.mem_of_getElem? a))
 | cK hl _ ih =>
  simp only[ae.upto,bZ]at hb;exact .cK hl fun i c u a b=>ih i c u a b (hb c (List.mem_of_getElem? a))
theorem Good.cut{g:G}(hg:Good g){n:Nat}(hn:n<=g.objs.length)(hb:∀o∈g.objs.take n,o.upto n):Good (g.cut n) where
 frlt:=fun b off h=>by
  rcases h with h|⟨id,l,o,_,h1,h2,h3,h4,_⟩
  ·exact hg.frlt b off h
  exact h4 ▸ hg.loc id l o h1 h2 h3
 frown:=fun id l o h1 h2 h3 off h=>by
  obtain⟨q1,h1⟩:=take_iff.1 h1;obtain⟨_,h2⟩:=take_iff.1 h2;rcases h with h|⟨ux,l',o',k0,k1,k2,k3,k4,_⟩
  ·exact hg.frown id l o h1 h2 h3 off h
  have:=hg.apart id ux l l' o o' h1 h2 h3 k1 k2 k3 k4.symm;omega
 len:=by simp[G.cut,hg.len]
 loc:=fun id l o h1 h2 h3=>hg.loc id l o (take_iff.1 h1).2 (take_iff.1 h2).2 h3
 apart:=fun id ux l l' o o' h1 h2 h3 k1 k2 k3=>hg.apart id ux l l' o o' (take_iff.1 h1).2 (take_iff.1 h2).2 h3 (take_iff.1 k1).2 (take_iff.1 k2).2 k3
 cells:=fun id cs h1=>by
  have Mf:=hb _ (List.mem_of_getElem? h1);obtain⟨q,h1⟩:=take_iff.1 h1;obtain⟨l,arr,t,e1,e0,e2,e3,e4,e5⟩:=hg.cells id cs h1;simp only[al.upto,bZ]at Mf;exact⟨l,arr,t,take_iff.2 ⟨q,e1⟩,e0,e2,e3,fun j c u a b=>(e4 j c u a b).cut hn (Mf c (List.mem_of_getElem? a)),e5⟩
 spare:=fun id m l h1 h2=>hg.spare id m l (take_iff.1 h1).2 (take_iff.1 h2).2
 map:=fun id kt es h1=>by
  have Mf:=hb _ (List.mem_of_getElem? h1);obtain⟨q,h1⟩:=take_iff.1 h1;obtain⟨l,arr,ox,e1,e0,e2,e3,e6,e4⟩:=hg.map id kt es h1;simp only[al.upto,uptoE_iff]at Mf;exact⟨l,arr,ox,take_iff.2 ⟨q,e1⟩,e0,e2,e3,e6,fun i e kx a b=>⟨(e4 i e kx a b).1,(e4 i e kx a b).2.1,(e4 i e kx a b).2.2.cut hn (Mf kx (List.mem_of_getElem? b))⟩⟩
def G.DR(g:G)(n:Nat)(g':G):G:=⟨g'.w,g.fr,g'.env++g.env.drop n,g'.objs++g.objs.drop n⟩
theorem rejoin_some{α:Type}{a l:List α}{n i:Nat}{x:α}(ha:a.length=n):(a++l.drop n)[i]?=some x↔(i<n∧a[i]?=some x)∨(n<=i∧l[i]?=some x):=by
 rw[List.getElem?_append];split
 ·rename_i h;constructor
  ·intro e;exact .inl ⟨by omega,e⟩
  rintro(⟨_,e⟩|⟨q,_⟩)
  ·exact e
  omega
 rename_i h;rw[List.getElem?_drop,show n+(i-a.length)=i by omega];constructor
 ·intro e;exact .inr ⟨by omega,e⟩
 rintro(⟨q,_⟩|⟨_,e⟩)
 ·omega
 exact e
structure U0(g:G)(n:Nat)(g':G):Prop where
 good:Good g
 le:Le (g.cut n) g'
 W6:Good g'
 lt:n<=g.objs.length
 same:g'.objs.length=n
theorem U0.env{g g':G}{n:Nat}(h:U0 g n g'):g'.env.length=n:=h.W6.len.trans h.same
theorem U0.ownB{g g':G}{n b:Nat}(h:U0 g n g')(hn:jJ (g.DR n g') b):jJ g' b∨∃(id:Nat) (l:Loc) (o:al),n<=id∧g.env[id]?=some (some l)∧g.objs[id]?=some o∧o.live∧l.block=b:=by
 obtain⟨id,l,o,h1,h2,h3,h4⟩:=hn;rcases(rejoin_some h.env).1 h1 with⟨q1,h1⟩|⟨q1,h1⟩
 ·rcases(rejoin_some h.same).1 h2 with⟨q2,h2⟩|⟨q2,h2⟩
  ·exact .inl ⟨id,l,o,h1,h2,h3,h4⟩
  omega
 rcases(rejoin_some h.same).1 h2 with⟨q2,h2⟩|⟨q2,h2⟩
 ·omega
 exact .inr ⟨id,l,o,q1,h1,h2,h3,h4⟩
theorem U0.own{g g':G}{n b off:Nat}(h:U0 g n g'):xG (g.DR n g') b off->xG g' b off:=by
 rintro(hf|⟨id,l,o,h1,h2,h3,h4,h5⟩)
 ·refine .inl ?_;rw[h.le.fr];exact .inl hf
 rcases(rejoin_some h.env).1 h1 with⟨q1,h1⟩|⟨q1,h1⟩
 ·rcases(rejoin_some h.same).1 h2 with⟨q2,h2⟩|⟨q2,h2⟩
  ·exact .inr ⟨id,l,o,h1,h2,h3,h4,h5⟩
  omega
 rcases(rejoin_some h.same).1 h2 with⟨q2,h2⟩|⟨q2,h2⟩
 ·omega
 refine .inl ?_;rw[h.le.fr];exact .inr ⟨id,l,o,q1,h1,h2,h3,h4,h5⟩
theorem cut_ownB{g:G}{n b:Nat}(h:jJ (g.cut n) b):jJ g b:=by
 obtain⟨id,l,o,h1,h2,h3,h4⟩:=h;exact⟨id,l,o,(take_iff.1 h1).2,(take_iff.1 h2).2,h3,h4⟩
theorem cut_ownL{g:G}{n b off:Nat}(h:mE (g.cut n) b off):mE g b off:=by
 obtain⟨id,l,o,h1,h2,h3,h4,h5⟩:=h;exact⟨id,l,o,(take_iff.1 h1).2,(take_iff.1 h2).2,h3,h4,h5⟩
theorem U0.block{g g':G}{n:Nat}(h:U0 g n g'){id:Nat}{l:Loc}{o:al}(l5:n<=id)(h1:g.env[id]?=some (some l))(h2:g.objs[id]?=some o)(h3:o.live):g'.w.heap[l.block]?=g.w.heap[l.block]?:=by
 refine(h.le.block l.block (h.good.loc id l o h1 h2 h3) ?_).1;rintro⟨ux,l',o',k1,k2,k3,k4⟩;obtain⟨q,k1⟩:=take_iff.1 k1;have:=h.good.apart ux id l' l o' o k1 (take_iff.1 k2).2 k3 h1 h2 h3 k4;omega
theorem U0.le'{g g':G}{n:Nat}(h:U0 g n g'):Le g (g.DR n g') where
 os:=h.le.os
 tape:=h.le.tape
 output:=h.le.output
 fr:=rfl
 size:=h.le.size
 block:=fun k hk hh=>by
  obtain⟨q1,q2⟩:=h.le.block k hk (fun q=>hh (cut_ownB q));refine⟨q1,fun q=>?_⟩;rcases h.ownB q with q|⟨id,l,o,_,q⟩
  ·exact q2 q
  exact hh ⟨id,l,o,q⟩
 cell:=fun b off x hx hh=>by
  obtain⟨q1,q2⟩:=h.le.cell b off x hx (fun q=>hh (cut_ownL q));refine⟨q1,fun q=>?_⟩;obtain⟨id,l,o,h1,h2,h3,h4,h5⟩:=q;rcases(rejoin_some h.env).1 h1 with⟨e1,h1⟩|⟨e1,h1⟩
  ·rcases(rejoin_some h.same).1 h2 with⟨e2,h2⟩|⟨e2,h2⟩
   ·exact q2 ⟨id,l,o,h1,h2,h3,h4,h5⟩
   omega
  rcases(rejoin_some h.same).1 h2 with⟨e2,h2⟩|⟨e2,h2⟩
  ·omega
  exact hh ⟨id,l,o,h1,h2,h3,h4,h5⟩
 len:=by
  simp only[G.DR,List.length_append,List.length_drop,h.same];omega
 spare:=fun id m hm=>by
  rcases Nat.lt_or_ge id n with q|q
  ·rcases h.le.spare id m (take_iff.2 ⟨q,hm⟩)with⟨m',k1,k2⟩|⟨o',k1,k2⟩
   ·exact .inl ⟨m',(rejoin_some h.same).2 (.inl ⟨q,k1⟩),k2⟩
   exact .inr ⟨o',(rejoin_some h.same).2 (.inl ⟨q,k1⟩),k2⟩
  exact .inl ⟨m,(rejoin_some h.same).2 (.inr ⟨q,hm⟩),Nat.le_refl _⟩
 plain:=fun id o ho hs=>by
  have aZ:=I ho;have he:g.env[id]?=some (g.env[id]'(by rw[h.good.len];exact aZ)):=List.getElem?_eq_getElem _;rcases Nat.lt_or_ge id n with q|q
  ·obtain⟨⟨o',k1,k2⟩,k3⟩:=h.le.plain id o (take_iff.2 ⟨q,ho⟩) hs;refine⟨⟨o',(rejoin_some h.same).2 (.inl ⟨q,k1⟩),k2⟩,?_⟩;rw[he];refine(rejoin_some h.env).2 (.inl ⟨q,?_⟩);rw[k3];exact take_iff.2 ⟨q,he⟩
  refine⟨⟨o,(rejoin_some h.same).2 (.inr ⟨q,ho⟩),hs⟩,?_⟩;rw[he];exact(rejoin_some h.env).2 (.inr ⟨q,he⟩)
 gone:=fun id ho=>by
  rcases Nat.lt_or_ge id n with q|q
  ·exact(rejoin_some h.same).2 (.inl ⟨q,h.le.gone id (take_iff.2 ⟨q,ho⟩)⟩)
  exact(rejoin_some h.same).2 (.inr ⟨q,ho⟩)
 tok:=fun id m hm la=>by
  have aZ:=I hm;have he:g.env[id]?=some (g.env[id]'(by rw[h.good.len];exact aZ)):=List.getElem?_eq_getElem _;rcases(rejoin_some h.same).1 la with⟨q,la⟩|⟨q,la⟩
  ·obtain⟨k1,k2⟩:=h.le.tok id m (take_iff.2 ⟨q,hm⟩) la;refine⟨?_,fun l hl=>k2 l (take_iff.2 ⟨q,hl⟩)⟩;rw[he];refine(rejoin_some h.env).2 (.inl ⟨q,?_⟩);rw[k1];exact take_iff.2 ⟨q,he⟩
  refine⟨?_,fun l hl=>h.block q hl hm trivial⟩;rw[he];exact(rejoin_some h.env).2 (.inr ⟨q,he⟩)
theorem RV.DR{g g':G}{n:Nat}(hc:U0 g n g'){x:ae}{u:Value}(h:RV g' x u):RV (g.DR n g') x u:=by
 have aZ:∀{id:Nat} {o:al},g'.objs[id]?=some o->id<n:=fun ho=>by
  have:=I ho;rw[hc.same]at this;exact this
 induction h with
 | v hx=>exact .v hx
 | agg hl ia _ ih=>exact .agg hl ia ih
 | nil ho P3 =>
  refine .nil (fun id e=>?_) P3;have:=ho id e;simp only[G.DR,List.length_append];omega
 | aB di ia ee gu hs f hm hr ho ih =>
  rename_i sz xs o a cap;refine .aB di ia ee gu hs f (fun j c hj=>⟨(hm j c hj).1,fun q=>(hm j c hj).2 (hc.own q)⟩) ih ?_;cases o with
  | sh=>trivial
  | nn=>trivial
  | ex=>exact ho
  | loc a=>exact ho
  | tok id =>
   have l5:=ho.1;rw[hc.same]at l5;refine⟨by simp only[G.DR,List.length_append,hc.same];omega,fun m la=>?_⟩;rcases(rejoin_some hc.same).1 la with⟨q,la⟩|⟨q,_⟩
   ·obtain⟨h1,h2⟩:=ho.2 m la;refine⟨h1,fun e=>?_⟩;rcases h2 e with k|⟨l,arr,t,k1,k2⟩
    ·exact .inl k
    exact .inr ⟨l,arr,t,(rejoin_some hc.env).2 (.inl ⟨q,k1⟩),k2⟩
   omega
 | ip ha ia f hm hr ih=>exact .ip ha ia f (fun j c hj=>⟨(hm j c hj).1,fun q=>(hm j c hj).2 (hc.own q)⟩) ih
 | mp he ho To=>exact .mp ((rejoin_some hc.env).2 (.inl ⟨aZ ho,he⟩)) ((rejoin_some hc.same).2 (.inl ⟨aZ ho,ho⟩)) To
 | ms he ho To sK Gt gu=>exact .ms ((rejoin_some hc.env).2 (.inl ⟨aZ ho,he⟩)) ((rejoin_some hc.same).2 (.inl ⟨aZ ho,ho⟩)) To sK Gt gu
 | os he ho To sK Gt gu=>exact .os ((rejoin_some hc.env).2 (.inl ⟨aZ ho,he⟩)) ((rejoin_some hc.same).2 (.inl ⟨aZ ho,ho⟩)) To sK Gt gu
 | raw P3 ho =>
  rename_i sz n0 id a cap;have l5:=ho.1;rw[hc.same]at l5;refine .raw P3 ⟨by simp only[G.DR,List.length_append,hc.same];omega,fun m la=>?_⟩;rcases(rejoin_some hc.same).1 la with⟨q,la⟩|⟨q,_⟩
  ·obtain⟨h1,h2⟩:=ho.2 m la;refine⟨h1,fun e=>?_⟩;rcases h2 e with k|⟨l,arr,t,k1,k2⟩
   ·exact .inl k
   exact .inr ⟨l,arr,t,(rejoin_some hc.env).2 (.inl ⟨q,k1⟩),k2⟩
  omega
 | mm he ho To=>exact .mm ((rejoin_some hc.env).2 (.inl ⟨aZ ho,he⟩)) ((rejoin_some hc.same).2 (.inl ⟨aZ ho,ho⟩)) To
 | im hh To hl hk PV _ ih=>exact .im hh (fun off q=>To off (hc.own q)) hl hk PV ih
 | fn hl UJ _ _ ih Yd=>exact .fn hl UJ ih Yd
 | cK hl _ ih=>exact .cK hl ih
theorem U0.U'{g g':G}{n:Nat}(h:U0 g n g'):Good (g.DR n g') where
 frlt:=fun b off hf=>Nat.lt_of_lt_of_le (h.good.frlt b off hf) h.le.size
 frown:=fun id l o h1 h2 h3 off hf=>by
  rcases(rejoin_some h.env).1 h1 with⟨q,h1⟩|⟨q,h1⟩
  ·rcases(rejoin_some h.same).1 h2 with⟨_,h2⟩|⟨q2,_⟩
   ·refine h.W6.frown id l o h1 h2 h3 off ?_;rw[h.le.fr];exact .inl hf
   omega
  rcases(rejoin_some h.same).1 h2 with⟨q2,_⟩|⟨_,h2⟩
  ·omega
  exact h.good.frown id l o h1 h2 h3 off hf
 len:=by simp[G.DR,h.env,h.same,h.good.len]
 loc:=fun id l o h1 h2 h3=>by
  rcases(rejoin_some h.env).1 h1 with⟨q,h1⟩|⟨q,h1⟩
  ·rcases(rejoin_some h.same).1 h2 with⟨_,h2⟩|⟨q2,_⟩
   ·exact h.W6.loc id l o h1 h2 h3
   omega
  rcases(rejoin_some h.same).1 h2 with⟨q2,_⟩|⟨_,h2⟩
  ·omega
  exact Nat.lt_of_lt_of_le (h.good.loc id l o h1 h2 h3) h.le.size
 apart:=fun id ux l l' o o' h1 h2 h3 k1 k2 k3 uk=>by
  have hx:∀{i:Nat} {l:Loc} {o:al},(g.DR n g').env[i]?=some (some l)->(g.DR n g').objs[i]?=some o->(i<n∧g'.env[i]?=some (some l)∧g'.objs[i]?=some o)∨(n<=i∧g.env[i]?=some (some l)∧g.objs[i]?=some o):=by
   intro i l o h1 h2;rcases(rejoin_some h.env).1 h1 with⟨q,h1⟩|⟨q,h1⟩
   ·rcases(rejoin_some h.same).1 h2 with⟨_,h2⟩|⟨q2,_⟩
    ·exact .inl ⟨q,h1,h2⟩
    omega
   rcases(rejoin_some h.same).1 h2 with⟨q2,_⟩|⟨_,h2⟩
   ·omega
   exact .inr ⟨q,h1,h2⟩
  rcases hx h1 h2 with⟨q,e1,e2⟩|⟨q,e1,e2⟩
  ·rcases hx k1 k2 with⟨q',f1,f2⟩|⟨q',f1,f2⟩
   ·exact h.W6.apart id ux l l' o o' e1 e2 h3 f1 f2 k3 uk
   refine absurd ?_ (h.W6.frown id l o e1 e2 h3 l'.lo);rw[h.le.fr];exact .inr ⟨ux,l',o',q',f1,f2,k3,uk.symm,Nat.le_refl _⟩
  rcases hx k1 k2 with⟨q',f1,f2⟩|⟨q',f1,f2⟩
  ·refine absurd ?_ (h.W6.frown ux l' o' f1 f2 k3 l.lo);rw[h.le.fr];exact .inr ⟨id,l,o,q,e1,e2,h3,uk,Nat.le_refl _⟩
  exact h.good.apart id ux l l' o o' e1 e2 h3 f1 f2 k3 uk
 cells:=fun id cs h1=>by
  rcases(rejoin_some h.same).1 h1 with⟨q,h1⟩|⟨q,h1⟩
  ·obtain⟨l,arr,t,e1,e0,e2,e3,e4,e5⟩:=h.W6.cells id cs h1;exact⟨l,arr,t,(rejoin_some h.env).2 (.inl ⟨q,e1⟩),e0,e2,e3,fun j c u a b=>(e4 j c u a b).DR h,e5⟩
  obtain⟨l,arr,t,e1,e0,e2,e3,e4,e5⟩:=h.good.cells id cs h1;exact⟨l,arr,t,(rejoin_some h.env).2 (.inr ⟨q,e1⟩),e0,(h.block q e1 h1 trivial).trans e2,e3,fun j c u a b=>(e4 j c u a b).mono h.le',e5⟩
 spare:=fun id m l h1 h2=>by
  rcases(rejoin_some h.same).1 h1 with⟨q,h1⟩|⟨q,h1⟩
  ·rcases(rejoin_some h.env).1 h2 with⟨_,h2⟩|⟨q2,_⟩
   ·exact h.W6.spare id m l h1 h2
   omega
  rcases(rejoin_some h.env).1 h2 with⟨q2,_⟩|⟨_,h2⟩
  ·omega
  obtain⟨arr,t,e⟩:=h.good.spare id m l h1 h2;exact⟨arr,t,(h.block q h2 h1 trivial).trans e⟩
 map:=fun id kt es h1=>by
  rcases(rejoin_some h.same).1 h1 with⟨q,h1⟩|⟨q,h1⟩
  ·obtain⟨l,arr,ox,e1,e0,e2,e3,e6,e4⟩:=h.W6.map id kt es h1;exact⟨l,arr,ox,(rejoin_some h.env).2 (.inl ⟨q,e1⟩),e0,e2,e3,e6,fun i e kx a b=>⟨(e4 i e kx a b).1,(e4 i e kx a b).2.1,(e4 i e kx a b).2.2.DR h⟩⟩
  obtain⟨l,arr,ox,e1,e0,e2,e3,e6,e4⟩:=h.good.map id kt es h1;exact⟨l,arr,ox,(rejoin_some h.env).2 (.inr ⟨q,e1⟩),e0,(h.block q e1 h1 trivial).trans e2,e3,e6,fun i e kx a b=>⟨(e4 i e kx a b).1,(e4 i e kx a b).2.1,(e4 i e kx a b).2.2.mono h.le'⟩⟩
theorem ba.frame{P:Program}{f:FuncId}{O O':List al}{args:List ae}{r:ae}(h:ba P f O args fun r' O1=>r'=r∧O1=O')(hlen:O'.length=O.length)(hb:au O.length args)(hO:∀o∈O,o.upto O.length)(X:List al) :
  ba P f (O++X) args fun r' O1=>r'=r∧O1=O'++X:=by
 refine⟨h.1,?_⟩;intro g vs hg ho ha;have hn:O.length<=g.objs.length:=by simp[ho]
 have gk:g.objs.take O.length=O:=by simp[ho]
 have HN:lM (g.cut O.length) args vs:=⟨ha.1,fun j c u a b=>(ha.2 j c u a b).cut hn (bZ.1 hb c (List.mem_of_getElem? a))⟩
 refine(h.2 (g.cut O.length) vs (hg.cut hn (by rw[gk];exact hO)) gk HN).mono ?_;rintro e w' ⟨g',v,r',h1,h2,h3,h4,h5,h6,h7⟩;subst h6;have hc:U0 g O.length g':=⟨hg,h3,h4,hn,by rw[h7,hlen]⟩
 exact⟨g.DR O.length g',v,r',h1,h2,hc.le',hc.U',h5.DR hc,rfl,by simp[G.DR,h7,ho]⟩
end Go.Av
namespace Go.Av
open Go.ChangeShapes Go.WideShapes Go.RowKit
def g0(w:World):G:=⟨w,fun _ _=>False,[],[]⟩
theorem Pw{w:World}{b off:Nat}:¬xG (g0 w) b off:=by
 rintro(h|⟨id,l,o,h1,_⟩)
 ·exact h
 simp[g0]at h1
theorem IZ{w:World}{b:Nat}:¬jJ (g0 w) b:=by
 rintro⟨id,l,o,h1,_⟩;simp[g0]at h1
theorem L5(w:World):Good (g0 w) where
 frlt:=fun _ _ h=>h.elim
 frown:=fun _ _ _ h=>by simp[g0]at h
 len:=rfl
 loc:=fun _ _ _ h=>by simp[g0]at h
 apart:=fun _ _ _ _ _ _ h=>by simp[g0]at h
 cells:=fun _ _ h=>by simp[g0]at h
 spare:=fun _ _ _ h=>by simp[g0]at h
 map:=fun _ _ _ h=>by simp[g0]at h
def zv(P:Program)(t:TypeId):Bool :=
 match P.underlying t with
 | some (.struct _)=>true
 | some (.array _ _)=>true
 | _=>false
def HW(P:Program)(e:TypeId)(cs:List ae):ae:=if zv P e then .agg cs else cs.getD 0 (.v (.bool false))
def Lt(S:TypeId->List ae->Prop):List TypeId->List ae->Prop
 | [],cs=>cs=[]
 | t::ts,cs=>∃a b,cs=a++b∧S t a∧Lt S ts b
def vm(P:Program):Nat->TypeId->List ae->Prop
 | 0,_,_=>False
 | n+1,t,cs=>match P.underlying t with
  | some .bool=>∃b,cs=[.v (.bool b)]
  | some (.int k)=>∃m:Int,cs=[.v (.int k m)]∧k.min<=m∧m<=k.max
  | some .string=>∃s:ByteArray,cs=[.v (.string s)]∧s.size<=reachBytes
  | some (.slice e)=>∃xs:List (List ae),cs=[.aB (P.cellsOf e) (xs.map (HW P e)) .sh]∧(∀x∈xs,vm P n e x)∧xs.length*P.bytesOf e<=reachBytes
  | some (.struct fs)=>Lt (vm P n) (fs.toList.map (·.type)) cs
  | _=>False
def Pm(P:Program)(ts:List TypeId):Bool :=
 ts.all fun t=>decide (t<P.types.size)&&match P.underlying t with
  | some .bool=>true
  | some (.int _)=>true
  | some .string=>true
  | some (.slice e)=>ts.contains e&&decide (0<P.bytesOf e)&&decide (0<P.cellsOf e)&&(zv P e || decide (P.cellsOf e=1))
  | some (.struct fs)=>fs.toList.all fun f=>ts.contains f.type
  | _=>false
def Rf(g:G)(dA:List ae)(us:List Value):Prop:=dA.length=us.length∧(∀c∈dA,c.scalar)∧∀(i:Nat) c u,dA[i]?=some c->us[i]?=some u->RV g c u
theorem Rf.append{g:G}{dA bs:List ae}{us vs:List Value}(h:Rf g dA us)(k:Rf g bs vs):Rf g (dA++bs) (us++vs):=by
 obtain⟨h1,h2,h3⟩:=h;obtain⟨k1,k2,k3⟩:=k;refine⟨by simp[h1,k1],fun c hc=>(List.mem_append.1 hc).elim (h2 c) (k2 c),fun i c u hc hu=>?_⟩;rw[List.getElem?_append]at hc hu;by_cases hi:i<dA.length
 ·rw[if_pos hi]at hc;rw[if_pos (by omega)]at hu;exact h3 i c u hc hu
 rw[if_neg hi]at hc;rw[if_neg (by omega),<-h1]at hu;exact k3 _ c u hc hu
theorem Rf.one{g:G}{a:ae}{u:Value}(hs:a.scalar)(h:RV g a u):Rf g [a] [u]:=by
 refine⟨rfl,by simpa using hs,fun i c u' hc hu=>?_⟩;cases i with
 | zero =>
  simp at hc hu;subst hc;subst hu;exact h
 | succ i=>simp at hc
section
variable {H:Type} {enc:TypeId×Value->H} {P:Program} {w:World} {sp:Nat->Bool} {held:Bool}
theorem su{e:TypeId}:∀{ds:List (DataW H)} {d:DataW H},d∈ds->∀n∈d.weights P e,n∈DataW.weightsAll P e ds
 | d0::ds,d,hd,n,hn=>by
  simp only[DataW.weightsAll,List.mem_append];rcases List.mem_cons.1 hd with rfl|hd
  ·exact .inl hn
  exact .inr (su hd n hn)
theorem AV{α β:Type}{f:α->Option β}:∀{l:List α} {r:List β},l.mapM f=some r->r.length=l.length∧∀(i:Nat) x y,l[i]?=some x->r[i]?=some y->f x=some y
 | [],r,h=>by
  simp at h;subst h;exact⟨rfl,fun i x y hx=>by simp at hx⟩
 | a::l,r,h=>by
  rw[List.mapM_cons]at h;obtain⟨b,hb,h⟩:=Option.bind_eq_some_iff.1 h;obtain⟨r',hr,h⟩:=Option.bind_eq_some_iff.1 h;cases h;obtain⟨h1,h2⟩:=AV hr;refine⟨by simp[h1],fun i x y hx hy=>?_⟩;cases i with
  | zero =>
   simp at hx hy;subst hx;subst hy;exact hb
  | succ i=>exact h2 i x y (by simpa using hx) (by simpa using hy)
theorem ri{base:Nat}{a:Addr}{n:Nat}{cs:List Value}(h:w.cells? base a n=some cs):cs.length=n∧∀(i:Nat) u,cs[i]?=some u->w.cell? (a.add i)=some u:=by
 unfold World.cells? at h;split at h
 ·obtain⟨h1,h2⟩:=AV h;have hl:cs.length=n:=by simpa using h1
  refine⟨hl,fun i u hu=>?_⟩;have hi:=I hu;exact h2 i i u (by simp[List.getElem?_range (show i<n by omega)]) hu
 cases h
theorem sc{α β:Type}{p:α->β->Prop}:∀n:Nat,∀f:Nat->α,(∀i,i<n->∃b,p (f i) b)->∃bs:List β,bs.length=n∧∀i b,bs[i]?=some b->p (f i) b
 | 0,_,_=>⟨[],rfl,fun i b h=>by simp at h⟩
 | n+1,f,h=>by
  obtain⟨bs,h1,h2⟩:=sc n f (fun i hi=>h i (by omega));obtain⟨b,hb⟩:=h n (by omega);refine⟨bs++[b],by simp[h1],fun i c hc=>?_⟩;rcases aK hc with hc|⟨rfl,rfl⟩
  ·exact h2 i c hc
  rw[h1];exact hb
theorem zJ{e:TypeId}(e9:zv P e=true∨P.cellsOf e=1){xs:List (List ae)}(hx:∀x∈xs,x.length=P.cellsOf e∧∀c∈x,c.scalar):ao (xs.map (HW P e))=xs.flatten∧∀x∈xs,(HW P e x).cells=x:=by
 have key:∀x∈xs,(HW P e x).cells=x:=fun x Js=>by
  unfold HW;split
  ·rfl
  rename_i hn;rcases e9 with h|h
  ·exact absurd h hn
  obtain⟨h1,h2⟩:=hx x Js;rw[h]at h1
  match x,h1 with
  | [c],_ =>
   have:=h2 c (by simp);cases c<;>first|rfl|exact this.elim
 refine⟨?_,key⟩;clear hx;induction xs with
 | nil=>rfl
 | cons x xs ih =>
  simp only[List.map_cons,ao,List.flatMap_cons,List.flatten_cons];rw[key x (by simp)];congr 1;exact ih fun y hy=>key y (by simp[hy])
theorem rZ{n:Nat}:∀{xs:List (List ae)} (_:∀x∈xs,x.length=n) {j:Nat} {c:ae},xs.flatten[j]?=some c->∃i k x,j=i*n+k∧k<n∧xs[i]?=some x∧x[k]?=some c
 | [],_,j,c,h=>by simp at h
 | x::xs,hx,j,c,h=>by
  have hl:=hx x (by simp);rw[List.flatten_cons,List.getElem?_append]at h;split at h
  ·rename_i hj;exact⟨0,j,x,by omega,by omega,by simp,h⟩
  rename_i hj;obtain⟨i,k,y,h1,h2,h3,h4⟩:=rZ (fun y hy=>hx y (by simp[hy])) h;refine⟨i+1,k,y,?_,h2,by simpa using h3,h4⟩;rw[Nat.add_mul,Nat.one_mul];omega
theorem uY{n:Nat}{cs:List Value}{S:TypeId->List ae->Prop}{ts:List TypeId}
  (ih:∀t cs' (x:DataW H×List MemPlace),t∈ts->DataW.trod enc P w 0 sp held n t cs'=some x->(∀m∈x.1.weights P t,m<=reachBytes)->∃dA,S t dA∧Rf (g0 w) dA cs') :
  ∀(fl:List Field) (o:Nat) (xs:List (DataW H×List MemPlace)),(∀f∈fl,f.type∈ts)->(∀(j:Nat) f,fl[j]?=some f->f.offset=o+((fl.take j).map fun f=>P.cellsOf f.type).sum) ->
   o+(fl.map fun f=>P.cellsOf f.type).sum<=cs.length->xs.length=fl.length ->
   (∀(i:Nat) f,fl[i]?=some f->DataW.trod enc P w 0 sp held n f.type ((cs.drop f.offset).take (P.cellsOf f.type))=xs[i]?) ->
   (∀m∈DataW.weightsEach P (fl.map (·.type)) (xs.map (·.1)),m<=reachBytes) ->
   ∃dA,Lt S (fl.map (·.type)) dA∧Rf (g0 w) dA ((cs.drop o).take (fl.map fun f=>P.cellsOf f.type).sum)
 | [],o,xs,_,_,_,_,_,_=>⟨[],rfl,by simp[Rf]⟩
 | f::fl,o,[],_,_,_,hx,_,_=>by simp at hx
 | f::fl,o,y::ys,TX,Tv,hlen,hx,hm,hw=>by
  have ho:f.offset=o:=by simpa using Tv 0 f rfl
  simp only[List.map_cons,DataW.weightsEach,List.mem_append]at hw;simp only[List.map_cons,List.sum_cons]at hlen ⊢;obtain⟨dA,h1,h2⟩:=ih f.type _ y (TX f (by simp)) (by simpa using hm 0 f rfl) (fun m hm=>hw m (.inl hm));obtain⟨bs,k1,k2⟩:=uY ih fl (o+P.cellsOf f.type) ys (fun g hg=>TX g (by simp[hg])) (fun j g hg=>by
   have:=Tv (j+1) g (by simpa using hg);simp only[List.take_succ_cons,List.map_cons,List.sum_cons]at this;omega) (cs:=cs) (by omega) (by simpa using hx) (fun i g hg=>by simpa using hm (i+1) g (by simpa using hg)) (fun m hm=>hw m (.inr hm))
  refine⟨dA++bs,⟨dA,bs,rfl,h1,k1⟩,?_⟩;rw[List.take_add,List.drop_drop];rw[ho]at h2;exact h2.append k2
theorem add_add{a:Addr}(hs:a.spot=none)(m k:Nat):(a.add m).add k=⟨a.block,a.off+(m+k),none⟩:=by
 cases a with
 | mk b off spot =>
  subst hs;unfold Addr.add;by_cases hm:m=0<;>by_cases hk:k=0<;>simp[hm,hk,Nat.add_assoc]
theorem yR{a:Addr}{u:Value}(h:w.cell? a=some u):a.spot=none:=by
 unfold World.cell? at h;split at h
 ·split at h
  ·cases h
  rename_i hs;simpa using hs
 cases h
theorem Bp(hl:laidOutB P=true){ts:List TypeId}(hc:Pm P ts=true)(n:Nat):∀(t:TypeId) (cs:List Value) (x:DataW H×List MemPlace),t∈ts ->
  DataW.trod enc P w 0 sp held n t cs=some x->(∀m∈x.1.weights P t,m<=reachBytes)->∃dA,vm P n t dA∧Rf (g0 w) dA cs:=by
 induction n with
 | zero=>intro _ _ _ _ h;simp[DataW.trod]at h
 | succ n ih =>
  intro t cs x ht h hw;have Aw:=List.all_eq_true.1 hc t ht;simp only[Bool.and_eq_true,decide_eq_true_eq]at Aw;obtain⟨di,Aw⟩:=Aw;cases hu:P.underlying t with
  | none=>rw[hu]at Aw;cases Aw
  | some d =>
   rw[hu]at Aw;cases d with
   | bool =>
    obtain⟨b,rfl,rfl⟩:=DataW.trod_bool hu h;exact⟨[.v (.bool b)],by simp only[vm,hu];exact⟨b,rfl⟩,.one trivial (.v trivial)⟩
   | int k =>
    obtain⟨m,rfl,rfl,Wy⟩:=DataW.trod_int hu h;simp only[Lit.wf,Bool.and_eq_true,decide_eq_true_eq]at Wy;exact⟨[.v (.int k m)],by simp only[vm,hu];exact⟨m,rfl,Wy⟩,.one trivial (.v Wy)⟩
   | string =>
    obtain⟨s,rfl,rfl,hs⟩:=DataW.trod_string hu h;have hb:s.size<=reachBytes:=by
     have:=hw s.data.toList.length (by simp[DataW.weights]);simpa using this
    exact⟨[.v (.string s)],by simp only[vm,hu];exact⟨s,rfl,hb⟩,.one trivial (.v trivial)⟩
   | slice e =>
    simp only[Bool.and_eq_true,decide_eq_true_eq,Bool.or_eq_true,List.contains_iff_mem]at Aw;obtain⟨⟨⟨he,hb⟩,HO⟩,e9⟩:=Aw;rcases DataW.trod_slice hu h with⟨rfl,rfl⟩|⟨a,len,cap,elems,rest,n',To,rfl,rfl,_,Lc,Mi,EK,cA,_,_⟩
    ·exact⟨[.aB (P.cellsOf e) [] .sh],by simp only[vm,hu];exact⟨[],rfl,by simp,by simp[reachBytes]⟩,.one trivial (.nil (fun id h=>by cases h) (by simp))⟩
    cases To;simp only[DataW.weights,hu,List.mem_cons,List.mem_append]at hw;have hlen:(len+rest.length)*P.bytesOf e<=reachBytes:=by
     have:=hw _ (.inl rfl);simpa[EK]using this
    have OF:len*P.bytesOf e<=reachBytes:=Nat.le_trans (Nat.mul_le_mul_right _ (by omega)) hlen;have hle:len<=reachBytes:=Nat.le_trans (Nat.le_mul_of_pos_right _ hb) OF;have AJ:∀i,i<len->∃dA:List ae,vm P n e dA∧∃us,Rf (g0 w) dA us∧w.cells? 0 (a.add (i*P.cellsOf e)) (P.cellsOf e)=some us:=fun i hi=>by
     have hy:elems[i]?=some elems[i]:=List.getElem?_eq_getElem (by omega);have h2:=cA i hi;rw[hy]at h2;obtain⟨us,h3,h4⟩:=Option.bind_eq_some_iff.1 h2;obtain⟨dA,k1,k2⟩:=ih e us elems[i] he h4 (fun m hm=>hw m (.inr (.inl (su (List.mem_map.2 ⟨elems[i],List.getElem_mem _,rfl⟩) m hm))));exact⟨dA,k1,us,k2,h3⟩
    obtain⟨xs,OW,GO⟩:=sc (p:=fun(i:Nat) (dA:List ae)=>vm P n e dA∧∃us,Rf (g0 w) dA us∧w.cells? 0 (a.add (i*P.cellsOf e)) (P.cellsOf e)=some us) len id AJ;have RL:∀y∈xs,y.length=P.cellsOf e∧∀c∈y,c.scalar:=fun y hy=>by
     obtain⟨i,hi⟩:=List.mem_iff_getElem?.1 hy;obtain⟨_,us,h2,h3⟩:=GO i y hi;exact⟨h2.1.trans (ri h3).1,h2.2.1⟩
    obtain⟨SG,Xw⟩:=zJ (P:=P) (by simpa using e9) RL;have oL:xs≠[]->a.spot=none:=fun bI=>by
     match xs,bI,GO,RL with
     | y::ys,_,GO,RL =>
      obtain⟨_,us,h2,h3⟩:=GO 0 y rfl;obtain⟨h4,h5⟩:=ri h3;have h6:=h5 0 (us[0]'(by omega)) (List.getElem?_eq_getElem _);have:=yR h6;simpa[Addr.add]using this
    refine⟨[.aB (P.cellsOf e) (xs.map (HW P e)) .sh],?_,.one trivial ?_⟩
    ·simp only[vm,hu];refine⟨xs,rfl,fun y hy=>?_,by rw[OW];exact OF⟩;obtain⟨i,hi⟩:=List.mem_iff_getElem?.1 hy;exact(GO i y hi).1
    have fQ:∀(j:Nat) (c:ae),xs.flatten[j]?=some c->∃u,w.cell? ⟨a.block,a.off+j,none⟩=some u∧RV (g0 w) c u:=fun j c hj=>by
     obtain⟨i,k,y,h1,h2,h3,h4⟩:=rZ (n:=P.cellsOf e) (fun y hy=>(RL y hy).1) hj;obtain⟨_,us,h5,h6⟩:=GO i y h3;obtain⟨h7,h8⟩:=ri h6;have hk:us[k]?=some (us[k]'(by omega)):=List.getElem?_eq_getElem _;have h9:=h8 k _ hk;have bI:xs≠[]:=fun e=>by rw[e]at h3;simp at h3
     have PA:(a.add (id i*P.cellsOf e)).add k=⟨a.block,a.off+(i*P.cellsOf e+k),none⟩:=add_add (oL bI) _ _;rw[PA,<-h1]at h9;exact⟨_,h9,h5.2.2 k c _ h4 hk⟩
    have key:=@RV.aB (g0 w) (P.cellsOf e) (xs.map (HW P e)) .sh a cap (fun x hx=>by
     obtain⟨y,hy,rfl⟩:=List.mem_map.1 hx;rw[Xw y hy];exact(RL y hy).1) (fun x hx c hc=>by
     obtain⟨y,hy,rfl⟩:=List.mem_map.1 hx;rw[Xw y hy]at hc;exact(RL y hy).2 c hc) (by simp[OW];exact Lc) (by simp[OW];unfold reachBytes at hle;omega) (fun bI=>oL (fun e=>bI (by rw[e];rfl)))
     (fun j=>(w.cell? ⟨a.block,a.off+j,none⟩).getD (.bool false)) (fun j c hj=>by
      rw[SG]at hj;obtain⟨u,h1,_⟩:=fQ j c hj;refine⟨?_,Pw⟩;show w.cell? _=_;rw[h1];rfl) (fun j c hj=>by
      rw[SG]at hj;obtain⟨u,h1,h2⟩:=fQ j c hj;rw[h1];exact h2) trivial
    rw[List.length_map,OW]at key;exact key
   | struct fs =>
    simp only[List.all_eq_true,List.contains_iff_mem]at Aw;obtain⟨xs,n',To,rfl,gA,OW,cA⟩:=DataW.trod_struct hu h;cases To;obtain⟨k1,k2,k3⟩:=kid_struct hl di hu;simp only[DataW.weights,hu]at hw;obtain⟨dA,h1,h2⟩:=uY ih fs.toList 0 xs Aw (fun j f hj=>by rw[k3 j f hj];omega) (by rw[gA,k2];omega) (by simpa using OW) (fun i f hf=>cA i f (by simpa using hf)) hw;refine⟨dA,by simp only[vm,hu];exact h1,?_⟩;rw[List.drop_zero,<-k2,<-gA,List.take_length]at h2;exact h2
   | _=>cases Aw
theorem oR(hl:laidOutB P=true){W W':World}{Yl:Nat->Bool}:∀{ts:List TypeId} {vs:List Value} {ds:List (DataW H)} {ps:List MemPlace},(∀t∈ts,P.readableRec t=true∧t<P.types.size) ->
  DataW.TrodAll enc P W 0 (fun _=>true) true ts vs ds ps->(∀p∈ps,W.sameAt W' p)->(∀p∈ps,Yl p.block=true)->DataW.TrodAll enc P W' 0 Yl true ts vs ds ps
 | [],vs,ds,ps,_,h,_,_=>by
  obtain⟨rfl,rfl,rfl⟩:=trodAll_nil h;rfl
 | t::ts,vs,ds,ps,TX,h,h1,h2=>by
  obtain⟨v,vs',d,ds',p,q,rfl,rfl,rfl,hd,hr⟩:=trodAll_cons h;obtain⟨k1,k2⟩:=TX t (by simp);exact⟨p,q,WideElems.Trod_stays hl k1 k2 hd (fun x hx=>h1 x (List.mem_append.2 (.inl hx))) (fun x hx=>h2 x (List.mem_append.2 (.inl hx))),
   oR hl (fun t ht=>TX t (by simp[ht])) hr (fun x hx=>h1 x (List.mem_append.2 (.inr hx))) (fun x hx=>h2 x (List.mem_append.2 (.inr hx))),rfl⟩
theorem yB(hl:laidOutB P=true){fn:Func}{s:ChangeSpec}{apart fresh handsOn again:Bool}{W:World}{args:Array Value}{ds gs:List (DataW H)}{before:List MemPlace}{f:FuncId}{xs:List ae}{tb:TypeId}
  (mH:∀t∈fn.params.toList,P.readableRec t=true∧t<P.types.size) (OT:s.vars=[]) (dS:fn.resultTypes = #[tb]) (X7:P.underlying tb=some .bool)
  (hW:DataW.Whole enc P fn.params.toList s.vars apart W args.toList ds gs before)
  (mz:s.fn H (ds++gs) = { results:=[.lit (.bool true)],args:=ds })
  (Wc:bh P f xs (.v (.bool true))) (YU:lM (g0 W) xs args) :
  Calls P f args W fun e W'=>∃v,e=.returned v∧s.post enc P fn apart fresh handsOn again W args v W':=by
 refine(Wc.2 (g0 W) args (L5 W) rfl YU).mono fun e W' ⟨g',v,r,h1,h2,h3,_,h5,h6,_⟩=>?_;subst h6;cases h5;subst h2;have C3:Below W.heap.size W g'.w:=⟨h3.os,h3.tape,h3.output,h3.size,fun k hk=>(h3.block k hk IZ).1⟩
 have aZ:=hW.lt;obtain⟨p,q,hA,hV,rfl,XF,HS⟩:=id hW;have hq:gs=[]∧q=[]:=trodVars_none (by rw[OT]at hV;exact hV);obtain⟨rfl,rfl⟩:=hq;simp only[List.append_nil]at aZ XF HS mz;have fB:∀x∈p,W.sameAt g'.w x:=fun x hx=>C3.same (aZ x hx);have en:∀sp:Nat->Bool,(∀x∈p,sp x.block=true)->DataW.TrodAll enc P g'.w 0 sp true fn.params.toList args.toList ds p:=fun sp qY=>oR hl mH hA fB qY;have hR:∀(b:Nat) (sp:Nat->Bool) (hd:Bool),DataW.TrodAll enc P g'.w b sp hd fn.resultTypes.toList ((Value.bool true).resultList fn.resultTypes.size) [.lit (.bool true)] []:=fun b sp hd=>by
  rw[dS];exact trodAll_mk1 (shut_bool X7 true)
 have X':∀sp:Nat->Bool,DataW.TrodVars enc P g'.w sp s.vars [] []:=fun sp=>by
  rw[OT];rfl
 refine⟨_,h1,ds,[],p++[],[],p,[],hW,?_,?_,?_,C3.frame _,fun _=>⟨?_,[.lit (.bool true)]++ds,[],([]++p)++[],⟨[]++p,[],?_,X' _,rfl,?_,?_⟩,?_⟩⟩
 ·rw[List.append_nil,mz];exact hR _ _ _
 ·rw[List.append_nil,mz];exact en _ fun x hx=>by simpa using aZ x hx
 ·rw[List.append_nil,mz];exact X' _
 ·exact ok_one dS rfl (okWide_bool_mk X7 true)
 ·exact trodAll_append (en (fun _=>true) fun _ _=>rfl) (hR _ _ _)
 ·intro b off hx;simp only[List.nil_append,List.append_nil]at hx;rw[C3.frozen (p:=⟨b,off,none⟩) (aZ _ hx)];exact XF b off hx
 ·intro ha;simpa using HS ha
 intro x hx _;simpa using hx
end
section
variable {P:Program} {n:Nat} {t:TypeId} {cs:List ae}
theorem vm.int{k:IntKind}(hu:P.underlying t=some (.int k))(h:vm P n t cs):∃m:Int,cs=[.v (.int k m)]∧k.min<=m∧m<=k.max:=by
 cases n with
 | zero=>exact h.elim
 | succ n =>
  simp only[vm,hu]at h;exact h
theorem vm.struct{fs:Array Field}(hu:P.underlying t=some (.struct fs))(h:vm P n t cs):∃m,n=m+1∧Lt (vm P m) (fs.toList.map (·.type)) cs:=by
 cases n with
 | zero=>exact h.elim
 | succ n =>
  simp only[vm,hu]at h;exact⟨n,rfl,h⟩
theorem vm.slice{e:TypeId}(hu:P.underlying t=some (.slice e))(h:vm P n t cs):∃m,n=m+1∧∃xs:List (List ae),cs=[.aB (P.cellsOf e) (xs.map (HW P e)) .sh]∧(∀x∈xs,vm P m e x)∧xs.length*P.bytesOf e<=reachBytes:=by
 cases n with
 | zero=>exact h.elim
 | succ n =>
  simp only[vm,hu]at h;exact⟨n,rfl,h⟩
theorem map_told{α:Type}{f:α->ae}{Q:α->Prop}{g:List ae->ae}:∀{xs:List (List ae)},(∀x∈xs,∃a,g x=f a∧Q a)->∃l:List α,xs.map g=l.map f∧∀a∈l,Q a
 | [],_=>⟨[],rfl,by simp⟩
 | x::xs,h=>by
  obtain⟨a,ha,hq⟩:=h x (by simp);obtain⟨l,hl,hql⟩:=map_told (xs:=xs) fun y hy=>h y (by simp[hy]);exact⟨a::l,by simp[ha,hl],by simpa using⟨hq,hql⟩⟩
theorem vm.E8{α:Type}{f:α->ae}{Q:α->Prop}{e:TypeId}(hu:P.underlying t=some (.slice e))(h:vm P n t cs)(hd:∀m,m<n->∀x,vm P m e x->∃a,HW P e x=f a∧Q a) :
  ∃l:List α,cs=[.aB (P.cellsOf e) (l.map f) .sh]∧l.length*P.bytesOf e<=reachBytes∧∀a∈l,Q a:=by
 obtain⟨m,rfl,xs,rfl,h1,h2⟩:=h.slice hu;obtain⟨l,hl,hq⟩:=map_told (f:=f) (Q:=Q) fun x hx=>hd m (by omega) x (h1 x hx);refine⟨l,by rw[hl],?_,hq⟩;have:xs.length=l.length:=by
  have:=congrArg List.length hl;simpa using this
 rw[<-this];exact h2
end
end Go.Av
namespace Go.Av
theorem gS{P:Program}{kb:Nat}{c:Code}{Q:dP->St->Prop}{n:Nat}{bf:List (Nat×ae)}{O:List al}(k off:Nat){sz:Nat}{cs xs:List ae}(jG:O[k]?=some (.cells cs))(Mu:cs[off]?=some (.aB sz xs .ex))
  (h:cu P kb c Q ⟨n,bf,(O++[al.spare xs.length]).set k (.cells (cs.set off (.aB sz xs (.tok O.length))))⟩):cu P kb c Q ⟨n,bf,O⟩ :=
 h.weaken fun base a g hb hr=>by
  have hO:g.objs=O:=hr.objs;have Ta:=Le.mark hr.good (al.spare xs.length);have S7:=Good.mark hr.good xs.length;have Zy:g.objs[k]?=some (.cells cs):=by rw[hO];exact jG
  have Mw:(g.mark (al.spare xs.length)).objs[k]?=some (.cells cs):=cW Zy;obtain⟨l,arr,t,e1,e2,e3,e4,e5,e6⟩:=S7.cells k cs Mw;have TU:kB (g.mark (al.spare xs.length)) k (.cells cs) (some l) (.cells (cs.set off (.aB sz xs (.tok O.length)))) g.w:={
   obj:=Mw
   os:=rfl
   tape:=rfl
   output:=rfl
   size:=Nat.le_refl _
   block:=fun _ _ _=>rfl
   cell:=fun b off x hx _=>hx
   place:=fun l1 h1 _=>by
    simp only[Option.some.injEq]at h1;subst h1;exact .inr ⟨l,e1,trivial,rfl,Nat.le_refl _⟩
   spare:=fun m h=>by cases h
   plain:=fun _=>⟨by simp[al.aC],e1⟩
   gone:=by simp }
  have AE:=Le.bp S7 TU;have C8:=Good.bp S7 TU ⟨l,arr,t,rfl,e2,e3,by simpa using e4,fun j d u hd hu=>by
   rw[List.getElem?_set]at hd;split at hd
   ·rename_i hj;subst hj;split at hd
    ·simp only[Option.some.injEq]at hd;subst hd;have hv:=(e5 off _ u Mu hu).mono AE;cases hv with
     | nil=>exact .nil (fun id e=>by
      simp only[pP.tok.injEq]at e;subst e;simp[G.bp,G.mark,hO]) (by simp)
     | aB di ia ee gu hs f hm hr ho =>
      refine .aB di ia ee gu hs f hm hr ⟨by simp[G.bp,G.mark,hO],fun m la=>?_⟩;have bI:k≠O.length:=by
       have:=I jG;omega
      have:((g.mark (al.spare xs.length)).bp k (some l) (.cells (cs.set off (.aB sz xs (.tok O.length)))) g.w).objs[O.length]?=some (.spare xs.length):=by
       simp only[G.bp];rw[List.getElem?_set_ne bI,<-hO];exact eG
      rw[this]at la;simp only[Option.some.injEq,al.spare.injEq]at la;exact⟨by omega,fun _=>.inl ho⟩
    cases hd
   ·exact(e5 j d u hd hu).mono AE,fun d hd=>by
   rcases List.mem_or_eq_of_mem_set hd with q|q
   ·exact e6.1 d q
   subst q;trivial,e6.2⟩ (fun l1 h1 _=>by
   simp only[Option.some.injEq]at h1;subst h1;exact aW e3)
  exact⟨(g.mark (al.spare xs.length)).bp k (some l) (.cells (cs.set off (.aB sz xs (.tok O.length)))) g.w,rfl,{ le:=(hr.le.trans Ta).trans AE,good:=C8,objs:=by simp[G.mark,G.bp,hO],size:=hr.size,defers:=hr.defers,slot:=fun s y hy=>(hr.slot s y hy).imp fun u hu=>⟨hu.1,(hu.2.mono Ta).mono AE⟩ }⟩
def yr(τ:St)(Q:dP->St->Prop):dP->St->Prop
 | .norm,σ=>bd σ τ
 | e,σ=>Q e σ
theorem jP{P:Program}{kb:Nat}{x y:Code}{Q:dP->St->Prop}{σ:St}(τ:St)(h1:cu P kb x (yr τ Q) σ)(h2:cu P kb y Q τ):cu P kb (.seq x y) Q σ :=
 aH (h1.mono fun e fF h=>by cases e<;>first|exact h2.cover h|exact h)
theorem Sa{P:Program}{kb:Nat}{x y z:Code}{Q:dP->St->Prop}{σ:St}(τ:St)(h1:cu P kb x (yr τ (bG P kb z Q)) σ)(h2:cu P kb y (bG P kb z Q) τ):cu P kb (.seq (.seq x y) z) Q σ :=
 aH (jP τ h1 h2)
theorem jf{P:Program}{kb:Nat}{x y:Code}{Q:dP->St->Prop}{σ:St}(τ:St)(h1:cu P kb x (yr τ Q) σ)(h2:cu P kb y Q τ):cu P kb x (bG P kb y Q) σ :=
 h1.mono fun e fF h=>by cases e<;>first|exact h2.cover h|exact h

def qJ(A:List Nat)(N k:Nat):Nat:=if k<A.length then A.getD k 0 else N+(k-A.length)
def Kind.mg(A:List Nat)(N:Nat):Kind->Kind
 | .rd id=>.rd (qJ A N id)
 | .wr n l=>.wr (qJ A N n) (l.map (qJ A N))
 | .new id=>.new (qJ A N id)
 | k=>k
def Kind.fresh(m:Nat):Kind->Bool
 | .wr n _=>decide (m<=n)
 | _=>true
theorem Bi{A:List Nat}{N:Nat}(hn:A.Nodup)(hA:∀a∈A,a<N){i j:Nat}(h:qJ A N i=qJ A N j):i=j:=by
 unfold qJ at h;have fQ:∀k,k<A.length->A.getD k 0∈A:=fun k hk=>by
  rw[List.getD_eq_getElem?_getD,List.getElem?_eq_getElem hk];exact List.getElem_mem hk
 split at h<;>split at h
 ·rename_i h1 h2;rw[List.getD_eq_getElem?_getD,List.getElem?_eq_getElem h1,List.getD_eq_getElem?_getD,List.getElem?_eq_getElem h2]at h;exact(List.getElem_inj hn).1 h
 ·rename_i h1 h2;have:=hA _ (fQ i h1);omega
 ·rename_i h1 h2;have:=hA _ (fQ j h2);omega
 omega
theorem MW{A:List Nat}{N:Nat}(hA:∀a∈A,a<N){i n:Nat}(hn:A.length<=n)(h:i<n):qJ A N i<qJ A N n:=by
 unfold qJ;have fQ:∀k,k<A.length->A.getD k 0∈A:=fun k hk=>by
  rw[List.getD_eq_getElem?_getD,List.getElem?_eq_getElem hk];exact List.getElem_mem hk
 rw[if_neg (show ¬n<A.length by omega)];split
 ·rename_i h1;have:=hA _ (fQ i h1);omega
 omega
theorem uy{A:List Nat}{N:Nat}(hn:A.Nodup)(hA:∀a∈A,a<N){k l:Kind}(hk:k.fresh A.length=true)(hl:l.fresh A.length=true)(h:bM k l=true):bM (k.mg A N) (l.mg A N)=true:=by
 have key:∀{id n:Nat} {L:List Nat},A.length<=n->id<n->id ∉ L->qJ A N id<qJ A N n∧qJ A N id ∉ L.map (qJ A N):=fun h1 h2 h3 =>
  ⟨MW hA h1 h2,fun hm=>by
   obtain⟨x,hx,e⟩:=List.mem_map.1 hm;have:=Bi hn hA e;subst this;exact h3 hx⟩
 cases k<;>cases l<;>first
  | exact h
  | (simp only[bM]at h;cases h)
  | (simp only[Kind.mg,bM,Bool.not_eq_true',decide_eq_false_iff_not]at h ⊢;exact fun e=>h (Bi hn hA e))
  | (simp only[Kind.fresh,decide_eq_true_eq]at hk hl
     simp only[Kind.mg,bM,Bool.and_eq_true,decide_eq_true_eq,Bool.not_eq_true',List.contains_eq_mem,decide_eq_false_iff_not]at h ⊢;exact key (by assumption) h.1 h.2)
theorem bN{ops:Array Oper}{ks:List Kind}(A:List Nat)(N:Nat)(sb:List Kind)(hn:A.Nodup)(hA:∀a∈A,a<N)(e:sb.map (Kind.mg A N)=ks)(hf:sb.all (Kind.fresh A.length)=true)(h:nk ops sb=true):nk ops ks=true:=by
 subst e;simp only[nk,Bool.and_eq_true,List.all_eq_true,Bool.or_eq_true,List.length_map]at h ⊢;refine⟨h.1,fun i hi j hj=>?_⟩;rcases h.2 i hi j hj with q|q
 ·exact .inl q
 refine .inr ?_;have mM:∀i,(sb.map (Kind.mg A N)).getD i .write=(sb.getD i .write).mg A N:=fun i=>by
  rw[List.getD_eq_getElem?_getD,List.getD_eq_getElem?_getD,List.getElem?_map];cases sb[i]?<;>rfl
 have dR:∀i,(sb.getD i .write).fresh A.length=true:=fun i=>by
  rw[List.getD_eq_getElem?_getD];cases hi:sb[i]? with
  | none=>rfl
  | some x=>exact List.all_eq_true.1 hf x (List.mem_of_getElem? hi)
 rw[mM,mM];unfold indep at q ⊢;split at q
 ·rename_i oj oi h1 h2;simp only[Bool.and_eq_true]at q ⊢;exact⟨q.1,uy hn hA (dR j) (dR i) q.2⟩
 cases q
theorem yI{σ:St}:∀{l:List (Nat×ae)},(∀p∈l,∃x,σ.get p.1=some x∧Sub σ.objs x p.2)->fL σ l
 | [],_=>trivial
 | (s,y)::r,h=>⟨h (s,y) (by simp),yI fun p hp=>h p (by simp[hp])⟩
theorem tx{P:Program}{kb:Nat}{c:Code}{Q:dP->St->Prop}{n:Nat}{bf:List (Nat×ae)}{O:List al}{o:al}(s:Nat){x:ae}(y:ae)(cw:List (Nat×ae))(hx:look bf s=some x)
  (hp:¬o.aC) (hl:o.live) (hf:bT (O++[o]) O.length x y) (Jd:kb<=O.length) (hs:∀p∈cw,look (bq s y bf) p.1=some p.2) (br:∀o∈O,o.upto O.length) (pN:∀p∈cw,p.2.upto O.length)
  (h:cu P kb c Q ⟨n,cw,O⟩):cu P kb c Q ⟨n,bf,O++[o]⟩:=by
 refine aA s O.length (o:=o) y (eK _ _) hp hl hx hf ?_;rw[u7];have iO:∀s x,look cw s=some x->(s,x)∈cw:=fun s x hl=>qz hl;exact re O.length (by simp) Jd cw (by rw[xy];exact br) (yI fun p hp=>⟨p.2,hs p hp,Sub.refl _⟩) (fun k x hk=>pN (k,x) (iO k x hk)) (by rw[xy];exact h)
theorem aJ{P:Program}{kb:Nat}{c:Code}{Q:dP->St->Prop}{n:Nat}{bf:List (Nat×ae)}{O:List al}{cs:List ae}(s:Nat)(ds:List ae)(cw:List (Nat×ae))(hx:look bf s=some (.mp O.length 0))
  (BQ:cs.map ae.bo=ds) (Jd:kb<=O.length) (hs:∀p∈cw,look (bq s (.ip none ds) bf) p.1=some p.2) (br:∀o∈O,o.upto O.length) (pN:∀p∈cw,p.2.upto O.length)
  (h:cu P kb c Q ⟨n,cw,O⟩):cu P kb c Q ⟨n,bf,O++[.cells cs]⟩ :=
 tx s (.ip none ds) cw hx (by simp[al.aC]) trivial (bT.mp (cs:=cs) (eK _ _) (by rw[List.drop_zero,BQ])) Jd hs br pN h
theorem Cj{P:Program}{kb:Nat}{c:Code}{Q:dP->St->Prop}{n:Nat}{bf:List (Nat×ae)}{O:List al}{cs:List ae}(s:Nat){len cap sz:Nat}(xs:List ae)(cw:List (Nat×ae))(hx:look bf s=some (.ms O.length 0 len cap))
  (di:∀x∈xs,x.cells.length=sz) (hlen:xs.length=len) (hd:(cs.take (len*sz)).map ae.bo=ao xs) (Jd:kb<=O.length) (hs:∀p∈cw,look (bq s (.aB sz xs .sh) bf) p.1=some p.2) (br:∀o∈O,o.upto O.length) (pN:∀p∈cw,p.2.upto O.length)
  (h:cu P kb c Q ⟨n,cw,O⟩):cu P kb c Q ⟨n,bf,O++[.cells cs]⟩ :=
 tx s (.aB sz xs .sh) cw hx (by simp[al.aC]) trivial (bT.ms (cs:=cs) (eK _ _) di hlen (by rw[List.drop_zero,hd])) Jd hs br pN h
theorem bU{P:Program}{kb:Nat}{c:Code}{Q:dP->St->Prop}{n:Nat}{bf:List (Nat×ae)}{O X:List al}{cs:List ae}(s k:Nat)(ds:List ae)(hX:X[k]?=some (.cells cs))(hx:look bf s=some (.mp (O.length+k) 0))
  (BQ:cs.map ae.bo=ds) (h:cu P kb c Q ⟨n,bq s (.ip none ds) bf,O++X.set k .gone⟩):cu P kb c Q ⟨n,bf,O++X⟩:=by
 have l5:(O++X)[O.length+k]?=some (.cells cs):=by
  rw[List.getElem?_append_right (by omega),Nat.add_sub_cancel_left,hX]
 refine aA s (O.length+k) (o:=.cells cs) (.ip none ds) l5 (by simp[al.aC]) trivial hx (bT.mp (cs:=cs) l5 (by rw[List.drop_zero,BQ])) ?_;rw[List.set_append_right _ _ (by omega),Nat.add_sub_cancel_left];exact h
theorem En{P:Program}{kb:Nat}{c:Code}{Q:dP->St->Prop}{n:Nat}{bf:List (Nat×ae)}{O X:List al}(j:Nat)(Y:List al)(cw:List (Nat×ae))(hY:X.take j=Y)(hj:j<=X.length)(Jd:kb<=O.length)(hs:∀p∈cw,look bf p.1=some p.2)
  (hO:∀o∈O,o.upto (O.length+j)) (hX:∀o∈Y,o.upto (O.length+j)) (pN:∀p∈cw,p.2.upto (O.length+j)) (h:cu P kb c Q ⟨n,cw,O++Y⟩):cu P kb c Q ⟨n,bf,O++X⟩:=by
 have e:(O++X).take (O.length+j)=O++Y:=by
  rw[List.take_append,List.take_of_length_le (by omega),Nat.add_sub_cancel_left,hY]
 refine re (O.length+j) (by simp;omega) (by omega) cw ?_ (yI fun p hp=>⟨p.2,hs p hp,Sub.refl _⟩) (fun k x hk=>pN (k,x) (qz hk)) (by rw[e];exact h);rw[e];intro o ho;rcases List.mem_append.1 ho with q|q
 ·exact hO o q
 exact hX o q
end Go.Av
namespace Go.Proofs.YtjdnhamngpafmaaGreat
open Go.Av
def WT:=And.intro @Ug <|
 And.intro @Uh <|
 And.intro @Kj <|
 And.intro @Ui <|
 And.intro @Uj <|
 And.intro @Uk <|
 And.intro @QF <|
 And.intro @QG <|
 And.intro @QH <|
 And.intro @QI <|
 And.intro @QJ <|
 And.intro @QK <|
 And.intro @QL <|
 And.intro @D9 <|
 And.intro @QM <|
 And.intro @QN <|
 And.intro @QO <|
 And.intro @QP <|
 And.intro @QQ <|
 And.intro @QR <|
 And.intro @QS <|
 And.intro @QT <|
 And.intro @QU <|
 And.intro @QV <|
 And.intro @QW <|
 And.intro @QX <|
 And.intro @QY <|
 And.intro @QZ <|
 And.intro @Ng <|
 And.intro @Nh <|
 And.intro @Ni <|
 And.intro @Nj <|
 And.intro @Nk <|
 And.intro @Nl <|
 And.intro @Nn <|
 And.intro @No <|
 And.intro @Np <|
 And.intro @Nq <|
 And.intro @Nr <|
 And.intro @Ns <|
 And.intro @Nt <|
 And.intro @Nu <|
 And.intro @Nv <|
 And.intro @FK <|
 And.intro @Nw <|
 And.intro @FL <|
 And.intro @Nx <|
 And.intro @Ny <|
 And.intro @Nz <|
 And.intro @NA <|
 And.intro @NB <|
 And.intro @NC <|
 And.intro @ND <|
 And.intro @NF <|
 And.intro @NG <|
 And.intro @NH <|
 And.intro @NI <|
 And.intro @NJ <|
 And.intro @NK <|
 And.intro @NL <|
 And.intro @NM <|
 And.intro @Ins.aj <|
 And.intro @Ins.fold <|
 And.intro @Ins.ak <|
 And.intro @Ins.dE <|
 And.intro @Ins.aL <|
 And.intro @Ins.ag <|
 And.intro @Ins.ar <|
 And.intro @Edge.aj <|
 And.intro @Edge.fold <|
 And.intro @Edge.ak <|
 And.intro @Edge.dE <|
 And.intro @Edge.aL <|
 And.intro @Edge.ag <|
 And.intro @Edge.ar <|
 And.intro @Term.aj <|
 And.intro @Term.fold <|
 And.intro @Term.ak <|
 And.intro @Term.dE <|
 And.intro @Term.aL <|
 And.intro @Term.ag <|
 And.intro @Term.ar <|
 And.intro @Block.aj <|
 And.intro @Block.fold <|
 And.intro @Block.ak <|
 And.intro @Block.dE <|
 And.intro @Block.aL <|
 And.intro @Block.ag <|
 And.intro @Block.ar <|
 And.intro @Func.aj <|
 And.intro @Func.fold <|
 And.intro @Func.ak <|
 And.intro @Func.dE <|
 And.intro @Func.aL <|
 And.intro @Func.ag <|
 And.intro @Func.ar <|
 And.intro @cf.aj <|
 And.intro @cf.fold <|
 And.intro @cf.ak <|
 And.intro @cf.dE <|
 And.intro @cf.aL <|
 And.intro @cf.ag <|
 And.intro @cf.ar <|
 And.intro @SV.jC <|
 And.intro @SV.aj <|
 And.intro @SV.fold <|
 And.intro @SV.ak <|
 And.intro @SV.dE <|
 And.intro @SV.ar <|
 And.intro @SV.FW <|
 And.intro @cr <|
 And.intro @Rk <|
 And.intro @H5 <|
 And.intro @av <|
 And.intro @WL <|
 And.intro @Jx <|
 And.intro @kE <|
 And.intro @sU <|
 And.intro @Bt <|
 And.intro @Bu <|
 And.intro @J7 <|
 And.intro @J6 <|
 And.intro @Kk <|
 And.intro @List.take_length.{0} <|
 And.intro @List.append_assoc.{0} <|
 And.intro @List.cons_append.{0} <|
 @List.nil_append.{0}
def zp:=And.intro WS <|And.intro @ne_eq.{1} <|And.intro @implies_true.{0} <|And.intro @implies_true.{1} <|WT
def zt:=And.intro and_true <|And.intro true_and and_self
def zu:=And.intro @Ins.aL <|And.intro @Ins.ag <|And.intro @Edge.aL <|And.intro @Edge.ag <|And.intro @Term.aL <|And.intro @Term.ag <|And.intro @Block.aL <|And.intro @Block.ag <|And.intro @Func.aL <|And.intro @Func.ag <|And.intro @cf.aL <|And.intro @cf.ag <| @av
theorem j4{kb:Nat}{id:Nat}{l:List Oper}{draw:Bool}{Q:dP->St->Prop}{σ:St}(h:ff Tryz.prog aR ⟨false,false⟩ l 0 [] σ [] fun τ ks=>iH draw (fun _=>fm l.toArray ks.reverse)∧At τ (Q .norm)):cu Tryz.prog kb (.region id l.toArray draw) Q σ:=j7 _ hT hm h
theorem aS{kb:Nat}{id:Nat}{l:List Oper}{draw:Bool}{Q:dP->St->Prop}{σ:St}{x:Code}(h:ff Tryz.prog aR ⟨false,false⟩ l 0 [] σ [] fun τ ks=>iH draw (fun _=>fm l.toArray ks.reverse)∧At τ (bG Tryz.prog kb x Q .norm)):cu Tryz.prog kb (.seq (.region id l.toArray draw) x) Q σ:=aH (j4 h)
theorem cJ{kb:Nat}{id:Nat}{l:List Oper}{draw:Bool}{Q:dP->St->Prop}{σ:St}{x y:Code}(h:ff Tryz.prog aR ⟨false,false⟩ l 0 [] σ [] fun τ ks=>iH draw (fun _=>fm l.toArray ks.reverse)∧At τ (bG Tryz.prog kb x (bG Tryz.prog kb y Q) .norm)):cu Tryz.prog kb (.seq (.seq (.region id l.toArray draw) x) y) Q σ:=aH (aS h)
theorem zg3{kb:Nat}{id:Nat}{l:List Oper}{draw:Bool}{Q:dP->St->Prop}{σ:St}{x y z:Code}(h:ff Tryz.prog aR ⟨false,false⟩ l 0 [] σ [] fun τ ks=>iH draw (fun _=>fm l.toArray ks.reverse)∧At τ (bG Tryz.prog kb x (bG Tryz.prog kb y (bG Tryz.prog kb z Q)) .norm)):cu Tryz.prog kb (.seq (.seq (.seq (.region id l.toArray draw) x) y) z) Q σ:=aH (cJ h)
theorem Oa{kb:Nat}{id:Nat}{l:List Oper}{draw:Bool}{Q:dP->St->Prop}{σ:St}(h:ff Tryz.prog aR ⟨true,true⟩ l 0 [] σ [] fun τ ks=>iH draw (fun _=>fm l.toArray ks.reverse)∧At τ (Q .norm)):cu Tryz.prog kb (.region id l.toArray draw) Q σ:=j7 _ hT hm h
theorem zs1{kb:Nat}{id:Nat}{l:List Oper}{draw:Bool}{Q:dP->St->Prop}{σ:St}{x:Code}(h:ff Tryz.prog aR ⟨true,true⟩ l 0 [] σ [] fun τ ks=>iH draw (fun _=>fm l.toArray ks.reverse)∧At τ (bG Tryz.prog kb x Q .norm)):cu Tryz.prog kb (.seq (.region id l.toArray draw) x) Q σ:=aH (Oa h)
theorem zs2{kb:Nat}{id:Nat}{l:List Oper}{draw:Bool}{Q:dP->St->Prop}{σ:St}{x y:Code}(h:ff Tryz.prog aR ⟨true,true⟩ l 0 [] σ [] fun τ ks=>iH draw (fun _=>fm l.toArray ks.reverse)∧At τ (bG Tryz.prog kb x (bG Tryz.prog kb y Q) .norm)):cu Tryz.prog kb (.seq (.seq (.region id l.toArray draw) x) y) Q σ:=aH (zs1 h)
theorem aM{kb:Nat}{c:Operand}{x y:Code}{Q:dP->St->Prop}{σ:St}{b:Bool}(hc:σ.ev c=some (.v (.bool b)))(ht:b=true->cu Tryz.prog kb x Q σ)(hf:b=false->cu Tryz.prog kb y Q σ):cu Tryz.prog kb (.cond c x y) Q σ:=mP hc ht hf
theorem ib{kb:Nat}{c:Operand}{x y z:Code}{Q:dP->St->Prop}{σ:St}{b:Bool}(hc:σ.ev c=some (.v (.bool b)))(ht:b=true->cu Tryz.prog kb x (bG Tryz.prog kb z Q) σ)(hf:b=false->cu Tryz.prog kb y (bG Tryz.prog kb z Q) σ):cu Tryz.prog kb (.seq (.cond c x y) z) Q σ:=aH (mP hc ht hf)
theorem zk2{kb:Nat}{c:Operand}{x y z w:Code}{Q:dP->St->Prop}{σ:St}{b:Bool}(hc:σ.ev c=some (.v (.bool b)))(ht:b=true->cu Tryz.prog kb x (bG Tryz.prog kb z (bG Tryz.prog kb w Q)) σ)(hf:b=false->cu Tryz.prog kb y (bG Tryz.prog kb z (bG Tryz.prog kb w Q)) σ) :
  cu Tryz.prog kb (.seq (.seq (.cond c x y) z) w) Q σ:=aH (aH (mP hc ht hf))
theorem ah{kb:Nat}{c:Code}{Q:dP->St->Prop}{σ:St}(h:cu Tryz.prog kb c Q σ):At σ (bG Tryz.prog kb c Q .norm):=h
theorem cm{kb:Nat}{c:Code}{Q:dP->St->Prop}{σ:St}{Di:Nat}(h:cu Tryz.prog kb c Q σ):cu Tryz.prog Di .skip (bG Tryz.prog kb c Q) σ:=a6 h
theorem za1{kb:Nat}{c:Code}{Q:dP->St->Prop}{σ:St}{b0:Nat}(h:cu Tryz.prog kb c Q σ):At σ (bC b0 (bG Tryz.prog kb c Q) .norm):=h
theorem kA{kb:Nat}{c:Code}{Q:dP->St->Prop}{σ:St}{b0:Nat}{Di:Nat}(h:cu Tryz.prog kb c Q σ):cu Tryz.prog Di .skip (bC b0 (bG Tryz.prog kb c Q)) σ:=a6 h
theorem za2{kb:Nat}{c:Code}{Q:dP->St->Prop}{σ:St}{b0:Nat}{b1:Nat}(h:cu Tryz.prog kb c Q σ):At σ (bC b1 (bC b0 (bG Tryz.prog kb c Q)) .norm):=h
theorem Yo{kb:Nat}{c:Code}{Q:dP->St->Prop}{σ:St}{b0:Nat}{b1:Nat}{Di:Nat}(h:cu Tryz.prog kb c Q σ):cu Tryz.prog Di .skip (bC b1 (bC b0 (bG Tryz.prog kb c Q))) σ:=a6 h
theorem za3{kb:Nat}{c:Code}{Q:dP->St->Prop}{σ:St}{b0:Nat}{b1:Nat}{b2:Nat}(h:cu Tryz.prog kb c Q σ):At σ (bC b2 (bC b1 (bC b0 (bG Tryz.prog kb c Q))) .norm):=h
theorem zb3{kb:Nat}{c:Code}{Q:dP->St->Prop}{σ:St}{b0:Nat}{b1:Nat}{b2:Nat}{Di:Nat}(h:cu Tryz.prog kb c Q σ):cu Tryz.prog Di .skip (bC b2 (bC b1 (bC b0 (bG Tryz.prog kb c Q)))) σ:=a6 h
theorem fw{ι:Type}{L:ι->St}{μ:ι->Nat}{i:ι}{Q:dP->St->Prop}{σ:St}(h:∃j,μ j<μ i∧bd σ (L j)):At σ (fC L μ i Q .norm):=h
theorem zn0{ι:Type}{L:ι->St}{μ:ι->Nat}{i:ι}{Q:dP->St->Prop}{σ:St}{Di:Nat}(h:∃j,μ j<μ i∧bd σ (L j)):cu Tryz.prog Di .skip (fC L μ i Q) σ:=a6 h
theorem RS{ι:Type}{L:ι->St}{μ:ι->Nat}{i:ι}{Q:dP->St->Prop}{σ:St}{b0:Nat}(h:∃j,μ j<μ i∧bd σ (L j)):At σ (bC b0 (fC L μ i Q) .norm):=h
theorem WV{ι:Type}{L:ι->St}{μ:ι->Nat}{i:ι}{Q:dP->St->Prop}{σ:St}{b0:Nat}{Di:Nat}(h:∃j,μ j<μ i∧bd σ (L j)):cu Tryz.prog Di .skip (bC b0 (fC L μ i Q)) σ:=a6 h
theorem zl2{ι:Type}{L:ι->St}{μ:ι->Nat}{i:ι}{Q:dP->St->Prop}{σ:St}{b0:Nat}{b1:Nat}(h:∃j,μ j<μ i∧bd σ (L j)):At σ (bC b1 (bC b0 (fC L μ i Q)) .norm):=h
theorem zn2{ι:Type}{L:ι->St}{μ:ι->Nat}{i:ι}{Q:dP->St->Prop}{σ:St}{b0:Nat}{b1:Nat}{Di:Nat}(h:∃j,μ j<μ i∧bd σ (L j)):cu Tryz.prog Di .skip (bC b1 (bC b0 (fC L μ i Q))) σ:=a6 h
theorem zl3{ι:Type}{L:ι->St}{μ:ι->Nat}{i:ι}{Q:dP->St->Prop}{σ:St}{b0:Nat}{b1:Nat}{b2:Nat}(h:∃j,μ j<μ i∧bd σ (L j)):At σ (bC b2 (bC b1 (bC b0 (fC L μ i Q))) .norm):=h
theorem zn3{ι:Type}{L:ι->St}{μ:ι->Nat}{i:ι}{Q:dP->St->Prop}{σ:St}{b0:Nat}{b1:Nat}{b2:Nat}{Di:Nat}(h:∃j,μ j<μ i∧bd σ (L j)):cu Tryz.prog Di .skip (bC b2 (bC b1 (bC b0 (fC L μ i Q)))) σ:=a6 h
end Go.Proofs.YtjdnhamngpafmaaGreat
section
/-
  Short forms of steps that occur often; the packed texts of a claim use them (squeeze.py).
-/
namespace Go.Proofs.YtjdnhamngpafmaaGreat
open Go.Av

theorem Ho (aR : ed) (rv : List ResultVar) (sh : Bool) (k : Nat) (R : ae -> List al -> Prop) (σ : St) : Ek aR rv sh k R .ret σ = on (fI aR σ rv) fun rs => k <= σ.objs.length ∧ (∀ o ∈ σ.objs.take k, o.upto k) ∧ (iJ (if sh then rs.map ae.share else rs)).upto k ∧ R (iJ (if sh then rs.map ae.share else rs)) (σ.objs.take k) := rfl
theorem DS (aR : ed) (rv : List ResultVar) (sh : Bool) (k : Nat) (R : ae -> List al -> Prop) (σ : St) : Ek aR rv sh k R .norm σ = on (fI aR σ rv) fun rs => k <= σ.objs.length ∧ (∀ o ∈ σ.objs.take k, o.upto k) ∧ (iJ (if sh then rs.map ae.share else rs)).upto k ∧ R (iJ (if sh then rs.map ae.share else rs)) (σ.objs.take k) := rfl
theorem G3 : iJ [] = .cK [] := rfl
theorem G4 (x y : ae) (r : List ae) : iJ (x :: y :: r) = .cK (x :: y :: r) := rfl
theorem WR (n : Nat) (x : Value) : ae.upto n (.v x) = True := rfl
def zr := And.intro @Ho <|And.intro @DS <|And.intro @fI.eq_1 <|And.intro @fI.eq_2 <|And.intro @pD.eq_1 <|And.intro @pD.eq_2 <|And.intro @iJ.eq_1 <|And.intro @G3 <|And.intro @G4 <|
  And.intro @ae.upto.eq_1 <|And.intro @ae.upto.eq_2 <|And.intro @ae.upto.eq_3 <|And.intro @ae.upto.eq_4 <|And.intro @ae.upto.eq_5 <|And.intro @ae.upto.eq_6 <|And.intro @ae.upto.eq_7 <|And.intro @ae.upto.eq_8 <|And.intro @ae.upto.eq_9 <|And.intro @ae.upto.eq_10 <|And.intro @ae.upto.eq_11 <|And.intro @ae.upto.eq_12 <|And.intro @ae.upto.eq_13 <|
  And.intro @Nat.zero_le <|And.intro @Nat.le_refl <|And.intro @Nat.le_add_right <|And.intro @nv <|And.intro @kS @ma
def zc := And.intro @fL.eq_1 <|And.intro @fL.eq_2 <|And.intro @exists_eq_left'.{1} <|And.intro @Option.some.injEq.{0} <|And.intro @sub_self <|And.intro @and_assoc <|And.intro true_and and_true

theorem ab {p q : Prop} [Decidable p] (h : decide p = true) (n : ¬p) : q := absurd (of_decide_eq_true h) n
theorem af {p q : Prop} [Decidable p] (h : decide p = false) (n : p) : q := absurd n (of_decide_eq_false h)
theorem ob {a : Array Oper} {k : List Kind} (h : nk a k = true) : fm a k := h
theorem zf {f : FuncId} {fn : Go.Func} {c : Code} {O : List al} {args : List ae} {R : ae -> List al -> Prop} {m : Nat} (sh : Bool) (k : Nat) (hf : Tryz.prog.funcs[f]? = some fn) (hm : fn.ntmps = m) (h : cu Tryz.prog O.length c (Ek aR fn.results.toList sh k R) ⟨m, slotsOf 0 args, O⟩) (hb : fn.body = some c := by rfl)
    (uu : (fn.name == "runtime.NumGoroutine") = false := by kernel_rfl) (hn : args.length <= m := by simp) (hk : O.length <= k := by simp) : ba Tryz.prog f O args R := by
  subst hm;exact eY hT sh k hf hb uu hn hk h
theorem zq {σ τ : St} (h1 : σ.n = τ.n) (h3 : fL σ τ.bf) (h2 : σ.objs = τ.objs) : bd σ τ := ⟨h1, h2, h3⟩

theorem cF {kb : Nat} {id : Nat} {l : List Oper} {draw : Bool} {Q : dP -> St -> Prop} {σ : St} {q : Prop} (h : q) (e : (ff Tryz.prog aR ⟨false, false⟩ l 0 [] σ [] fun τ ks => iH draw (fun _ => fm l.toArray ks.reverse) ∧ At τ (Q .norm)) = q := by simp -dsimp only[simprocAttr, ↓aa, zp]; rfl) : cu Tryz.prog kb (.region id l.toArray draw) Q σ := j4 (e ▸ h)
theorem ay {kb : Nat} {id : Nat} {l : List Oper} {draw : Bool} {Q : dP -> St -> Prop} {σ : St} {x : Code} {q : Prop} (h : q) (e : (ff Tryz.prog aR ⟨false, false⟩ l 0 [] σ [] fun τ ks => iH draw (fun _ => fm l.toArray ks.reverse) ∧ At τ (bG Tryz.prog kb x Q .norm)) = q := by simp -dsimp only[simprocAttr, ↓aa, zp]; rfl) : cu Tryz.prog kb (.seq (.region id l.toArray draw) x) Q σ := aS (e ▸ h)
theorem cb {kb : Nat} {id : Nat} {l : List Oper} {draw : Bool} {Q : dP -> St -> Prop} {σ : St} {x y : Code} {q : Prop} (h : q) (e : (ff Tryz.prog aR ⟨false, false⟩ l 0 [] σ [] fun τ ks => iH draw (fun _ => fm l.toArray ks.reverse) ∧ At τ (bG Tryz.prog kb x (bG Tryz.prog kb y Q) .norm)) = q := by simp -dsimp only[simprocAttr, ↓aa, zp]; rfl) : cu Tryz.prog kb (.seq (.seq (.region id l.toArray draw) x) y) Q σ := cJ (e ▸ h)
theorem zh3 {kb : Nat} {id : Nat} {l : List Oper} {draw : Bool} {Q : dP -> St -> Prop} {σ : St} {x y z : Code} {q : Prop} (h : q) (e : (ff Tryz.prog aR ⟨false, false⟩ l 0 [] σ [] fun τ ks => iH draw (fun _ => fm l.toArray ks.reverse) ∧ At τ (bG Tryz.prog kb x (bG Tryz.prog kb y (bG Tryz.prog kb z Q)) .norm)) = q := by simp -dsimp only[simprocAttr, ↓aa, zp]; rfl) : cu Tryz.prog kb (.seq (.seq (.seq (.region id l.toArray draw) x) y) z) Q σ := zg3 (e ▸ h)
theorem cd {kb : Nat} {c : Operand} {x y : Code} {Q : dP -> St -> Prop} {σ : St} (hc : σ.ev c = some (.v (.bool false))) (hf : cu Tryz.prog kb y Q σ) : cu Tryz.prog kb (.cond c x y) Q σ := mP hc (fun h => by cases h) fun _ => hf
theorem Yp {kb : Nat} {c : Operand} {x y z : Code} {Q : dP -> St -> Prop} {σ : St} (hc : σ.ev c = some (.v (.bool false))) (hf : cu Tryz.prog kb y (bG Tryz.prog kb z Q) σ) : cu Tryz.prog kb (.seq (.cond c x y) z) Q σ := aH (cd hc hf)
theorem zu2 {kb : Nat} {c : Operand} {x y z w : Code} {Q : dP -> St -> Prop} {σ : St} (hc : σ.ev c = some (.v (.bool false))) (hf : cu Tryz.prog kb y (bG Tryz.prog kb z (bG Tryz.prog kb w Q)) σ) : cu Tryz.prog kb (.seq (.seq (.cond c x y) z) w) Q σ := aH (Yp hc hf)
theorem cN {kb : Nat} {c : Operand} {x y : Code} {Q : dP -> St -> Prop} {σ : St} (hc : σ.ev c = some (.v (.bool true))) (ht : cu Tryz.prog kb x Q σ) : cu Tryz.prog kb (.cond c x y) Q σ := mP hc (fun _ => ht) fun h => by cases h
theorem zw1 {kb : Nat} {c : Operand} {x y z : Code} {Q : dP -> St -> Prop} {σ : St} (hc : σ.ev c = some (.v (.bool true))) (ht : cu Tryz.prog kb x (bG Tryz.prog kb z Q) σ) : cu Tryz.prog kb (.seq (.cond c x y) z) Q σ := aH (cN hc ht)
theorem zw2 {kb : Nat} {c : Operand} {x y z w : Code} {Q : dP -> St -> Prop} {σ : St} (hc : σ.ev c = some (.v (.bool true))) (ht : cu Tryz.prog kb x (bG Tryz.prog kb z (bG Tryz.prog kb w Q)) σ) : cu Tryz.prog kb (.seq (.seq (.cond c x y) z) w) Q σ := aH (zw1 hc ht)
theorem zi {id : FuncId} {args : List ae} {r : ae} {K : ae -> Prop} {B q : Prop} (hc : bh Tryz.prog id args r) (h : q) (hu : au 0 args := by simp only[au, ae.upto, zt, zu]) (e : K r = q := by simp -dsimp only[simprocAttr, ↓aa, zp]; rfl) : (∃ r, bh Tryz.prog id args r ∧ au 0 args ∧ wu fun _ => K r) ∨ B := .inl ⟨r, hc, hu, an (e ▸ h)⟩
theorem zj {p q : Prop} (h : q) (e : p = q := by simp -dsimp only[simprocAttr, ↓aa, zp]; rfl) : p := e ▸ h
end Go.Proofs.YtjdnhamngpafmaaGreat
end
namespace Go.Av
section
variable {P:Program} {w:World} {H:Type} {enc:TypeId×Value->H} {sp:Nat->Bool} {held:Bool}
theorem zw(hl:laidOutB P=true){ts:List TypeId}(hc:Pm P ts=true){t:TypeId}(ht:t∈ts){v:Value}{d:DataW H}{ps:List MemPlace}(h:DataW.Trod enc P w 0 sp held t v d ps)
  (hv:∃vs,v=.agg vs) (hw:∀m∈d.weights P t,m<=reachBytes):∃n dA,vm P n t dA∧RV (g0 w) (.agg dA) v:=by
 obtain⟨vs,rfl⟩:=hv;obtain⟨n,h⟩:=h;obtain⟨dA,h1,h3,h4,h5⟩:=Bp hl hc n t _ (d,ps) ht h hw;exact⟨n,dA,h1,.agg (by simpa[Value.cells]using h3.symm) h4 fun i c u hc hu=>h5 i c u hc (by simpa[Value.cells]using hu)⟩
theorem Dy{t:TypeId}{fs:Array Field}{r:Reach}{b:Nat}{v:Value}(hu:P.underlying t=some (.struct fs))(h:Value.okWide P w r b t v):∃vs,v=.agg vs:=by
 cases v<;>first|exact⟨_,rfl⟩|simp[Value.okWide,hu,Cell.okWide,Cell.ok]at h
end
end Go.Av
namespace Go.Proofs.YtjdnhamngpafmaaGreat
open Go.Av
theorem Pl:Tryz.prog.cellsOf 3=1:=by kernel_rfl
theorem LL:Tryz.prog.cellsOf 65=4:=by kernel_rfl
theorem LM:Tryz.prog.cellsOf 82=2:=by kernel_rfl
theorem LK:Tryz.prog.cellsOf 50=7:=by kernel_rfl
theorem LJ:Tryz.prog.cellsOf 34=2:=by kernel_rfl
theorem Pk:Tryz.prog.bytesOf 3=8:=by kernel_rfl
theorem LH:Tryz.prog.bytesOf 65=48:=by kernel_rfl
theorem LI:Tryz.prog.bytesOf 82=32:=by kernel_rfl
theorem LG:Tryz.prog.bytesOf 50=120:=by kernel_rfl
theorem LF:Tryz.prog.bytesOf 34=32:=by kernel_rfl
theorem U4:zv Tryz.prog 3=false:=by kernel_rfl
theorem R9:zv Tryz.prog 65=true:=by kernel_rfl
theorem R':zv Tryz.prog 82=true:=by kernel_rfl
theorem R8:zv Tryz.prog 50=true:=by kernel_rfl
theorem R7:zv Tryz.prog 34=true:=by kernel_rfl
theorem gC{n:Nat}{x:List ae}(h:vm Tryz.prog n 3 x):∃m:Int,x=[aI m]∧kX m:=by
 obtain⟨m,e,h1⟩:=h.int Tryz.underlying3;exact⟨m,e,h1⟩
theorem nX{n:Nat}{x:List ae}(h:vm Tryz.prog n 41 x):∃l:List Int,x=[aT l]∧uf l∧l.length<=2 ^ 47:=by
 obtain⟨l,e,hb,hq⟩:=h.E8 (f:=aI) (Q:=kX) Tryz.underlying41 fun j hj y hy=>by
  obtain⟨m,rfl,hm⟩:=gC hy;exact⟨m,by rw[HW,U4];rfl,hm⟩
 rw[Pk,reachBytes]at hb;exact⟨l,by rw[e,Pl],hq,by omega⟩
theorem Jw{n:Nat}{x:List ae}(h:vm Tryz.prog n 65 x):∃i:Ins,x=i.enc.cells∧i.fit:=by
 obtain⟨m,rfl,hc⟩:=h.struct Tryz.underlying65;simp only[List.map_cons,List.map_nil,Lt]at hc;obtain⟨a,b,rfl,h1,c,d,rfl,h2,e,f,rfl,h3,g,k,rfl,h4,rfl⟩:=hc;obtain⟨x1,rfl,q1⟩:=gC h1;obtain⟨x2,rfl,q2⟩:=gC h2;obtain⟨x3,rfl,q3⟩:=gC h3;obtain⟨x4,rfl,q4,q5⟩:=nX h4;exact⟨⟨x1,x2,x3,x4⟩,rfl,q1,q2,q3,q4,q5⟩
theorem GQ{n:Nat}{x:List ae}(h:vm Tryz.prog n 48 x):∃l:List Ins,x=[bP l]∧(∀i∈l,i.fit)∧l.length<=2 ^ 47:=by
 obtain⟨l,e,hb,hq⟩:=h.E8 (f:=Ins.enc) (Q:=Ins.fit) Tryz.underlying48 fun j hj y hy=>by
  obtain⟨m,rfl,hm⟩:=Jw hy;exact⟨m,by rw[HW,R9];rfl,hm⟩
 rw[LH,reachBytes]at hb;exact⟨l,by rw[e,LL],hq,by omega⟩
theorem Gf{n:Nat}{x:List ae}(h:vm Tryz.prog n 82 x):∃i:Edge,x=i.enc.cells∧i.fit:=by
 obtain⟨m,rfl,hc⟩:=h.struct Tryz.underlying82;simp only[List.map_cons,List.map_nil,Lt]at hc;obtain⟨a,b,rfl,h1,g,k,rfl,h4,rfl⟩:=hc;obtain⟨x1,rfl,q1⟩:=gC h1;obtain⟨x4,rfl,q4,q5⟩:=nX h4;exact⟨⟨x1,x4⟩,rfl,q1,q4,q5⟩
theorem CO{n:Nat}{x:List ae}(h:vm Tryz.prog n 45 x):∃l:List Edge,x=[aE l]∧(∀i∈l,i.fit)∧l.length<=2 ^ 47:=by
 obtain⟨l,e,hb,hq⟩:=h.E8 (f:=Edge.enc) (Q:=Edge.fit) Tryz.underlying45 fun j hj y hy=>by
  obtain⟨m,rfl,hm⟩:=Gf hy;exact⟨m,by rw[HW,R'];rfl,hm⟩
 rw[LI,reachBytes]at hb;exact⟨l,by rw[e,LM],hq,by omega⟩
theorem HE{n:Nat}{x:List ae}(h:vm Tryz.prog n 47 x):∃t:Term,x=t.enc.cells∧t.fit:=by
 obtain⟨m,rfl,hc⟩:=h.struct Tryz.underlying47;simp only[List.map_cons,List.map_nil,Lt]at hc;obtain⟨a,b,rfl,h1,c,d,rfl,h2,e,f,rfl,h3,g,k,rfl,h4,g',k',rfl,h5,rfl⟩:=hc;obtain⟨x1,rfl,q1⟩:=gC h1;obtain⟨x2,rfl,q2⟩:=gC h2;obtain⟨x3,rfl,q3⟩:=gC h3;obtain⟨x4,rfl,q4,q5⟩:=nX h4;obtain⟨x5,rfl,q6,q7⟩:=CO h5;exact⟨⟨x1,x2,x3,x4,x5⟩,rfl,q1,q2,q3,q4,q5,q7,q6⟩
theorem Cq{n:Nat}{x:List ae}(h:vm Tryz.prog n 50 x):∃b:Block,x=b.enc.cells∧b.fit:=by
 obtain⟨m,rfl,hc⟩:=h.struct Tryz.underlying50;simp only[List.map_cons,List.map_nil,Lt]at hc;obtain⟨a,b,rfl,h1,c,d,rfl,h2,e,f,rfl,h3,rfl⟩:=hc;obtain⟨x1,rfl,q1,q2⟩:=nX h1;obtain⟨x2,rfl,q3,q4⟩:=GQ h2;obtain⟨x3,rfl,q5⟩:=HE h3;exact⟨⟨x1,x2,x3⟩,rfl,q1,q2,q4,q3,q5⟩
theorem Gp{n:Nat}{x:List ae}(h:vm Tryz.prog n 34 x):∃f:Func,x=f.enc.cells∧f.fit:=by
 obtain⟨m,rfl,hc⟩:=h.struct Tryz.underlying34;simp only[List.map_cons,List.map_nil,Lt]at hc;obtain⟨a,b,rfl,h1,c,d,rfl,h2,rfl⟩:=hc;obtain⟨x1,rfl,q1⟩:=gC h1;obtain⟨l,rfl,hb,hq⟩:=h2.E8 (f:=Block.enc) (Q:=Block.fit) Tryz.underlying32 fun j hj y hy=>by
  obtain⟨m,rfl,hm⟩:=Cq hy;exact⟨m,by rw[HW,R8];rfl,hm⟩
 rw[LG,reachBytes]at hb;exact⟨⟨x1,l⟩,by rw[LK];rfl,q1,by show l.length<=_;omega,hq⟩
theorem HG{n:Nat}{x:List ae}(h:vm Tryz.prog n 24 x):∃u:cf,.agg x=u.enc∧u.fit:=by
 obtain⟨m,rfl,hc⟩:=h.struct Tryz.underlying24;simp only[List.map_cons,List.map_nil,Lt]at hc;obtain⟨a,b,rfl,h1,c,d,rfl,h2,rfl⟩:=hc;obtain⟨l,rfl,hb,hq⟩:=h1.E8 (f:=Func.enc) (Q:=Func.fit) Tryz.underlying22 fun j hj y hy=>by
  obtain⟨m,rfl,hm⟩:=Gp hy;exact⟨m,by rw[HW,R7];rfl,hm⟩
 obtain⟨x1,rfl,q1⟩:=gC h2;rw[LF,reachBytes]at hb;exact⟨⟨l,x1⟩,by rw[LJ];rfl,q1,by show l.length<=_;omega,hq⟩
def Sb:List TypeId:=[3,22,24,32,34,41,45,47,48,50,65,82]
theorem Yt:Pm Tryz.prog Sb=true:=by kernel_rfl
theorem laid:laidOutB Tryz.prog=true:=by kernel_rfl
def within(n low high:Int):Bool:=decide (low<=n)&&decide (n<=high)
theorem dy(n low high:Int):bh Tryz.prog 30 [aI n,aI low,aI high] (.v (.bool (within n low high))):=by
 refine zf true 0 Tryz.func30 Tryz.ntmps30 ?_;dsimp only[Tmp,TypeId,slotsOf];refine ay (ah ?_);refine ay ?_;refine Ee (fun h=>?_) (fun h=>?_)
 ·simp -dsimp only[simprocAttr,↓aa,zp,h];refine ah ?_;refine aq ?_;simp -dsimp only[simprocAttr,↓aa,zp,zr,Tryz.results30]
  simp_all [within]
 simp -dsimp only[simprocAttr,↓aa,zp,h];refine ah ?_;refine aq ?_;simp -dsimp only[simprocAttr,↓aa,zp,zr,Tryz.results30]
 simp_all [within]
 omega
theorem jA(n:Int):-1073741824<=jN n∧jN n<=1073741823:=by
 unfold jN;omega
theorem Lx(x:Int):bitsOf .i64 (fun x y=>x&&& y) x 2147483647=x % 2147483648:=by
 have h:(BitVec.ofInt 64 x&&& BitVec.ofInt 64 2147483647).toNat=(x % 2147483648).toNat:=by
  rw[BitVec.toNat_and,show(BitVec.ofInt 64 2147483647).toNat=2 ^ 31-1 by decide,Nat.and_two_pow_sub_one_eq_mod,BitVec.toNat_ofInt];omega
 show IntKind.i64.wrap (((BitVec.ofInt 64 x&&& BitVec.ofInt 64 2147483647).toNat:Nat):Int)=_;rw[h,mu .i64 _ (by simp[IntKind.min,IntKind.bits,IntKind.signed];omega) (by simp[IntKind.max,IntKind.bits,IntKind.signed];omega)];omega
theorem fE(n:Int)(h1:-9223372036854775808<=n)(h2:n<=9223372035781033983):bh Tryz.prog 155 [aI n] (aI (jN n)):=by
 have q:=jA n;have e:bitsOf .i64 (fun x y=>x&&& y) (n+1073741824) 2147483647=jN n+1073741824:=by
  rw[Lx];unfold jN;omega
 refine zf true 0 Tryz.func155 Tryz.ntmps155 ?_;dsimp only[Tmp,TypeId,slotsOf];refine ay (ah ?_);refine ay ?_;refine⟨by omega,by omega,?_⟩;simp -dsimp only[simprocAttr,↓aa,zp,e];refine⟨by omega,by omega,by omega,by omega,?_⟩;refine ah ?_;refine aq ?_;simp -dsimp only[simprocAttr,↓aa,zp,zr,Tryz.results155];rw[Int.add_sub_cancel]
theorem lJ{n:Int}(h:fG n):jN n=n:=by
 unfold fG at h;unfold jN;omega
theorem H7(a b:Int)(ha:fG a)(hb:fG b):bh Tryz.prog 148 [aI a,aI b] (aI (jN (a+b))):=by
 unfold fG at ha hb;refine zf true 0 Tryz.func148 Tryz.ntmps148 ?_;dsimp only[Tmp,TypeId,slotsOf];refine ay (ah ?_);refine ay ?_;refine⟨by omega,by omega,?_⟩;refine .inl ⟨_,(fE (a+b) (by omega) (by omega)),by simp only[au,ae.upto,zt],an ?_⟩;refine ah ?_;refine aq ?_;simp -dsimp only[simprocAttr,↓aa,zp,zr,Tryz.results148]
theorem Kh(a b:Int)(ha:fG a)(hb:fG b):bh Tryz.prog 149 [aI a,aI b] (aI (jN (a-b))):=by
 unfold fG at ha hb;refine zf true 0 Tryz.func149 Tryz.ntmps149 ?_;dsimp only[Tmp,TypeId,slotsOf];refine ay (ah ?_);refine ay ?_;refine⟨by omega,by omega,?_⟩;refine .inl ⟨_,(fE (a-b) (by omega) (by omega)),by simp only[au,ae.upto,zt],an ?_⟩;refine ah ?_;refine aq ?_;simp -dsimp only[simprocAttr,↓aa,zp,zr,Tryz.results149]
theorem DP{a b:Int}(ha:fG a)(hb:fG b):-1152921504606846976<=a*b∧a*b<=1152921504606846976:=by
 unfold fG at ha hb;have h:(a*b).natAbs<=1152921504606846976:=by
  rw[Int.natAbs_mul];have:=Nat.mul_le_mul (show a.natAbs<=1073741824 by omega) (show b.natAbs<=1073741824 by omega);omega
 omega
theorem JC(a b:Int)(ha:fG a)(hb:fG b):bh Tryz.prog 150 [aI a,aI b] (aI (jN (a*b))):=by
 have q:=DP ha hb;have ea:=lJ ha;have eb:=lJ hb;have wa:=fE a (by unfold fG at ha;omega) (by unfold fG at ha;omega);have wb:=fE b (by unfold fG at hb;omega) (by unfold fG at hb;omega);have wc:=fE (a*b) (by omega) (by omega);rw[ea]at wa;rw[eb]at wb;generalize hc:a*b=c at *;refine zf true 0 Tryz.func150 Tryz.ntmps150 ?_;dsimp only[Tmp,TypeId,slotsOf];refine ay (ah ?_);refine ay ?_;refine .inl ⟨_,wa,by simp only[au,ae.upto,zt],an ?_⟩;refine .inl ⟨_,wb,by simp only[au,ae.upto,zt],an ?_⟩;simp -dsimp only[simprocAttr,↓aa,zp,hc];refine⟨by omega,by omega,?_⟩;refine .inl ⟨_,wc,by simp only[au,ae.upto,zt],an ?_⟩;refine ah ?_;refine aq ?_;simp -dsimp only[simprocAttr,↓aa,zp,zr,Tryz.results150]
theorem D'{a b:Int}(ha:fG a):-1073741824<=a.tdiv b∧a.tdiv b<=1073741824:=by
 unfold fG at ha;have h:(a.tdiv b).natAbs<=a.natAbs:=by
  rw[Int.natAbs_tdiv];exact Nat.div_le_self _ _
 omega
theorem vb{a b:Int}(hb:fG b)(h0:b≠0):fG (a.tmod b):=by
 unfold fG at *;have h:(a.tmod b).natAbs<b.natAbs:=by
  rw[Int.natAbs_tmod];exact Nat.mod_lt _ (by omega)
 omega
theorem IA(a b:Int)(ha:fG a)(hb:fG b)(h0:b≠0):bh Tryz.prog 152 [aI a,aI b] (.cK [aI (jN (a.tdiv b)),aI 0]):=by
 have q:=D' (b:=b) ha;have wa:=fE a (by unfold fG at ha;omega) (by unfold fG at ha;omega);have wb:=fE b (by unfold fG at hb;omega) (by unfold fG at hb;omega);have wc:=fE (a.tdiv b) (by omega) (by omega);rw[lJ ha]at wa;rw[lJ hb]at wb;have h1:(b=0)=False:=by simpa using h0
 generalize hc:a.tdiv b=c at *;refine zf true 0 Tryz.func152 Tryz.ntmps152 ?_;dsimp only[Tmp,TypeId,slotsOf];refine ay (ah ?_);refine cb ?_;refine .inl ⟨_,wb,by simp only[au,ae.upto,zt],an ?_⟩;simp -dsimp only[simprocAttr,↓aa,zp,h0];refine ah ?_;refine cd rfl ?_;refine cm ?_;refine ay ?_;refine .inl ⟨_,wa,by simp only[au,ae.upto,zt],an ?_⟩;refine .inl ⟨_,wb,by simp only[au,ae.upto,zt],an ?_⟩;simp -dsimp only[simprocAttr,↓aa,zp,h1,if_false,hc];refine⟨by omega,by omega,?_⟩;refine .inl ⟨_,wc,by simp only[au,ae.upto,zt],an ?_⟩;refine ah ?_;refine aq ?_;simp -dsimp only[simprocAttr,↓aa,zp,zr,Tryz.results152];simp[au,ae.upto]
theorem JA(a b:Int)(ha:fG a)(hb:fG b)(h0:b≠0):bh Tryz.prog 153 [aI a,aI b] (.cK [aI (a.tmod b),aI 0]):=by
 have q:=vb (a:=a) hb h0;unfold fG at q;have wa:=fE a (by unfold fG at ha;omega) (by unfold fG at ha;omega);have wb:=fE b (by unfold fG at hb;omega) (by unfold fG at hb;omega);rw[lJ ha]at wa;rw[lJ hb]at wb;have h1:(b=0)=False:=by simpa using h0
 generalize hc:a.tmod b=c at *;refine zf true 0 Tryz.func153 Tryz.ntmps153 ?_;dsimp only[Tmp,TypeId,slotsOf];refine ay (ah ?_);refine cb ?_;refine .inl ⟨_,wb,by simp only[au,ae.upto,zt],an ?_⟩;simp -dsimp only[simprocAttr,↓aa,zp,h0];refine ah ?_;refine cd rfl ?_;refine cm ?_;refine ay ?_;refine .inl ⟨_,wa,by simp only[au,ae.upto,zt],an ?_⟩;refine .inl ⟨_,wb,by simp only[au,ae.upto,zt],an ?_⟩;simp -dsimp only[simprocAttr,↓aa,zp,h1,if_false,hc];refine⟨by omega,by omega,?_⟩;refine ah ?_;refine aq ?_;simp -dsimp only[simprocAttr,↓aa,zp,zr,Tryz.results153];simp[au,ae.upto]
structure Bs where
 a:Nat
 b:Nat
 deriving DecidableEq
namespace Bs
def enc(s:Bs):ae:=.agg [.v (.int .u64 s.a),.v (.int .u64 s.b)]
def fit(s:Bs):Prop:=s.a<2 ^ 64∧s.b<2 ^ 64
def has(s:Bs)(k:Nat):Bool:=if k<64 then s.a.testBit k else s.b.testBit (k-64)
def add(s:Bs)(k:Nat):Bs:=if k<64 then⟨s.a |||1 <<< k,s.b⟩else⟨s.a,s.b |||1 <<< (k-64)⟩
def meet(s t:Bs):Bs:=⟨s.a&&& t.a,s.b&&& t.b⟩
def none:Bs:=⟨0,0⟩
theorem ak(s:Bs):s.enc.share=s.enc:=rfl
theorem ar(s:Bs):s.enc.flat:=trivial
theorem aj(s:Bs):s.enc.cells=[.v (.int .u64 s.a),.v (.int .u64 s.b)]:=rfl
theorem aL(n:Nat)(s:Bs):s.enc.upto n:=⟨trivial,trivial,trivial⟩
end Bs
theorem wrap_u64{n:Nat}(h:n<2 ^ 64):IntKind.u64.wrap (n:Int)=(n:Int):=by
 rw[mu .u64 _ (by simp[IntKind.min,IntKind.signed]) (by simp[IntKind.max,IntKind.bits,IntKind.signed];omega)]
theorem xJ{m n:Nat}(hm:m<2 ^ 64)(hn:n<2 ^ 64):bitsOf .u64 (fun x y=>x&&& y) (m:Int) (n:Int)=((m&&& n:Nat):Int):=by
 have h:(BitVec.ofInt 64 (m:Int)&&& BitVec.ofInt 64 (n:Int)).toNat=m&&& n:=by
  rw[BitVec.toNat_and,BitVec.toNat_ofInt,BitVec.toNat_ofInt];congr 1<;>omega
 show IntKind.u64.wrap (((BitVec.ofInt 64 (m:Int)&&& BitVec.ofInt 64 (n:Int)).toNat:Nat):Int)=_;rw[h];exact wrap_u64 (Nat.lt_of_le_of_lt Nat.and_le_left hm)
theorem JM{m n:Nat}(hm:m<2 ^ 64)(hn:n<2 ^ 64):bitsOf .u64 (fun x y=>x |||y) (m:Int) (n:Int)=((m |||n:Nat):Int):=by
 have h:(BitVec.ofInt 64 (m:Int) |||BitVec.ofInt 64 (n:Int)).toNat=m |||n:=by
  rw[BitVec.toNat_or,BitVec.toNat_ofInt,BitVec.toNat_ofInt];congr 1<;>omega
 show IntKind.u64.wrap (((BitVec.ofInt 64 (m:Int) |||BitVec.ofInt 64 (n:Int)).toNat:Nat):Int)=_;rw[h];exact wrap_u64 (Nat.or_lt_two_pow hm hn)
theorem M'(m k:Nat)(hk:k<64):eI .u64 .shr (m:Int) (k:Int)=((m >>> k:Nat):Int):=by
 simp only[eI,Int.toNat_natCast,IntKind.bits];rw[Nat.min_eq_left (by omega),Nat.shiftRight_eq_div_pow,Int.fdiv_eq_ediv_of_nonneg _ (by exact Int.le_of_lt (Int.pow_pos (by omega)))];simp
theorem M9(k:Nat)(hk:k<64):eI .u64 .shl 1 (k:Int)=((1 <<< k:Nat):Int):=by
 simp only[eI,Int.toNat_natCast,IntKind.bits];have aZ:1 <<< k<2 ^ 64:=by
  rw[Nat.one_shiftLeft];exact Nat.pow_lt_pow_right (by omega) hk
 have he:(1:Int)*(2:Int) ^ k=((1 <<< k:Nat):Int):=by
  rw[Nat.one_shiftLeft];simp
 rw[Nat.min_eq_left (by omega),he];exact wrap_u64 aZ
theorem LA(m k:Nat):decide (((m >>> k&&& 1:Nat):Int)=1)=m.testBit k:=by
 rw[Nat.testBit_eq_decide_div_mod_eq,Nat.and_one_is_mod,Nat.shiftRight_eq_div_pow];congr 1;apply propext;omega
theorem QD{m k:Nat}(h:m<2 ^ 64):m >>> k<2 ^ 64:=by
 rw[Nat.shiftRight_eq_div_pow];exact Nat.lt_of_le_of_lt (Nat.div_le_self _ _) h
theorem O9{k:Nat}:(k:Int).tdiv 64=((k / 64:Nat):Int):=by
 rw[Int.tdiv_eq_ediv_of_nonneg (by omega)];omega
theorem Pb{k:Nat}:(k:Int).tmod 64=((k % 64:Nat):Int):=by
 rw[Int.tmod_eq_emod_of_nonneg (by omega)];omega
theorem JL:((1:Nat):Int)=1:=rfl
theorem qp(s:Bs)(hs:s.fit)(k:Nat)(hk:k<128):bh Tryz.prog 90 [s.enc,aI k] (.v (.bool (s.has k))):=by
 obtain⟨ha,hb⟩:=hs;have UY:((64:Int)=0)=False:=by simp
 have Mt:k % 64<64:=Nat.mod_lt _ (by omega);have q1:=O9 (k:=k);have q2:=Pb (k:=k);obtain⟨x,hx,wW⟩:∃x:Nat,x<2 ^ 64∧x=if k<64 then s.a else s.b:=by
  split
  ·exact⟨_,ha,rfl⟩
  exact⟨_,hb,rfl⟩
 have hr:s.has k=x.testBit (k % 64):=by
  rw[wW];unfold Bs.has;split
  ·rw[Nat.mod_eq_of_lt (by assumption)]
  rw[show k % 64=k-64 by omega]
 have e1:=M' x (k % 64) Mt;have pN:=QD (k:=k % 64) hx;have e2:=xJ (m:=x >>> (k % 64)) (n:=1) pN (by omega);have e3:=LA x (k % 64);rw[JL]at e2;have jK:x >>> (k % 64)&&& 1<=1:=Nat.and_le_right;rw[hr,<-e3];generalize hy:x >>> (k % 64)=y at *;generalize hw:y&&& 1=w at *;rcases(show k / 64=0∧x=s.a∨k / 64=1∧x=s.b by
  by_cases h:k<64
  ·exact .inl ⟨by omega,by rw[wW,if_pos h]⟩
  exact .inr ⟨by omega,by rw[wW,if_neg h]⟩)with⟨hq,GO⟩|⟨hq,GO⟩
 all_goals
  rw[hq]at q1;subst GO;refine zf true 0 Tryz.func90 Tryz.ntmps90 ?_;dsimp only[Tmp,TypeId,slotsOf];refine aS ?_;simp -dsimp only[simprocAttr,↓aa,zp,Bs.aj,Bs.ar];refine ah ?_;refine aS ?_;simp -dsimp only[simprocAttr,↓aa,zp,q1,q2,UY,if_false,e1,e2]
  repeat(refine⟨by omega,?_⟩)
  refine ah ?_;refine aq ?_;simp -dsimp only[simprocAttr,↓aa,zp,zr,Tryz.results90]
theorem F0(s t:Bs)(hs:s.fit)(ht:t.fit):bh Tryz.prog 120 [s.enc,t.enc] (s.meet t).enc:=by
 obtain⟨ha,hb⟩:=hs;obtain⟨hc,hd⟩:=ht;have e1:=xJ ha hc;have e2:=xJ hb hd;have l1:s.a&&& t.a<2 ^ 64:=Nat.lt_of_le_of_lt Nat.and_le_left ha;have l2:s.b&&& t.b<2 ^ 64:=Nat.lt_of_le_of_lt Nat.and_le_left hb;unfold Bs.meet;generalize s.a&&& t.a=p at *;generalize s.b&&& t.b=q at *;refine zf true 0 Tryz.func120 Tryz.ntmps120 ?_;dsimp only[Tmp,TypeId,slotsOf];refine aS ?_;simp -dsimp only[simprocAttr,↓aa,zp,Bs.aj,Bs.ar];refine ah ?_;refine aS ?_;simp -dsimp only[simprocAttr,↓aa,zp,e1,e2]
 repeat(refine⟨by omega,?_⟩)
 refine ah ?_;refine aq ?_;simp -dsimp only[simprocAttr,↓aa,zp,zr,Tryz.results120];exact⟨⟨trivial,trivial,trivial⟩,rfl⟩
theorem HJ(s:Bs)(hs:s.fit)(k:Nat)(hk:k<128):bh Tryz.prog 119 [s.enc,aI k] (s.add k).enc:=by
 obtain⟨ha,hb⟩:=hs;have UY:((64:Int)=0)=False:=by simp
 have Mt:k % 64<64:=Nat.mod_lt _ (by omega);have q1:=O9 (k:=k);have q2:=Pb (k:=k);have e1:=M9 (k % 64) Mt;have aZ:1 <<< (k % 64)<2 ^ 64:=by
  rw[Nat.one_shiftLeft];exact Nat.pow_lt_pow_right (by omega) Mt
 rcases(show k<64∨64<=k by omega)with h|h
 ·have hq:k / 64=0:=by omega
  have hr:s.add k=⟨s.a |||1 <<< (k % 64),s.b⟩:=by
   simp[Bs.add,h,Nat.mod_eq_of_lt h]
  have e2:=JM ha aZ;have l1:s.a |||1 <<< (k % 64)<2 ^ 64:=Nat.or_lt_two_pow ha aZ;rw[hr];rw[hq]at q1;generalize hy:1 <<< (k % 64)=y at *;generalize hw:s.a |||y=w at *;refine zf true 0 Tryz.func119 Tryz.ntmps119 ?_;dsimp only[Tmp,TypeId,slotsOf];refine aS ?_;simp -dsimp only[simprocAttr,↓aa,zp,Bs.aj,Bs.ar];refine ah ?_;refine aS ?_;simp -dsimp only[simprocAttr,↓aa,zp,q1,q2,UY,if_false,e1,e2]
  repeat(refine⟨by omega,?_⟩)
  refine⟨ob (by kernel_rfl),?_⟩;refine ah ?_;refine ay (ah ?_);refine aq ?_;simp -dsimp only[simprocAttr,↓aa,zp,zr,Tryz.results119];exact⟨⟨trivial,trivial,trivial⟩,rfl⟩
 have hq:k / 64=1:=by omega
 have hr:s.add k=⟨s.a,s.b |||1 <<< (k % 64)⟩:=by
  have bI:¬k<64:=by omega
  simp[Bs.add,bI,show k % 64=k-64 by omega]
 have e2:=JM hb aZ;have l1:s.b |||1 <<< (k % 64)<2 ^ 64:=Nat.or_lt_two_pow hb aZ;rw[hr];rw[hq]at q1;generalize hy:1 <<< (k % 64)=y at *;generalize hw:s.b |||y=w at *;refine zf true 0 Tryz.func119 Tryz.ntmps119 ?_;dsimp only[Tmp,TypeId,slotsOf];refine aS ?_;simp -dsimp only[simprocAttr,↓aa,zp,Bs.aj,Bs.ar];refine ah ?_;refine aS ?_;simp -dsimp only[simprocAttr,↓aa,zp,q1,q2,UY,if_false,e1,e2]
 repeat(refine⟨by omega,?_⟩)
 refine⟨ob (by kernel_rfl),?_⟩;refine ah ?_;refine ay (ah ?_);refine aq ?_;simp -dsimp only[simprocAttr,↓aa,zp,zr,Tryz.results119];exact⟨⟨trivial,trivial,trivial⟩,rfl⟩
namespace Bs
theorem uj(s t:Bs)(k:Nat):(s.meet t).has k=(s.has k&&t.has k):=by
 unfold has meet;split<;>simp[Nat.testBit_and]
theorem has_add(s:Bs)(j k:Nat)(hj:j<128)(hk:k<128):(s.add j).has k=(s.has k ||decide (k=j)):=by
 unfold has add;by_cases h1:j<64<;>by_cases h2:k<64
 ·simp only[h1,h2,if_true,Nat.testBit_or,Nat.one_shiftLeft,Nat.testBit_two_pow];congr 1;apply decide_eq_decide.2;omega
 ·simp only[h1,h2,if_true,if_false];have:¬k=j:=by omega
  simp[this]
 ·simp only[h1,h2,if_true,if_false];have:¬k=j:=by omega
  simp[this]
 simp only[h1,h2,if_false,Nat.testBit_or,Nat.one_shiftLeft,Nat.testBit_two_pow];congr 1;apply decide_eq_decide.2;omega
theorem Ae{s t:Bs}(h:s.fit):(s.meet t).fit:=⟨Nat.lt_of_le_of_lt Nat.and_le_left h.1,Nat.lt_of_le_of_lt Nat.and_le_left h.2⟩
theorem nS{s:Bs}(h:s.fit){k:Nat}(hk:k<128):(s.add k).fit:=by
 unfold add;split
 ·refine⟨Nat.or_lt_two_pow h.1 ?_,h.2⟩;rw[Nat.one_shiftLeft];exact Nat.pow_lt_pow_right (by omega) (by assumption)
 refine⟨h.1,Nat.or_lt_two_pow h.2 ?_⟩;rw[Nat.one_shiftLeft];exact Nat.pow_lt_pow_right (by omega) (by omega)
theorem ql:none.fit:=⟨by decide,by decide⟩
theorem ext{s t:Bs}(hs:s.fit)(ht:t.fit)(h:∀k,k<128->s.has k=t.has k):s=t:=by
 obtain⟨a,b⟩:=s;obtain⟨c,d⟩:=t;obtain⟨s1,s2⟩:=hs;obtain⟨t1,t2⟩:=ht;simp only at s1 s2 t1 t2;have aZ:∀{m k:Nat},m<2 ^ 64->64<=k->m.testBit k=false:=fun hm hk=>Nat.testBit_lt_two_pow (Nat.lt_of_lt_of_le hm (Nat.pow_le_pow_right (by omega) hk));congr 1
 ·apply Nat.eq_of_testBit_eq;intro k;by_cases hk:k<64
  ·have:=h k (by omega);simpa[has,hk]using this
  rw[aZ s1 (by omega),aZ t1 (by omega)]
 apply Nat.eq_of_testBit_eq;intro k;by_cases hk:k<64
 ·have:=h (k+64) (by omega);simpa[has,show ¬k+64<64 by omega]using this
 rw[aZ s2 (by omega),aZ t2 (by omega)]
def size(s:Bs):Nat:=(List.range 128).countP s.has
theorem countP_le{p q:Nat->Bool}(h:∀k,k<128->p k=true->q k=true):∀n≤128,(List.range n).countP p<=(List.range n).countP q
 | 0,_=>by simp
 | n+1,hn=>by
  have ih:=countP_le h n (by omega);rw[List.range_succ,List.countP_append,List.countP_append];have:[n].countP p<=[n].countP q:=by
   simp only[List.countP_singleton];by_cases hp:p n=true
   ·simp[hp,h n (by omega) hp]
   simp[hp]
  omega
theorem rl{p q:Nat->Bool}(h:∀k,k<128->p k=true->q k=true){j:Nat}(hq:q j=true)(hp:p j=false):∀n≤128,j<n->(List.range n).countP p<(List.range n).countP q
 | 0,_,hj=>by omega
 | n+1,hn,hj=>by
  rw[List.range_succ,List.countP_append,List.countP_append];by_cases e:j=n
  ·subst e;have:=countP_le h j (by omega);simp only[List.countP_singleton,hq,hp];simp;omega
  have ih:=rl h hq hp n (by omega) (by omega);have:[n].countP p<=[n].countP q:=by
   simp only[List.countP_singleton];by_cases GJ:p n=true
   ·simp[GJ,h n (by omega) GJ]
   simp[GJ]
  omega
theorem Na{s t:Bs}(hs:s.fit)(ht:t.fit)(h:∀k,k<128->s.has k=true->t.has k=true)(bI:s≠t):s.size<t.size:=by
 by_cases cA:∀k,k<128->t.has k=true->s.has k=true
 ·exfalso;apply bI;apply ext hs ht;intro k hk;cases h1:s.has k<;>cases h2:t.has k
  ·rfl
  ·exact absurd (cA k hk h2) (by simp[h1])
  ·exact absurd (h k hk h1) (by simp[h2])
  rfl
 obtain⟨j,hj,h2,h1⟩:∃j,j<128∧t.has j=true∧¬s.has j=true:=by
  refine Classical.byContradiction fun q=>cA fun k hk h2=>?_;refine Classical.byContradiction fun h1=>q ⟨k,hk,h2,h1⟩
 exact rl h h2 (by simpa using h1) 128 (Nat.le_refl _) hj
theorem sq(s:Bs):s.size<=128:=by
 have:=List.countP_le_length (p:=s.has) (l:=List.range 128);simpa[size]using this
end Bs
structure Ds where
 over:List Bs
 seen:Bs
 again:Bool
def Ds.at_(S:Ds)(k:Nat):Bs:=S.over[k]?.getD .none
def gO(k:Nat)(S:Ds)(e:Edge):Ds :=
 let next:=((S.at_ e.block.toNat).meet (S.at_ k)).add e.block.toNat
 if next≠S.at_ e.block.toNat∨S.seen.has e.block.toNat=false then⟨S.over.set e.block.toNat next,S.seen.add e.block.toNat,true⟩else S
def qf(k:Nat)(S:Ds)(b:Block):Ds:=if S.seen.has k=false then S else b.term.to.foldl (gO k) S
def kU:Nat->Ds->List Block->Ds
 | _,S,[]=>S
 | k,S,b::r=>kU (k+1) (qf k S b) r
def iE(f:Func):Nat->Ds->Ds
 | 0,S=>S
 | n+1,S=>if S.again then iE f n (kU 0 ⟨S.over,S.seen,false⟩ f.blocks)else S
def vr:Nat->Bs
 | 0=>.none
 | n+1=>(vr n).add n
def ky(f:Func):Ds:=⟨(List.replicate f.blocks.length (vr f.blocks.length)).set 0 (Bs.none.add 0),Bs.none.add 0,true⟩
def kv(f:Func):List Bs×Bs:=((iE f 20000 (ky f)).over,(iE f 20000 (ky f)).seen)
structure lb(n:Nat)(S:Ds):Prop where
 few:n<=128
 len:S.over.length=n
 fit:∀s∈S.over,s.fit
 seen:S.seen.fit
 self:∀k,k<n->(S.at_ k).has k=true
def Ds.weight(S:Ds):Nat:=(S.over.map Bs.size).sum+(128-S.seen.size)
theorem lb.Cf{n:Nat}{S:Ds}(h:lb n S)(k:Nat):(S.at_ k).fit:=by
 unfold Ds.at_;cases hk:S.over[k]? with
 | none=>exact Bs.ql
 | some s=>exact h.fit s (List.mem_of_getElem? hk)
theorem FJ{l:List Nat}{k x y:Nat}(h:l[k]?=some y):(l.set k x).sum+y=l.sum+x:=by
 induction l generalizing k with
 | nil=>simp at h
 | cons a r ih =>
  cases k with
  | zero =>
   simp only[List.getElem?_cons_zero,Option.some.injEq]at h;simp only[List.set_cons_zero,List.sum_cons];omega
  | succ k =>
   have:=ih (k:=k) (by simpa using h);simp only[List.set_cons_succ,List.sum_cons];omega
theorem Ew{n:Nat}{S:Ds}(h:lb n S){k:Nat}{e:Edge}(K9:0<=e.block)(um:e.block.toNat<n):lb n (gO k S e)∧(gO k S e).weight<=S.weight∧((gO k S e).again=true->S.again=true∨(gO k S e).weight<S.weight):=by
 have hj:e.block.toNat<128:=Nat.lt_of_lt_of_le um h.few;unfold gO;simp only;generalize e.block.toNat=j at *;have XC:=h.Cf j;have mz:(((S.at_ j).meet (S.at_ k)).add j).fit:=Bs.nS (Bs.Ae XC) hj;have MB:∀i,i<128->(((S.at_ j).meet (S.at_ k)).add j).has i=true->(S.at_ j).has i=true:=fun i hi q=>by
  rw[Bs.has_add _ _ _ hj hi,Bs.uj]at q;by_cases e:i=j
  ·subst e;exact h.self i um
  simp[e]at q;exact q.1
 have pL:S.over[j]?=some (S.at_ j):=by
  have:j<S.over.length:=by rw[h.len];exact um
  simp[Ds.at_,this]
 split
 ·rename_i hc;refine⟨⟨h.few,by simp[h.len],fun s hs=>?_,Bs.nS h.seen hj,fun i hi=>?_⟩,?_⟩
  ·rcases List.mem_or_eq_of_mem_set hs with q|q
   ·exact h.fit s q
   rw[q];exact mz
  ·unfold Ds.at_;by_cases e:i=j
   ·subst e;rw[List.getElem?_set_self (by rw[h.len];exact hi)];simp only[Option.getD_some];rw[Bs.has_add _ _ _ hj hj];simp
   rw[List.getElem?_set_ne (Ne.symm e)];exact h.self i hi
  have sR:=FJ (l:=S.over.map Bs.size) (k:=j) (x:=(((S.at_ j).meet (S.at_ k)).add j).size) (y:=(S.at_ j).size) (by simp[pL]);rw[<-List.map_set]at sR;have hle:(((S.at_ j).meet (S.at_ k)).add j).size<=(S.at_ j).size:=Bs.countP_le MB 128 (Nat.le_refl _);have pN:S.seen.size<=(S.seen.add j).size:=Bs.countP_le (fun i hi q=>by rw[Bs.has_add _ _ _ hj hi,q];rfl) 128 (Nat.le_refl _);have ha:=Bs.sq (S.seen.add j);have aZ:(((S.at_ j).meet (S.at_ k)).add j).size<(S.at_ j).size∨S.seen.size<(S.seen.add j).size:=by
   rcases hc with hc|hc
   ·exact .inl (Bs.Na mz XC MB hc)
   refine .inr (Bs.rl (fun i hi q=>by rw[Bs.has_add _ _ _ hj hi,q];rfl) (j:=j) ?_ hc 128 (Nat.le_refl _) hj);rw[Bs.has_add _ _ _ hj hj];simp
  simp only[Ds.weight];refine⟨by omega,fun _=>.inr (by omega)⟩
 exact⟨h,Nat.le_refl _,fun q=>.inl q⟩
theorem Ex{n:Nat}{k:Nat}:∀(l:List Edge) {S:Ds},lb n S->(∀e∈l,0<=e.block∧e.block.toNat<n)->lb n (l.foldl (gO k) S)∧(l.foldl (gO k) S).weight<=S.weight∧((l.foldl (gO k) S).again=true->S.again=true∨(l.foldl (gO k) S).weight<S.weight)
 | [],S,h,_=>⟨h,Nat.le_refl _,fun q=>.inl q⟩
 | e::r,S,h,he=>by
  obtain⟨a1,a2,a3⟩:=Ew (k:=k) h (he e (by simp)).1 (he e (by simp)).2;obtain⟨b1,b2,b3⟩:=Ex r a1 (fun x hx=>he x (by simp[hx]));simp only[List.foldl_cons];refine⟨b1,by omega,fun q=>?_⟩;rcases b3 q with q|q
  ·rcases a3 q with q|q
   ·exact .inl q
   exact .inr (by omega)
  exact .inr (by omega)
theorem Ev{n:Nat}{k:Nat}{b:Block}{S:Ds}(h:lb n S)(he:∀e∈b.term.to,0<=e.block∧e.block.toNat<n):lb n (qf k S b)∧(qf k S b).weight<=S.weight∧((qf k S b).again=true->S.again=true∨(qf k S b).weight<S.weight):=by
 unfold qf;split
 ·exact⟨h,Nat.le_refl _,fun q=>.inl q⟩
 exact Ex _ h he
theorem qg{n:Nat}:∀(l:List Block) {k:Nat} {S:Ds},lb n S->(∀b∈l,∀e∈b.term.to,0<=e.block∧e.block.toNat<n)->lb n (kU k S l)∧(kU k S l).weight<=S.weight∧((kU k S l).again=true->S.again=true∨(kU k S l).weight<S.weight)
 | [],k,S,h,_=>⟨h,Nat.le_refl _,fun q=>.inl q⟩
 | b::r,k,S,h,he=>by
  obtain⟨a1,a2,a3⟩:=Ev (k:=k) h (he b (by simp));obtain⟨b1,b2,b3⟩:=qg r (k:=k+1) a1 (fun x hx=>he x (by simp[hx]));simp only[kU];refine⟨b1,by omega,fun q=>?_⟩;rcases b3 q with q|q
  ·rcases a3 q with q|q
   ·exact .inl q
   exact .inr (by omega)
  exact .inr (by omega)
instance (n:Int):Decidable (fG n):=by
 unfold fG
 infer_instance
theorem sa(n:Int):bh Tryz.prog 111 [aI n] (.v (.bool (decide (fG n)))):=by
 have hw:=dy n (-1073741824) 1073741823;refine zf true 0 Tryz.func111 Tryz.ntmps111 ?_;dsimp only[Tmp,TypeId,slotsOf];refine ay (ah ?_);refine ay ?_;refine zi hw ?_;refine ah ?_;refine aq ?_;simp -dsimp only[simprocAttr,↓aa,zp,zr,Tryz.results111];simp only[within,fG];by_cases h1:-1073741824<=n<;>by_cases h2:n<=1073741823<;>simp[h1,h2]
def a8(i:Ins):Int×Bool :=
 if i.op=0 then(0,true)
 else if(1<=i.op∧i.op<=7)∨i.op=16∨i.op=18∨i.op=19∨i.op=21∨i.op=23 then(2,true)
 else if i.op=20 then(3,true)
 else if i.op=10∨i.op=11∨i.op=12∨i.op=15∨i.op=17∨i.op=24 then(1,true)
 else if i.op=8∨i.op=9∨i.op=13∨i.op=14 then(-1,true)
 else if i.op=22 then(i.n,decide (i.n=2∨i.n=4))
 else(0,false)
def cn(i:Ins):Bool :=
 if i.op=0 then decide (fG i.n)
 else if i.op=8 then within i.n 0 255
 else if i.op=11 then within i.n 0 15
 else if i.op=9∨i.op=13 then within i.n 0 255
 else if i.op=23 then decide (i.n=1∨i.n=2∨i.n=3)
 else if i.op=24 then within i.n 0 3
 else if i.op=22 then true
 else decide (i.n=0)
theorem DA(i:Ins)(jq:i.op=0):bh Tryz.prog 117 [i.enc] (.cK [aI (a8 i).1,.v (.bool (a8 i).2)]):=by
 have hr:a8 i=(0,true):=by
  unfold a8;rw[if_pos (by omega)]
 rw[hr];refine zf true 0 Tryz.func117 Tryz.ntmps117 ?_;dsimp only[Tmp,TypeId,slotsOf];refine ay (ah ?_);refine cb (ah ?_);refine ai ?_;refine ay (ah ?_);apply aM rfl<;>intro h
 ·refine ay (ah ?_);refine aq ?_;simp -dsimp only[simprocAttr,↓aa,zp,zr,Tryz.results117];simp[au,ae.upto]
 exact af h (by omega)
theorem DB(i:Ins)(jq:(1<=i.op∧i.op<=7)∨i.op=16∨i.op=18∨i.op=19∨i.op=21∨i.op=23):bh Tryz.prog 117 [i.enc] (.cK [aI (a8 i).1,.v (.bool (a8 i).2)]):=by
 have hr:a8 i=(2,true):=by
  unfold a8;rw[if_neg (by omega),if_pos (by omega)]
 rw[hr];refine zf true 0 Tryz.func117 Tryz.ntmps117 ?_;dsimp only[Tmp,TypeId,slotsOf];refine ay (ah ?_);refine cb (ah ?_);refine ai ?_;refine ay (ah ?_);apply aM rfl<;>intro h
 ·exact ab h (by omega)
 refine cb (ah ?_);refine jf (⟨47,[(1,.mp 0 0),(2,aI 0),(3,.v (.bool false)),(5,aI i.op),(8,.v (.bool true))],[.cells [aI i.to,aI i.op,aI i.n,aT i.args]]⟩) ?_ ?_
 ·apply aM rfl<;>intro h
  ·refine a6 ?_;show bd _ _;refine zq rfl ?_ ?_;simp -dsimp only[simprocAttr,↓aa,zp,zc]
   ·exact Sub.of_eq (by rw[h])
   rfl
  refine ay (ah ?_);apply aM rfl<;>intro h
  ·refine a6 ?_;show bd _ _;refine zq rfl ?_ ?_;simp -dsimp only[simprocAttr,↓aa,zp,zc]
   ·exact Sub.of_eq (by rw[h])
   rfl
  refine ay (ah ?_);apply aM rfl<;>intro h
  ·refine a6 ?_;show bd _ _;refine zq rfl ?_ ?_;simp -dsimp only[simprocAttr,↓aa,zp,zc]
   ·exact Sub.of_eq (by rw[h])
   rfl
  refine ay (ah ?_);apply aM rfl<;>intro h
  ·refine a6 ?_;show bd _ _;refine zq rfl ?_ ?_;simp -dsimp only[simprocAttr,↓aa,zp,zc]
   ·exact Sub.of_eq (by rw[h])
   rfl
  refine ay (ah ?_);apply aM rfl<;>intro h
  ·refine a6 ?_;show bd _ _;refine zq rfl ?_ ?_;simp -dsimp only[simprocAttr,↓aa,zp,zc]
   ·exact Sub.of_eq (by rw[h])
   rfl
  refine ay (ah ?_);apply aM rfl<;>intro h
  ·refine a6 ?_;show bd _ _;refine zq rfl ?_ ?_;simp -dsimp only[simprocAttr,↓aa,zp,zc]
   ·exact Sub.of_eq (by rw[h])
   rfl
  refine ay (ah ?_);apply aM rfl<;>intro h
  ·refine a6 ?_;show bd _ _;refine zq rfl ?_ ?_;simp -dsimp only[simprocAttr,↓aa,zp,zc]
   ·exact Sub.of_eq (by rw[h])
   rfl
  refine ay (ah ?_);apply aM rfl<;>intro h
  ·refine a6 ?_;show bd _ _;refine zq rfl ?_ ?_;simp -dsimp only[simprocAttr,↓aa,zp,zc]
   ·exact Sub.of_eq (by rw[h])
   rfl
  refine ay (ah ?_);apply aM rfl<;>intro h
  ·refine a6 ?_;show bd _ _;refine zq rfl ?_ ?_;simp -dsimp only[simprocAttr,↓aa,zp,zc]
   ·exact Sub.of_eq (by rw[h])
   rfl
  refine ay (ah ?_);apply aM rfl<;>intro h
  ·refine a6 ?_;show bd _ _;refine zq rfl ?_ ?_;simp -dsimp only[simprocAttr,↓aa,zp,zc]
   ·exact Sub.of_eq (by rw[h])
   rfl
  refine ay (ah ?_);apply aM rfl<;>intro h
  ·refine a6 ?_;show bd _ _;refine zq rfl ?_ ?_;simp -dsimp only[simprocAttr,↓aa,zp,zc]
   ·exact Sub.of_eq (by rw[h])
   rfl
  refine cF ?_;refine aV ?_;show bd _ _;refine zq rfl ?_ ?_;simp -dsimp only[simprocAttr,↓aa,zp,zc]
  ·exact Sub.of_eq (by rw[decide_eq_true (show i.op=23 by simp only[decide_eq_false_iff_not]at *;omega)])
  rfl
 refine cN rfl ?_;refine ay (ah ?_);refine aq ?_;simp -dsimp only[simprocAttr,↓aa,zp,zr,Tryz.results117];simp[au,ae.upto]
theorem DC(i:Ins)(jq:i.op=20):bh Tryz.prog 117 [i.enc] (.cK [aI (a8 i).1,.v (.bool (a8 i).2)]):=by
 have hr:a8 i=(3,true):=by
  unfold a8;rw[if_neg (by omega),if_neg (by omega),if_pos (by omega)]
 rw[hr];refine zf true 0 Tryz.func117 Tryz.ntmps117 ?_;dsimp only[Tmp,TypeId,slotsOf];refine ay (ah ?_);refine cb (ah ?_);refine ai ?_;refine ay (ah ?_);apply aM rfl<;>intro h
 ·exact ab h (by omega)
 refine cb (ah ?_);apply aM rfl<;>intro h
 ·exact ab h (by omega)
 refine ay (ah ?_);apply aM rfl<;>intro h
 ·exact ab h (by omega)
 refine ay (ah ?_);apply aM rfl<;>intro h
 ·exact ab h (by omega)
 refine ay (ah ?_);apply aM rfl<;>intro h
 ·exact ab h (by omega)
 refine ay (ah ?_);apply aM rfl<;>intro h
 ·exact ab h (by omega)
 refine ay (ah ?_);apply aM rfl<;>intro h
 ·exact ab h (by omega)
 refine ay (ah ?_);apply aM rfl<;>intro h
 ·exact ab h (by omega)
 refine ay (ah ?_);apply aM rfl<;>intro h
 ·exact ab h (by omega)
 refine ay (ah ?_);apply aM rfl<;>intro h
 ·exact ab h (by omega)
 refine ay (ah ?_);apply aM rfl<;>intro h
 ·exact ab h (by omega)
 refine ay (ah ?_);apply aM rfl<;>intro h
 ·exact ab h (by omega)
 refine cF (ah ?_);apply aM rfl<;>intro h
 ·exact ab h (by omega)
 refine ay (ah ?_);apply aM rfl<;>intro h
 ·refine ay (ah ?_);refine aq ?_;simp -dsimp only[simprocAttr,↓aa,zp,zr,Tryz.results117];simp[au,ae.upto]
 exact af h (by omega)
theorem DD(i:Ins)(jq:i.op=10∨i.op=11∨i.op=12∨i.op=15∨i.op=17∨i.op=24):bh Tryz.prog 117 [i.enc] (.cK [aI (a8 i).1,.v (.bool (a8 i).2)]):=by
 have hr:a8 i=(1,true):=by
  unfold a8;rw[if_neg (by omega),if_neg (by omega),if_neg (by omega),if_pos (by omega)]
 rw[hr];refine zf true 0 Tryz.func117 Tryz.ntmps117 ?_;dsimp only[Tmp,TypeId,slotsOf];refine ay (ah ?_);refine cb (ah ?_);refine ai ?_;refine ay (ah ?_);apply aM rfl<;>intro h
 ·exact ab h (by omega)
 refine cb (ah ?_);apply aM rfl<;>intro h
 ·exact ab h (by omega)
 refine ay (ah ?_);apply aM rfl<;>intro h
 ·exact ab h (by omega)
 refine ay (ah ?_);apply aM rfl<;>intro h
 ·exact ab h (by omega)
 refine ay (ah ?_);apply aM rfl<;>intro h
 ·exact ab h (by omega)
 refine ay (ah ?_);apply aM rfl<;>intro h
 ·exact ab h (by omega)
 refine ay (ah ?_);apply aM rfl<;>intro h
 ·exact ab h (by omega)
 refine ay (ah ?_);apply aM rfl<;>intro h
 ·exact ab h (by omega)
 refine ay (ah ?_);apply aM rfl<;>intro h
 ·exact ab h (by omega)
 refine ay (ah ?_);apply aM rfl<;>intro h
 ·exact ab h (by omega)
 refine ay (ah ?_);apply aM rfl<;>intro h
 ·exact ab h (by omega)
 refine ay (ah ?_);apply aM rfl<;>intro h
 ·exact ab h (by omega)
 refine cF (ah ?_);apply aM rfl<;>intro h
 ·exact ab h (by omega)
 refine ay (ah ?_);apply aM rfl<;>intro h
 ·exact ab h (by omega)
 refine cb (ah ?_);refine jf (⟨47,[(1,.mp 0 0),(2,aI 0),(3,.v (.bool false)),(5,aI i.op),(23,.v (.bool true))],[.cells [aI i.to,aI i.op,aI i.n,aT i.args]]⟩) ?_ ?_
 ·apply aM rfl<;>intro h
  ·refine a6 ?_;show bd _ _;refine zq rfl ?_ ?_;simp -dsimp only[simprocAttr,↓aa,zp,zc]
   ·exact Sub.of_eq (by rw[h])
   rfl
  refine ay (ah ?_);apply aM rfl<;>intro h
  ·refine a6 ?_;show bd _ _;refine zq rfl ?_ ?_;simp -dsimp only[simprocAttr,↓aa,zp,zc]
   ·exact Sub.of_eq (by rw[h])
   rfl
  refine ay (ah ?_);apply aM rfl<;>intro h
  ·refine a6 ?_;show bd _ _;refine zq rfl ?_ ?_;simp -dsimp only[simprocAttr,↓aa,zp,zc]
   ·exact Sub.of_eq (by rw[h])
   rfl
  refine ay (ah ?_);apply aM rfl<;>intro h
  ·refine a6 ?_;show bd _ _;refine zq rfl ?_ ?_;simp -dsimp only[simprocAttr,↓aa,zp,zc]
   ·exact Sub.of_eq (by rw[h])
   rfl
  refine ay (ah ?_);apply aM rfl<;>intro h
  ·refine a6 ?_;show bd _ _;refine zq rfl ?_ ?_;simp -dsimp only[simprocAttr,↓aa,zp,zc]
   ·exact Sub.of_eq (by rw[h])
   rfl
  refine cF ?_;refine aV ?_;show bd _ _;refine zq rfl ?_ ?_;simp -dsimp only[simprocAttr,↓aa,zp,zc]
  ·exact Sub.of_eq (by rw[decide_eq_true (show i.op=24 by simp only[decide_eq_false_iff_not]at *;omega)])
  rfl
 refine cN rfl ?_;refine ay (ah ?_);refine aq ?_;simp -dsimp only[simprocAttr,↓aa,zp,zr,Tryz.results117];simp[au,ae.upto]
theorem DE(i:Ins)(jq:i.op=8∨i.op=9∨i.op=13∨i.op=14):bh Tryz.prog 117 [i.enc] (.cK [aI (a8 i).1,.v (.bool (a8 i).2)]):=by
 have hr:a8 i=(-1,true):=by
  unfold a8;rw[if_neg (by omega),if_neg (by omega),if_neg (by omega),if_neg (by omega),if_pos (by omega)]
 rw[hr];refine zf true 0 Tryz.func117 Tryz.ntmps117 ?_;dsimp only[Tmp,TypeId,slotsOf];refine ay (ah ?_);refine cb (ah ?_);refine ai ?_;refine ay (ah ?_);apply aM rfl<;>intro h
 ·exact ab h (by omega)
 refine cb (ah ?_);apply aM rfl<;>intro h
 ·exact ab h (by omega)
 refine ay (ah ?_);apply aM rfl<;>intro h
 ·exact ab h (by omega)
 refine ay (ah ?_);apply aM rfl<;>intro h
 ·exact ab h (by omega)
 refine ay (ah ?_);apply aM rfl<;>intro h
 ·exact ab h (by omega)
 refine ay (ah ?_);apply aM rfl<;>intro h
 ·exact ab h (by omega)
 refine ay (ah ?_);apply aM rfl<;>intro h
 ·exact ab h (by omega)
 refine ay (ah ?_);apply aM rfl<;>intro h
 ·exact ab h (by omega)
 refine ay (ah ?_);apply aM rfl<;>intro h
 ·exact ab h (by omega)
 refine ay (ah ?_);apply aM rfl<;>intro h
 ·exact ab h (by omega)
 refine ay (ah ?_);apply aM rfl<;>intro h
 ·exact ab h (by omega)
 refine ay (ah ?_);apply aM rfl<;>intro h
 ·exact ab h (by omega)
 refine cF (ah ?_);apply aM rfl<;>intro h
 ·exact ab h (by omega)
 refine ay (ah ?_);apply aM rfl<;>intro h
 ·exact ab h (by omega)
 refine cb (ah ?_);apply aM rfl<;>intro h
 ·exact ab h (by omega)
 refine ay (ah ?_);apply aM rfl<;>intro h
 ·exact ab h (by omega)
 refine ay (ah ?_);apply aM rfl<;>intro h
 ·exact ab h (by omega)
 refine ay (ah ?_);apply aM rfl<;>intro h
 ·exact ab h (by omega)
 refine ay (ah ?_);apply aM rfl<;>intro h
 ·exact ab h (by omega)
 refine cF (ah ?_);apply aM rfl<;>intro h
 ·exact ab h (by omega)
 refine cb (ah ?_);refine jf (⟨47,[(1,.mp 0 0),(2,aI 0),(3,.v (.bool false)),(5,aI i.op),(30,.v (.bool true))],[.cells [aI i.to,aI i.op,aI i.n,aT i.args]]⟩) ?_ ?_
 ·apply aM rfl<;>intro h
  ·refine a6 ?_;show bd _ _;refine zq rfl ?_ ?_;simp -dsimp only[simprocAttr,↓aa,zp,zc]
   ·exact Sub.of_eq (by rw[h])
   rfl
  refine ay (ah ?_);apply aM rfl<;>intro h
  ·refine a6 ?_;show bd _ _;refine zq rfl ?_ ?_;simp -dsimp only[simprocAttr,↓aa,zp,zc]
   ·exact Sub.of_eq (by rw[h])
   rfl
  refine ay (ah ?_);apply aM rfl<;>intro h
  ·refine a6 ?_;show bd _ _;refine zq rfl ?_ ?_;simp -dsimp only[simprocAttr,↓aa,zp,zc]
   ·exact Sub.of_eq (by rw[h])
   rfl
  refine cF ?_;refine aV ?_;show bd _ _;refine zq rfl ?_ ?_;simp -dsimp only[simprocAttr,↓aa,zp,zc]
  ·exact Sub.of_eq (by rw[decide_eq_true (show i.op=14 by simp only[decide_eq_false_iff_not]at *;omega)])
  rfl
 refine cN rfl ?_;refine ay (ah ?_);refine aq ?_;simp -dsimp only[simprocAttr,↓aa,zp,zr,Tryz.results117];simp[au,ae.upto]
theorem DF(i:Ins)(jq:i.op=22):bh Tryz.prog 117 [i.enc] (.cK [aI (a8 i).1,.v (.bool (a8 i).2)]):=by
 have hr:a8 i=(i.n,decide (i.n=2∨i.n=4)):=by
  unfold a8;rw[if_neg (by omega),if_neg (by omega),if_neg (by omega),if_neg (by omega),if_neg (by omega),if_pos (by omega)]
 rw[hr];by_cases h2:i.n=2
 ·have kq:decide (i.n=2)=true:=decide_eq_true h2;refine zf true 0 Tryz.func117 Tryz.ntmps117 ?_;dsimp only[Tmp,TypeId,slotsOf];refine ay (ah ?_);refine cb (ah ?_);refine ai ?_;refine ay (ah ?_);apply aM rfl<;>intro h
  ·exact ab h (by omega)
  refine cb (ah ?_);apply aM rfl<;>intro h
  ·exact ab h (by omega)
  refine ay (ah ?_);apply aM rfl<;>intro h
  ·exact ab h (by omega)
  refine ay (ah ?_);apply aM rfl<;>intro h
  ·exact ab h (by omega)
  refine ay (ah ?_);apply aM rfl<;>intro h
  ·exact ab h (by omega)
  refine ay (ah ?_);apply aM rfl<;>intro h
  ·exact ab h (by omega)
  refine ay (ah ?_);apply aM rfl<;>intro h
  ·exact ab h (by omega)
  refine ay (ah ?_);apply aM rfl<;>intro h
  ·exact ab h (by omega)
  refine ay (ah ?_);apply aM rfl<;>intro h
  ·exact ab h (by omega)
  refine ay (ah ?_);apply aM rfl<;>intro h
  ·exact ab h (by omega)
  refine ay (ah ?_);apply aM rfl<;>intro h
  ·exact ab h (by omega)
  refine ay (ah ?_);apply aM rfl<;>intro h
  ·exact ab h (by omega)
  refine cF (ah ?_);apply aM rfl<;>intro h
  ·exact ab h (by omega)
  refine ay (ah ?_);apply aM rfl<;>intro h
  ·exact ab h (by omega)
  refine cb (ah ?_);apply aM rfl<;>intro h
  ·exact ab h (by omega)
  refine ay (ah ?_);apply aM rfl<;>intro h
  ·exact ab h (by omega)
  refine ay (ah ?_);apply aM rfl<;>intro h
  ·exact ab h (by omega)
  refine ay (ah ?_);apply aM rfl<;>intro h
  ·exact ab h (by omega)
  refine ay (ah ?_);apply aM rfl<;>intro h
  ·exact ab h (by omega)
  refine cF (ah ?_);apply aM rfl<;>intro h
  ·exact ab h (by omega)
  refine cb (ah ?_);apply aM rfl<;>intro h
  ·exact ab h (by omega)
  refine ay (ah ?_);apply aM rfl<;>intro h
  ·exact ab h (by omega)
  refine ay (ah ?_);apply aM rfl<;>intro h
  ·exact ab h (by omega)
  refine cF (ah ?_);apply aM rfl<;>intro h
  ·exact ab h (by omega)
  refine ay (ah ?_);apply aM rfl<;>intro h
  ·refine aS ?_;simp -dsimp only[simprocAttr,↓aa,zp,kq];refine⟨ob (by kernel_rfl),?_⟩;refine ah ?_;refine aq ?_;simp -dsimp only[simprocAttr,↓aa,zp,zr,Tryz.results117];simp[au,ae.upto,h2]
  exact af h (by omega)
 have kq:decide (i.n=2)=false:=decide_eq_false h2;by_cases h4:i.n=4
 ·have Mk:decide (i.n=4)=true:=decide_eq_true h4;refine zf true 0 Tryz.func117 Tryz.ntmps117 ?_;dsimp only[Tmp,TypeId,slotsOf];refine ay (ah ?_);refine cb (ah ?_);refine ai ?_;refine ay (ah ?_);apply aM rfl<;>intro h
  ·exact ab h (by omega)
  refine cb (ah ?_);apply aM rfl<;>intro h
  ·exact ab h (by omega)
  refine ay (ah ?_);apply aM rfl<;>intro h
  ·exact ab h (by omega)
  refine ay (ah ?_);apply aM rfl<;>intro h
  ·exact ab h (by omega)
  refine ay (ah ?_);apply aM rfl<;>intro h
  ·exact ab h (by omega)
  refine ay (ah ?_);apply aM rfl<;>intro h
  ·exact ab h (by omega)
  refine ay (ah ?_);apply aM rfl<;>intro h
  ·exact ab h (by omega)
  refine ay (ah ?_);apply aM rfl<;>intro h
  ·exact ab h (by omega)
  refine ay (ah ?_);apply aM rfl<;>intro h
  ·exact ab h (by omega)
  refine ay (ah ?_);apply aM rfl<;>intro h
  ·exact ab h (by omega)
  refine ay (ah ?_);apply aM rfl<;>intro h
  ·exact ab h (by omega)
  refine ay (ah ?_);apply aM rfl<;>intro h
  ·exact ab h (by omega)
  refine cF (ah ?_);apply aM rfl<;>intro h
  ·exact ab h (by omega)
  refine ay (ah ?_);apply aM rfl<;>intro h
  ·exact ab h (by omega)
  refine cb (ah ?_);apply aM rfl<;>intro h
  ·exact ab h (by omega)
  refine ay (ah ?_);apply aM rfl<;>intro h
  ·exact ab h (by omega)
  refine ay (ah ?_);apply aM rfl<;>intro h
  ·exact ab h (by omega)
  refine ay (ah ?_);apply aM rfl<;>intro h
  ·exact ab h (by omega)
  refine ay (ah ?_);apply aM rfl<;>intro h
  ·exact ab h (by omega)
  refine cF (ah ?_);apply aM rfl<;>intro h
  ·exact ab h (by omega)
  refine cb (ah ?_);apply aM rfl<;>intro h
  ·exact ab h (by omega)
  refine ay (ah ?_);apply aM rfl<;>intro h
  ·exact ab h (by omega)
  refine ay (ah ?_);apply aM rfl<;>intro h
  ·exact ab h (by omega)
  refine cF (ah ?_);apply aM rfl<;>intro h
  ·exact ab h (by omega)
  refine ay (ah ?_);apply aM rfl<;>intro h
  ·refine aS ?_;simp -dsimp only[simprocAttr,↓aa,zp,kq,Mk];refine⟨ob (by kernel_rfl),?_⟩;refine ah ?_;refine aq ?_;simp -dsimp only[simprocAttr,↓aa,zp,zr,Tryz.results117];simp[au,ae.upto,h4]
  exact af h (by omega)
 have Mk:decide (i.n=4)=false:=decide_eq_false h4;refine zf true 0 Tryz.func117 Tryz.ntmps117 ?_;dsimp only[Tmp,TypeId,slotsOf];refine ay (ah ?_);refine cb (ah ?_);refine ai ?_;refine ay (ah ?_);apply aM rfl<;>intro h
 ·exact ab h (by omega)
 refine cb (ah ?_);apply aM rfl<;>intro h
 ·exact ab h (by omega)
 refine ay (ah ?_);apply aM rfl<;>intro h
 ·exact ab h (by omega)
 refine ay (ah ?_);apply aM rfl<;>intro h
 ·exact ab h (by omega)
 refine ay (ah ?_);apply aM rfl<;>intro h
 ·exact ab h (by omega)
 refine ay (ah ?_);apply aM rfl<;>intro h
 ·exact ab h (by omega)
 refine ay (ah ?_);apply aM rfl<;>intro h
 ·exact ab h (by omega)
 refine ay (ah ?_);apply aM rfl<;>intro h
 ·exact ab h (by omega)
 refine ay (ah ?_);apply aM rfl<;>intro h
 ·exact ab h (by omega)
 refine ay (ah ?_);apply aM rfl<;>intro h
 ·exact ab h (by omega)
 refine ay (ah ?_);apply aM rfl<;>intro h
 ·exact ab h (by omega)
 refine ay (ah ?_);apply aM rfl<;>intro h
 ·exact ab h (by omega)
 refine cF (ah ?_);apply aM rfl<;>intro h
 ·exact ab h (by omega)
 refine ay (ah ?_);apply aM rfl<;>intro h
 ·exact ab h (by omega)
 refine cb (ah ?_);apply aM rfl<;>intro h
 ·exact ab h (by omega)
 refine ay (ah ?_);apply aM rfl<;>intro h
 ·exact ab h (by omega)
 refine ay (ah ?_);apply aM rfl<;>intro h
 ·exact ab h (by omega)
 refine ay (ah ?_);apply aM rfl<;>intro h
 ·exact ab h (by omega)
 refine ay (ah ?_);apply aM rfl<;>intro h
 ·exact ab h (by omega)
 refine cF (ah ?_);apply aM rfl<;>intro h
 ·exact ab h (by omega)
 refine cb (ah ?_);apply aM rfl<;>intro h
 ·exact ab h (by omega)
 refine ay (ah ?_);apply aM rfl<;>intro h
 ·exact ab h (by omega)
 refine ay (ah ?_);apply aM rfl<;>intro h
 ·exact ab h (by omega)
 refine cF (ah ?_);apply aM rfl<;>intro h
 ·exact ab h (by omega)
 refine ay (ah ?_);apply aM rfl<;>intro h
 ·refine aS ?_;simp -dsimp only[simprocAttr,↓aa,zp,kq,Mk];refine⟨ob (by kernel_rfl),?_⟩;refine ah ?_;refine aq ?_;simp -dsimp only[simprocAttr,↓aa,zp,zr,Tryz.results117];simp[au,ae.upto,h2,h4]
 exact af h (by omega)
theorem vZ(i:Ins):bh Tryz.prog 117 [i.enc] (.cK [aI (a8 i).1,.v (.bool (a8 i).2)]):=by
 by_cases h0:i.op=0
 ·exact DA i h0
 by_cases h1:(1<=i.op∧i.op<=7)∨i.op=16∨i.op=18∨i.op=19∨i.op=21∨i.op=23
 ·exact DB i h1
 by_cases h2:i.op=20
 ·exact DC i h2
 by_cases h3:i.op=10∨i.op=11∨i.op=12∨i.op=15∨i.op=17∨i.op=24
 ·exact DD i h3
 by_cases h4:i.op=8∨i.op=9∨i.op=13∨i.op=14
 ·exact DE i h4
 by_cases h5:i.op=22
 ·exact DF i h5
 have hr:a8 i=(0,false):=by
  unfold a8;rw[if_neg (by omega),if_neg (by omega),if_neg (by omega),if_neg (by omega),if_neg (by omega),if_neg (by omega)]
 rw[hr];refine zf true 0 Tryz.func117 Tryz.ntmps117 ?_;dsimp only[Tmp,TypeId,slotsOf];refine ay (ah ?_);refine cb (ah ?_);refine ai ?_;refine ay (ah ?_);apply aM rfl<;>intro h
 ·exact ab h (by omega)
 refine cb (ah ?_);apply aM rfl<;>intro h
 ·exact ab h (by omega)
 refine ay (ah ?_);apply aM rfl<;>intro h
 ·exact ab h (by omega)
 refine ay (ah ?_);apply aM rfl<;>intro h
 ·exact ab h (by omega)
 refine ay (ah ?_);apply aM rfl<;>intro h
 ·exact ab h (by omega)
 refine ay (ah ?_);apply aM rfl<;>intro h
 ·exact ab h (by omega)
 refine ay (ah ?_);apply aM rfl<;>intro h
 ·exact ab h (by omega)
 refine ay (ah ?_);apply aM rfl<;>intro h
 ·exact ab h (by omega)
 refine ay (ah ?_);apply aM rfl<;>intro h
 ·exact ab h (by omega)
 refine ay (ah ?_);apply aM rfl<;>intro h
 ·exact ab h (by omega)
 refine ay (ah ?_);apply aM rfl<;>intro h
 ·exact ab h (by omega)
 refine ay (ah ?_);apply aM rfl<;>intro h
 ·exact ab h (by omega)
 refine cF (ah ?_);apply aM rfl<;>intro h
 ·exact ab h (by omega)
 refine ay (ah ?_);apply aM rfl<;>intro h
 ·exact ab h (by omega)
 refine cb (ah ?_);apply aM rfl<;>intro h
 ·exact ab h (by omega)
 refine ay (ah ?_);apply aM rfl<;>intro h
 ·exact ab h (by omega)
 refine ay (ah ?_);apply aM rfl<;>intro h
 ·exact ab h (by omega)
 refine ay (ah ?_);apply aM rfl<;>intro h
 ·exact ab h (by omega)
 refine ay (ah ?_);apply aM rfl<;>intro h
 ·exact ab h (by omega)
 refine cF (ah ?_);apply aM rfl<;>intro h
 ·exact ab h (by omega)
 refine cb (ah ?_);apply aM rfl<;>intro h
 ·exact ab h (by omega)
 refine ay (ah ?_);apply aM rfl<;>intro h
 ·exact ab h (by omega)
 refine ay (ah ?_);apply aM rfl<;>intro h
 ·exact ab h (by omega)
 refine cF (ah ?_);apply aM rfl<;>intro h
 ·exact ab h (by omega)
 refine ay (ah ?_);apply aM rfl<;>intro h
 ·exact ab h (by omega)
 refine kA ?_;refine ay (ah ?_);refine aq ?_;simp -dsimp only[simprocAttr,↓aa,zp,zr,Tryz.results117];simp[au,ae.upto]
theorem JE(i:Ins)(jq:i.op=0):bh Tryz.prog 118 [i.enc] (.v (.bool (cn i))):=by
 have hr:cn i=decide (fG i.n):=by
  unfold cn;rw[if_pos (by omega)]
 rw[hr];refine zf true 0 Tryz.func118 Tryz.ntmps118 ?_;dsimp only[Tmp,TypeId,slotsOf];refine ay (ah ?_);refine cb (ah ?_);refine ai ?_;refine ay (ah ?_);apply aM rfl<;>intro h
 ·refine ay ?_;refine zi (sa i.n) ?_;refine ah ?_;refine aq ?_;simp -dsimp only[simprocAttr,↓aa,zp,zr,Tryz.results118]
 exact af h (by omega)
theorem JF(i:Ins)(jq:i.op=8):bh Tryz.prog 118 [i.enc] (.v (.bool (cn i))):=by
 have hr:cn i=within i.n 0 255:=by
  unfold cn;rw[if_neg (by omega),if_pos (by omega)]
 rw[hr];refine zf true 0 Tryz.func118 Tryz.ntmps118 ?_;dsimp only[Tmp,TypeId,slotsOf];refine ay (ah ?_);refine cb (ah ?_);refine ai ?_;refine ay (ah ?_);apply aM rfl<;>intro h
 ·exact ab h (by omega)
 refine ay (ah ?_);apply aM rfl<;>intro h
 ·refine ay ?_;refine zi (dy i.n 0 255) ?_;refine ah ?_;refine aq ?_;simp -dsimp only[simprocAttr,↓aa,zp,zr,Tryz.results118]
 exact af h (by omega)
theorem JG(i:Ins)(jq:i.op=11):bh Tryz.prog 118 [i.enc] (.v (.bool (cn i))):=by
 have hr:cn i=within i.n 0 15:=by
  unfold cn;rw[if_neg (by omega),if_neg (by omega),if_pos (by omega)]
 rw[hr];refine zf true 0 Tryz.func118 Tryz.ntmps118 ?_;dsimp only[Tmp,TypeId,slotsOf];refine ay (ah ?_);refine cb (ah ?_);refine ai ?_;refine ay (ah ?_);apply aM rfl<;>intro h
 ·exact ab h (by omega)
 refine ay (ah ?_);apply aM rfl<;>intro h
 ·exact ab h (by omega)
 refine ay (ah ?_);apply aM rfl<;>intro h
 ·refine ay ?_;refine zi (dy i.n 0 15) ?_;refine ah ?_;refine aq ?_;simp -dsimp only[simprocAttr,↓aa,zp,zr,Tryz.results118]
 exact af h (by omega)
theorem JH(i:Ins)(jq:i.op=9∨i.op=13):bh Tryz.prog 118 [i.enc] (.v (.bool (cn i))):=by
 have hr:cn i=within i.n 0 255:=by
  unfold cn;rw[if_neg (by omega),if_neg (by omega),if_neg (by omega),if_pos (by omega)]
 rw[hr];refine zf true 0 Tryz.func118 Tryz.ntmps118 ?_;dsimp only[Tmp,TypeId,slotsOf];refine ay (ah ?_);refine cb (ah ?_);refine ai ?_;refine ay (ah ?_);apply aM rfl<;>intro h
 ·exact ab h (by omega)
 refine ay (ah ?_);apply aM rfl<;>intro h
 ·exact ab h (by omega)
 refine ay (ah ?_);apply aM rfl<;>intro h
 ·exact ab h (by omega)
 refine cb (ah ?_);refine jf (⟨51,[(1,.mp 0 0),(2,.v (.bool false)),(4,aI i.op),(20,.v (.bool true))],[.cells [aI i.to,aI i.op,aI i.n,aT i.args]]⟩) ?_ ?_
 ·apply aM rfl<;>intro h
  ·refine a6 ?_;show bd _ _;refine zq rfl ?_ ?_;simp -dsimp only[simprocAttr,↓aa,zp,zc]
   ·exact Sub.of_eq (by rw[h])
   rfl
  refine cF ?_;refine aV ?_;show bd _ _;refine zq rfl ?_ ?_;simp -dsimp only[simprocAttr,↓aa,zp,zc]
  ·exact Sub.of_eq (by rw[decide_eq_true (show i.op=13 by simp only[decide_eq_false_iff_not]at *;omega)])
  rfl
 refine cN rfl ?_;refine ay ?_;refine zi (dy i.n 0 255) ?_;refine ah ?_;refine aq ?_;simp -dsimp only[simprocAttr,↓aa,zp,zr,Tryz.results118]
theorem JI(i:Ins)(jq:i.op=23):bh Tryz.prog 118 [i.enc] (.v (.bool (cn i))):=by
 have hr:cn i=decide (i.n=1∨i.n=2∨i.n=3):=by
  unfold cn;rw[if_neg (by omega),if_neg (by omega),if_neg (by omega),if_neg (by omega),if_pos (by omega)]
 rw[hr];by_cases h1:i.n=1
 ·have lK:decide (i.n=1)=true:=decide_eq_true h1;refine zf true 0 Tryz.func118 Tryz.ntmps118 ?_;dsimp only[Tmp,TypeId,slotsOf];refine ay (ah ?_);refine cb (ah ?_);refine ai ?_;refine ay (ah ?_);apply aM rfl<;>intro h
  ·exact ab h (by omega)
  refine ay (ah ?_);apply aM rfl<;>intro h
  ·exact ab h (by omega)
  refine ay (ah ?_);apply aM rfl<;>intro h
  ·exact ab h (by omega)
  refine cb (ah ?_);apply aM rfl<;>intro h
  ·exact ab h (by omega)
  refine cF (ah ?_);apply aM rfl<;>intro h
  ·exact ab h (by omega)
  refine ay (ah ?_);apply aM rfl<;>intro h
  ·refine aS ?_;simp -dsimp only[simprocAttr,↓aa,zp,lK];refine ah ?_;refine aq ?_;simp -dsimp only[simprocAttr,↓aa,zp,zr,Tryz.results118];simp[h1]
  exact af h (by omega)
 have lK:decide (i.n=1)=false:=decide_eq_false h1;by_cases h2:i.n=2
 ·have kq:decide (i.n=2)=true:=decide_eq_true h2;refine zf true 0 Tryz.func118 Tryz.ntmps118 ?_;dsimp only[Tmp,TypeId,slotsOf];refine ay (ah ?_);refine cb (ah ?_);refine ai ?_;refine ay (ah ?_);apply aM rfl<;>intro h
  ·exact ab h (by omega)
  refine ay (ah ?_);apply aM rfl<;>intro h
  ·exact ab h (by omega)
  refine ay (ah ?_);apply aM rfl<;>intro h
  ·exact ab h (by omega)
  refine cb (ah ?_);apply aM rfl<;>intro h
  ·exact ab h (by omega)
  refine cF (ah ?_);apply aM rfl<;>intro h
  ·exact ab h (by omega)
  refine ay (ah ?_);apply aM rfl<;>intro h
  ·refine aS ?_;simp -dsimp only[simprocAttr,↓aa,zp,lK,kq];refine ah ?_;refine aq ?_;simp -dsimp only[simprocAttr,↓aa,zp,zr,Tryz.results118];simp[h2]
  exact af h (by omega)
 have kq:decide (i.n=2)=false:=decide_eq_false h2;refine zf true 0 Tryz.func118 Tryz.ntmps118 ?_;dsimp only[Tmp,TypeId,slotsOf];refine ay (ah ?_);refine cb (ah ?_);refine ai ?_;refine ay (ah ?_);apply aM rfl<;>intro h
 ·exact ab h (by omega)
 refine ay (ah ?_);apply aM rfl<;>intro h
 ·exact ab h (by omega)
 refine ay (ah ?_);apply aM rfl<;>intro h
 ·exact ab h (by omega)
 refine cb (ah ?_);apply aM rfl<;>intro h
 ·exact ab h (by omega)
 refine cF (ah ?_);apply aM rfl<;>intro h
 ·exact ab h (by omega)
 refine ay (ah ?_);apply aM rfl<;>intro h
 ·refine aS ?_;simp -dsimp only[simprocAttr,↓aa,zp,lK,kq];refine ah ?_;refine aq ?_;simp -dsimp only[simprocAttr,↓aa,zp,zr,Tryz.results118];simp[h1,h2]
 exact af h (by omega)
theorem JJ(i:Ins)(jq:i.op=24):bh Tryz.prog 118 [i.enc] (.v (.bool (cn i))):=by
 have hr:cn i=within i.n 0 3:=by
  unfold cn;rw[if_neg (by omega),if_neg (by omega),if_neg (by omega),if_neg (by omega),if_neg (by omega),if_pos (by omega)]
 rw[hr];refine zf true 0 Tryz.func118 Tryz.ntmps118 ?_;dsimp only[Tmp,TypeId,slotsOf];refine ay (ah ?_);refine cb (ah ?_);refine ai ?_;refine ay (ah ?_);apply aM rfl<;>intro h
 ·exact ab h (by omega)
 refine ay (ah ?_);apply aM rfl<;>intro h
 ·exact ab h (by omega)
 refine ay (ah ?_);apply aM rfl<;>intro h
 ·exact ab h (by omega)
 refine cb (ah ?_);apply aM rfl<;>intro h
 ·exact ab h (by omega)
 refine cF (ah ?_);apply aM rfl<;>intro h
 ·exact ab h (by omega)
 refine ay (ah ?_);apply aM rfl<;>intro h
 ·exact ab h (by omega)
 refine ay (ah ?_);apply aM rfl<;>intro h
 ·refine ay ?_;refine zi (dy i.n 0 3) ?_;refine ah ?_;refine aq ?_;simp -dsimp only[simprocAttr,↓aa,zp,zr,Tryz.results118]
 exact af h (by omega)
theorem JK(i:Ins)(jq:i.op=22):bh Tryz.prog 118 [i.enc] (.v (.bool (cn i))):=by
 have hr:cn i=true:=by
  unfold cn;rw[if_neg (by omega),if_neg (by omega),if_neg (by omega),if_neg (by omega),if_neg (by omega),if_neg (by omega),if_pos (by omega)]
 rw[hr];refine zf true 0 Tryz.func118 Tryz.ntmps118 ?_;dsimp only[Tmp,TypeId,slotsOf];refine ay (ah ?_);refine cb (ah ?_);refine ai ?_;refine ay (ah ?_);apply aM rfl<;>intro h
 ·exact ab h (by omega)
 refine ay (ah ?_);apply aM rfl<;>intro h
 ·exact ab h (by omega)
 refine ay (ah ?_);apply aM rfl<;>intro h
 ·exact ab h (by omega)
 refine cb (ah ?_);apply aM rfl<;>intro h
 ·exact ab h (by omega)
 refine cF (ah ?_);apply aM rfl<;>intro h
 ·exact ab h (by omega)
 refine ay (ah ?_);apply aM rfl<;>intro h
 ·exact ab h (by omega)
 refine ay (ah ?_);apply aM rfl<;>intro h
 ·exact ab h (by omega)
 refine ay (ah ?_);apply aM rfl<;>intro h
 ·refine ay (ah ?_);refine aq ?_;simp -dsimp only[simprocAttr,↓aa,zp,zr,Tryz.results118]
 exact af h (by omega)
theorem A6(i:Ins):bh Tryz.prog 118 [i.enc] (.v (.bool (cn i))):=by
 by_cases h0:i.op=0
 ·exact JE i h0
 by_cases h1:i.op=8
 ·exact JF i h1
 by_cases h2:i.op=11
 ·exact JG i h2
 by_cases h3:i.op=9∨i.op=13
 ·exact JH i h3
 by_cases h4:i.op=23
 ·exact JI i h4
 by_cases h5:i.op=24
 ·exact JJ i h5
 by_cases h6:i.op=22
 ·exact JK i h6
 have hr:cn i=decide (i.n=0):=by
  unfold cn;rw[if_neg (by omega),if_neg (by omega),if_neg (by omega),if_neg (by omega),if_neg (by omega),if_neg (by omega),if_neg (by omega)]
 rw[hr];refine zf true 0 Tryz.func118 Tryz.ntmps118 ?_;dsimp only[Tmp,TypeId,slotsOf];refine ay (ah ?_);refine cb (ah ?_);refine ai ?_;refine ay (ah ?_);apply aM rfl<;>intro h
 ·exact ab h (by omega)
 refine ay (ah ?_);apply aM rfl<;>intro h
 ·exact ab h (by omega)
 refine ay (ah ?_);apply aM rfl<;>intro h
 ·exact ab h (by omega)
 refine cb (ah ?_);apply aM rfl<;>intro h
 ·exact ab h (by omega)
 refine cF (ah ?_);apply aM rfl<;>intro h
 ·exact ab h (by omega)
 refine ay (ah ?_);apply aM rfl<;>intro h
 ·exact ab h (by omega)
 refine ay (ah ?_);apply aM rfl<;>intro h
 ·exact ab h (by omega)
 refine ay (ah ?_);apply aM rfl<;>intro h
 ·exact ab h (by omega)
 refine kA ?_;refine ay (ah ?_);refine aq ?_;simp -dsimp only[simprocAttr,↓aa,zp,zr,Tryz.results118]
def Ag(i:Ins)(many:Int)(known:Bool):Bool:=(!known ||(decide (0<=many)&&!decide ((i.args.length:Int)=many))) ||(decide (i.op=14)&&decide ((i.args.length:Int)=0))
def uh(i:Ins):Bool:=(decide (i.op=8) ||decide (i.op=9))&&decide ((16:Int)<i.args.length)
def Ah(i:Ins):Bool:=(decide (i.op=13) ||decide (i.op=14))&&decide ((6:Int)<i.args.length)
def kL(i:Ins):Int:=if Ag i (a8 i).1 (a8 i).2 then 3 else if uh i ||Ah i then 2 else if cn i then 0 else 4
theorem Gm(i:Ins):bh Tryz.prog 87 [i.enc] (aI (kL i)):=by
 have jq:=vZ i;have V8:=A6 i;unfold kL;generalize a8 i=r at *;obtain⟨many,known⟩:=r;simp only at jq ⊢;generalize cn i=nb at *;refine zf true 0 Tryz.func87 Tryz.ntmps87 ?_;dsimp only[Tmp,TypeId,slotsOf];refine ay (ah ?_);refine ay ?_;refine zi jq ?_;refine ah ?_;refine aH (ai ?_);refine jP (⟨68,[(1,.mp 0 0),(2,aI 0),(10,.v (.bool (Ag i many known)))],[.cells [aI i.to,aI i.op,aI i.n,aT i.args]]⟩) ?_ ?_
 ·cases known<;>cases hA:decide ((0:Int)<=many)<;>cases hB:decide ((i.args.length:Int)=many)<;>cases hC:decide (i.op=14)<;>cases hD:decide ((i.args.length:Int)=0)
  all_goals
   refine fM hT hm ?_;simp -dsimp only[simprocAttr,↓aa,zp,hA,hB,hC,hD];refine aV ?_;show bd _ _;refine zq rfl ?_ ?_;simp -dsimp only[simprocAttr,↓aa,zp,zc]
   ·exact Sub.of_eq (by unfold Ag;rw[hA,hB,hC,hD];rfl)
   rfl
 cases hfa:Ag i many known
 ·refine cd rfl ?_;refine jP (⟨68,[(1,.mp 0 0),(2,aI 0),(35,.v (.bool (uh i ||Ah i)))],[.cells [aI i.to,aI i.op,aI i.n,aT i.args]]⟩) ?_ ?_
  ·refine jP (⟨68,[(1,.mp 0 0),(2,aI 0),(35,.v (.bool (uh i)))],[.cells [aI i.to,aI i.op,aI i.n,aT i.args]]⟩) ?_ ?_
   ·cases hA:decide (i.op=8)<;>cases hB:decide (i.op=9)<;>cases hC:decide ((16:Int)<i.args.length)
    all_goals
     refine fM hT hm ?_;simp -dsimp only[simprocAttr,↓aa,zp,hA,hB,hC];refine aV ?_;show bd _ _;refine zq rfl ?_ ?_;simp -dsimp only[simprocAttr,↓aa,zp,zc]
     ·exact Sub.of_eq (by unfold uh;rw[hA,hB,hC];rfl)
     rfl
   cases Zn:uh i
   ·refine cd rfl ?_;cases hA:decide (i.op=13)<;>cases hB:decide (i.op=14)<;>cases hC:decide ((6:Int)<i.args.length)
    all_goals
     refine fM hT hm ?_;simp -dsimp only[simprocAttr,↓aa,zp,hA,hB,hC];refine aV ?_;show bd _ _;refine zq rfl ?_ ?_;simp -dsimp only[simprocAttr,↓aa,zp,zc]
     ·exact Sub.of_eq (by unfold Ah;rw[hA,hB,hC];rfl)
     rfl
   refine cN rfl ?_;refine a6 ?_;show bd _ _;refine zq rfl ?_ ?_;simp -dsimp only[simprocAttr,↓aa,zp,zc]
   ·exact Sub.refl _
   rfl
  cases Y':(uh i ||Ah i)
  ·refine cd rfl ?_;refine ay ?_;refine zi V8 ?_;refine ah ?_;cases hnb:nb
   ·refine cN rfl ?_;refine ay (ah ?_);refine aq ?_;simp -dsimp only[simprocAttr,↓aa,zp,zr,Tryz.results87]
   refine cd rfl ?_;refine kA ?_;refine ay (ah ?_);refine aq ?_;simp -dsimp only[simprocAttr,↓aa,zp,zr,Tryz.results87]
  refine cN rfl ?_;refine ay (ah ?_);refine aq ?_;simp -dsimp only[simprocAttr,↓aa,zp,zr,Tryz.results87]
 refine cN rfl ?_;refine ay (ah ?_);refine aq ?_;simp -dsimp only[simprocAttr,↓aa,zp,zr,Tryz.results87]
theorem dh{O:List al}{k:Nat}{y:al}(h:O[k]?=some y)(x:al):(O.set k x)[k]?=some x:=List.getElem?_set_self (I h)
theorem bg{O:List al}{n k:Nat}{cs ds:List ae}(h:∀o∈O,o.upto n)(hk:O[k]?=some (.cells cs))(hd:au n cs->au n ds):∀o∈O.set k (.cells ds),o.upto n :=
 bR h (hd (h _ (List.mem_of_getElem? hk)))
theorem bS{n:Nat}{u v:cf}{m p:Mach}(h:au n (az u m))(hs:p.sid=m.sid):au n (az v p):=by
 simp only[az,au,ae.upto,av,Func.ag,true_and,and_true]at h ⊢;rw[hs];exact h
theorem n7(m:Mach)(n:Int):(m.db n).sid=m.sid:=by
 unfold Mach.db;split<;>rfl
theorem uM{u:cf}{m:Mach}{O:List al}(br:∀o∈O,o.upto O.length)(h0:O[2]?=some (.cells (az u m)))(n:Int)(h1:0<=m.left)(h2:m.left<=2 ^ 40)(h3:0<=n) :
  ba Tryz.prog 82 O [.mp 2 0,aI n] (fun r O'=>r=.cK []∧O'=O.set 2 (.cells (az u (m.db n)))):=by
 have hs:=dh h0;have mJ:=bg br h0 (ds:=az u (m.db n)) (fun h=>bS h (n7 m n));have jH:=bX (O:=O) (k:=2) (x:=.cells (az u (m.db n)));unfold az at h0;by_cases hc:m.left<n
 ·have hd:decide (m.left<n)=true:=decide_eq_true hc;have hp:[a7 u.fns,aI u.main,.os m.sid m.frames.length 1,aI m.left,.v (.bool true),.v (.bool true),.aB 1 (m.out.map aI) (.tok 3),aI m.fin,aI m.val]=az u (m.db n):=by
   simp[Mach.db,hc,az]
  refine zf true O.length Tryz.func82 Tryz.ntmps82 ?_;dsimp only[Tmp,TypeId,slotsOf];refine cJ ?_;simp -dsimp only[simprocAttr,↓aa,zp,h0];refine ah ?_;apply aM rfl<;>intro h
  ·refine aS ?_;simp -dsimp only[simprocAttr,↓aa,zp,h0,hs,List.set_set,hp];refine ah ?_;refine aq ?_;simp -dsimp only[simprocAttr,↓aa,zp,zr,Tryz.results82,jH,List.length_set];exact⟨mJ,trivial⟩
  simp[hd]at h
 have hd:decide (m.left<n)=false:=decide_eq_false hc;have hp:[a7 u.fns,aI u.main,.os m.sid m.frames.length 1,aI (m.left-n),.v (.bool m.short),.v (.bool m.over),.aB 1 (m.out.map aI) (.tok 3),aI m.fin,aI m.val]=az u (m.db n):=by
  simp[Mach.db,hc,az]
 refine zf true O.length Tryz.func82 Tryz.ntmps82 ?_;dsimp only[Tmp,TypeId,slotsOf];refine cJ ?_;simp -dsimp only[simprocAttr,↓aa,zp,h0];refine ah ?_;apply aM rfl<;>intro h
 ·simp[hd]at h
 refine cm ?_;refine j4 ?_;simp -dsimp only[simprocAttr,↓aa,zp,h0,hs,List.set_set,hp]
 repeat(refine⟨by omega,?_⟩)
 refine aV ?_;simp -dsimp only[simprocAttr,↓aa,zp,zr,Tryz.results82,jH,List.length_set];exact⟨mJ,trivial⟩
theorem jZ{u:cf}{m:Mach}{O:List al}(br:∀o∈O,o.upto O.length)(h0:O[2]?=some (.cells (az u m)))(e n:Int) :
  ba Tryz.prog 114 O [.mp 2 0,aI e,aI n] (fun r O'=>r=.cK []∧O'=O.set 2 (.cells (az u (m.stop e n)))):=by
 have hs:=dh h0;have mJ:=bg br h0 (ds:=az u (m.stop e n)) (fun h=>bS h rfl);have jH:=bX (O:=O) (k:=2) (x:=.cells (az u (m.stop e n)));unfold az at h0;have hp:[a7 u.fns,aI u.main,.os m.sid m.frames.length 1,aI m.left,.v (.bool m.short),.v (.bool true),.aB 1 (m.out.map aI) (.tok 3),aI e,aI n]=az u (m.stop e n):=rfl;refine zf true O.length Tryz.func114 Tryz.ntmps114 ?_;dsimp only[Tmp,TypeId,slotsOf];refine aS ?_;simp -dsimp only[simprocAttr,↓aa,zp,h0];refine ah ?_;refine j4 ?_;simp -dsimp only[simprocAttr,↓aa,zp,hs,List.set_set,hp];refine aV ?_;simp -dsimp only[simprocAttr,↓aa,zp,zr,Tryz.results114,jH,List.length_set];exact⟨mJ,trivial⟩
theorem lS{sz:Nat}{xs:List ae}(h:∀x∈xs,x.cells.length=sz){k:Nat}(hk:k<xs.length){y:ae}(hy:y.cells.length=sz):bk (ao xs) (k*sz) y.cells=ao (xs.set k y):=by
 induction xs generalizing k with
 | nil=>simp at hk
 | cons p r ih =>
  have hp:=h p (by simp);cases k with
  | zero =>
   simp only[List.set_cons_zero,ao,List.flatMap_cons,bk,Nat.zero_mul,List.take_zero,List.nil_append,Nat.zero_add,hy];rw[List.drop_append_of_le_length (by omega),List.drop_of_length_le (by omega)];rfl
  | succ k =>
   have:=ih (fun x hx=>h x (by simp[hx])) (k:=k) (by simpa using hk);have e1:(k+1)*sz-sz=k*sz:=by rw[Nat.succ_mul];omega
   have e2:(k+1)*sz+sz-sz=k*sz+sz:=by rw[Nat.succ_mul];omega
   have e3:sz<=(k+1)*sz:=by rw[Nat.succ_mul];omega
   simp only[List.set_cons_succ,ao,List.flatMap_cons,bk,hy]at this ⊢;rw[List.take_append,List.drop_append,hp,List.take_of_length_le (by omega),List.drop_of_length_le (by omega),e1,e2,List.nil_append,List.append_assoc,this]
def jv(es:List (Int×SV))(k:Int):ae:=(Option.map SV.enc (gl es k)).getD (.agg [aI 0,aI 0,.aB 4 [] .ex,.v (.pointer none)])
theorem uS(es:List (Int×SV))(k:Int):(jv es k).share=(eO es k).enc:=by
 unfold jv eO;cases gl es k with
 | none=>rfl
 | some v=>exact v.ak
theorem fb(es:List (Int×SV))(k:Int):(jv es k).cells.length=4:=by
 unfold jv;cases gl es k with
 | none=>rfl
 | some v=>exact v.cV
theorem iU(es:List (Int×SV))(k:Int):(jv es k).flat:=by
 unfold jv;cases gl es k with
 | none=>trivial
 | some v=>exact v.ar
def qM(es:List (Int×SV))(l:List Int)(k:Nat):List ae:=(l.take k).map (jv es)++List.replicate (l.length-k) (.agg [aI 0,aI 0,.aB 4 [] .ex,.v (.pointer none)])
theorem uW{es:List (Int×SV)}{l:List Int}{k:Nat}(h:k<=l.length):(qM es l k).length=l.length:=by
 simp[qM];omega
theorem pE{es:List (Int×SV)}{l:List Int}{k:Nat}:∀x∈qM es l k,x.cells.length=4:=fun x hx=>by
 simp only[qM,List.mem_append,List.mem_map,List.mem_replicate]at hx;rcases hx with⟨v,_,rfl⟩|⟨_,rfl⟩
 ·exact fb es v
 rfl
theorem Hs(es:List (Int×SV))(l:List Int):ao (qM es l 0)=(List.replicate l.length [aI 0,aI 0,.aB 4 [] .ex,.v (.pointer none)]).flatten:=by
 simp[qM,ao,List.flatMap,ae.cells]
theorem Hr{es:List (Int×SV)}{l:List Int}{k:Nat}{v:Int}(h:l[k]?=some v):(qM es l k).set k (jv es v)=qM es l (k+1):=by
 have aZ:=I h;obtain⟨j,hj⟩:∃j,l.length-k=j+1:=⟨l.length-k-1,by omega⟩
 have e:l.take (k+1)=l.take k++[v]:=by rw[List.take_add_one,h];rfl
 have ek:((l.take k).map (jv es)).length=k:=by simp;omega
 unfold qM;rw[e,hj,show l.length-(k+1)=j by omega,List.set_append_right _ _ (by omega),ek,Nat.sub_self];simp[List.replicate_succ]
theorem J4(es:List (Int×SV))(l:List Int):(ao (qM es l l.length)).map ae.bo=ao ((cx es l).map SV.enc):=by
 rw[<-ik];simp only[qM,Nat.sub_self,List.replicate_zero,List.append_nil,List.take_length,cx,List.map_map];congr 1;apply List.map_congr_left;intro v _;exact uS es v
theorem iN{es:List (Int×SV)}{n:Nat}(h:∀e∈es,SV.bc n e.2)(k:Int):SV.bc n (eO es k):=by
 unfold eO;cases hl:gl es k with
 | none=>exact .mk (by simp) (by simp)
 | some v =>
  obtain⟨e,h1,rfl⟩:=xa hl;exact h e h1
theorem nw{es:List (Int×SV)}{n:Nat}(h:∀e∈es,SV.bc n e.2)(l:List Int):∀v∈cx es l,SV.bc n v:=fun v hv=>by
 obtain⟨k,_,rfl⟩:=List.mem_map.1 hv;exact iN h k
theorem iW{f:Fr}{O:List al}(br:∀o∈O,o.upto O.length)(hf:O[f.bL]?=some (.cells (aQ f)))(hv:O[f.c8]?=some (.map (.int .i64) (f.vals.map gd)))(hu:∀e∈f.vals,SV.bc O.length e.2)(l:List Int)(hl:l.length<=4096) :
  ba Tryz.prog 113 O [.mp f.bL 0,aT l] (fun r O'=>r=.aB 4 ((cx f.vals l).map SV.enc) .sh∧O'=O):=by
 have dS:=SV.ag (nw hu l);have gp:∀X:List al,(O++X)[f.bL]?=some (.cells (aQ f)):=fun X=>cj hf;have RH:∀X:List al,(O++X)[f.c8]?=some (.map (.int .i64) (f.vals.map gd)):=fun X=>cj hv;unfold aQ at gp;refine zf true O.length Tryz.func113 Tryz.ntmps113 ?_;dsimp only[Tmp,TypeId,slotsOf];refine ay (ah ?_);refine ay ?_
 repeat(refine⟨by omega,?_⟩)
 refine ah ?_;refine cb (ah ?_);refine ai (aO (ι:={k:Nat // k<=l.length}) (fun k=>⟨29,[(0,.mp f.bL 0),(5,.ms O.length 0 l.length l.length),(11,aT l),(12,aI l.length),(13,aI k.1)],O++[.cells (ao (qM f.vals l k.1))]⟩) (fun k=>l.length-k.1) ⟨0,by omega⟩ ?_ ?_)
 ·refine zq rfl ?_ ?_;simp -dsimp only[simprocAttr,↓aa,zp,zc];rw[Hs]
 rintro⟨k,hk⟩;refine ay (ah ?_);apply ib rfl<;>intro h
 ·refine cm ?_;have aZ:k<l.length:=by simpa using h
  obtain⟨v,s8⟩:∃v,l[k]?=some v:=⟨l[k],by simp[aZ]⟩
  have pk:(Option.map SV.enc (gl f.vals v)).getD (.agg [aI 0,aI 0,.aB 4 [] .ex,.v (.pointer none)])=jv f.vals v:=rfl;have de:=ca (pE (es:=f.vals) (l:=l) (k:=k));rw[uW hk]at de;have gh:=lS (pE (es:=f.vals) (l:=l) (k:=k)) (k:=k) (by rw[uW hk];exact aZ) (fb f.vals v);rw[Hr s8]at gh;have hn:=eK O (al.cells (ao (qM f.vals l k)));have dz:=fun y=>u7 O (al.cells (ao (qM f.vals l k))) y;refine aH (ai ?_);refine aS ?_;simp -dsimp only[simprocAttr,↓aa,zp,s8];refine ah ?_;refine j4 ?_;simp -dsimp only[simprocAttr,↓aa,zp,gp,RH,lv,pk,hn,dz,iU,fb,de,gh]
  repeat(refine⟨by omega,?_⟩)
  refine ah ?_;refine cF ?_
  repeat(refine⟨by omega,?_⟩)
  refine fw ?_;refine⟨⟨k+1,aZ⟩,by simp;omega,?_⟩;refine zq rfl ?_ ?_;simp -dsimp only[simprocAttr,↓aa,zp,zc]
  ·exact Sub.int (by simp)
  rfl
 refine aG ?_;simp -dsimp only[bD,ne_eq,Nat.reduceEqDiff,reduceCtorEq];have gU:k=l.length:=by simp at h;omega
 subst gU;refine Cj 5 (sz:=4) ((cx f.vals l).map SV.enc) [(5,.aB 4 ((cx f.vals l).map SV.enc) .sh)] rfl ?_ ?_ ?_ (by omega) (by simp[bq,aY,Go.Av.look]) ?_ ?_ ?_
 ·intro x hx;obtain⟨y,_,rfl⟩:=List.mem_map.1 hx;exact y.cV
 ·simp[cx]
 ·rw[<-J4,List.take_of_length_le];rw[ca pE,uW hk];exact Nat.le_refl _
 ·exact br
 ·intro p hp;simp only[List.mem_singleton]at hp;subst hp;exact⟨dS,trivial⟩
 refine ay (ah ?_);refine aq ?_;simp -dsimp only[simprocAttr,↓aa,zp,zr,Tryz.results113,List.take_length];exact⟨br,dS⟩
theorem cI(n:Int):bh Tryz.prog 132 [aI n] (SV.word n).enc:=by
 refine zf true 0 Tryz.func132 Tryz.ntmps132 ?_;dsimp only[Tmp,TypeId,slotsOf];refine ay (ah ?_);refine ay (ah ?_);refine aq ?_;simp -dsimp only[simprocAttr,↓aa,zp,zr,Tryz.results132];simp[SV.word,SV.jC,eP,au,ae.upto]
theorem vc(b:Bool):bh Tryz.prog 151 [.v (.bool b)] (SV.word (if b then 1 else 0)).enc:=by
 have h1:=cI 1;have h0:=cI 0;have c1:(SV.word 1).enc.cells=[aI 0,aI 1,.aB 4 [] .sh,.v (.pointer none)]:=rfl;have c0:(SV.word 0).enc.cells=[aI 0,aI 0,.aB 4 [] .sh,.v (.pointer none)]:=rfl;refine zf true 0 Tryz.func151 Tryz.ntmps151 ?_;dsimp only[Tmp,TypeId,slotsOf];refine ay (ah ?_);refine cb (ah ?_);apply aM rfl<;>intro h
 ·refine ay ?_;refine .inl ⟨_,h1,by simp only[au,ae.upto,zt],an ?_⟩;simp -dsimp only[simprocAttr,↓aa,zp,c1];refine ah ?_;refine aq ?_;simp -dsimp only[simprocAttr,↓aa,zp,zr,Tryz.results151];subst h;exact⟨by simp[au,ae.upto],rfl⟩
 refine cm ?_;refine ay ?_;refine .inl ⟨_,h0,by simp only[au,ae.upto,zt],an ?_⟩;simp -dsimp only[simprocAttr,↓aa,zp,c0];refine ah ?_;refine aq ?_;simp -dsimp only[simprocAttr,↓aa,zp,zr,Tryz.results151];subst h;exact⟨by simp[au,ae.upto],rfl⟩
theorem H8{O:List al}(br:∀o∈O,o.upto O.length)(l:List SV)(hl:∀v∈l,SV.bc O.length v)(k:Int):ba Tryz.prog 133 O [.aB 4 (l.map SV.enc) .sh,aI k] (fun r O'=>r=.v (.bool (j5 l k))∧O'=O):=by
 refine zf true O.length Tryz.func133 Tryz.ntmps133 ?_;dsimp only[Tmp,TypeId,slotsOf];refine ay (ah ?_);refine cb (ah ?_);refine fp 7 rfl (fun hlen=>?_);simp only[List.length_map]at hlen;refine ai (aO (ι:={j:Nat // j<=l.length∧∀v∈l.take j,v.kind=k}) (fun j=>⟨18,[(1,aI k),(4,.v (.bool false)),(7,.aB 4 (l.map SV.enc) .sh),(8,aI l.length),(9,aI j.1)],O⟩) (fun j=>l.length-j.1) ⟨0,by omega,by simp⟩ ?_ ?_)
 ·refine zq rfl ?_ ?_;simp -dsimp only[simprocAttr,↓aa,zp,zc];rfl
 rintro⟨j,hj,cA⟩;refine ay (ah ?_);apply ib rfl<;>intro h
 ·refine cm ?_;have aZ:j<l.length:=by simpa using h
  obtain⟨v,hv⟩:∃v,l[j]?=some v:=⟨l[j],by simp[aZ]⟩
  have oC:=(hl v (List.mem_of_getElem? hv)).aL;rw[SV.fu]at oC;refine aH (ai ?_);refine aS ?_;simp -dsimp only[simprocAttr,↓aa,zp,hv];refine ah ?_;refine aJ 6 ([aI v.kind,aI v.n,.aB 4 (v.list.map SV.enc) .sh,eP v.arr]) [(1,aI k),(4,.v (.bool false)),(6,.ip none [aI v.kind,aI v.n,.aB 4 (v.list.map SV.enc) .sh,eP v.arr]),(7,.aB 4 (l.map SV.enc) .sh),(8,aI l.length),(9,aI j)] rfl (by simp only[List.map_cons,List.map_nil,cy,b8,dw,dx,dv,dt,du,cr]) (by omega) (by simp[bq,aY,Go.Av.look]) ?_ ?_ ?_
  ·exact br
  ·intro p hp;simp only[List.mem_cons,List.mem_nil_iff,or_false]at hp;have ZF:=SV.ag hl;rcases hp with rfl|rfl|rfl|rfl|rfl|rfl
   ·trivial
   ·trivial
   ·exact oC
   ·exact⟨ZF,trivial⟩
   ·trivial
   trivial
  refine ay (ah ?_);apply aM rfl<;>intro h
  ·refine ay (ah ?_);refine aq ?_;simp -dsimp only[simprocAttr,↓aa,zp,zr,Tryz.results133];have hk:v.kind≠k:=by simpa using h
   refine⟨br,?_⟩;have:j5 l k=false:=by
    simp only[j5,List.all_eq_false,decide_eq_true_eq];exact⟨v,List.mem_of_getElem? hv,hk⟩
   rw[this]
  refine kA ?_;have hk:v.kind=k:=by simpa using h
  refine cF ?_
  repeat(refine⟨by omega,?_⟩)
  refine fw ?_;refine⟨⟨j+1,aZ,fun w hw=>?_⟩,by simp;omega,?_⟩
  ·rw[List.take_add_one,hv]at hw;simp only[Option.toList_some,List.mem_append,List.mem_singleton]at hw;rcases hw with hw|rfl
   ·exact cA w hw
   exact hk
  refine zq rfl ?_ ?_;simp -dsimp only[simprocAttr,↓aa,zp,zc]
  ·exact Sub.int (by simp)
  rfl
 refine aG ?_;simp -dsimp only[bD,ne_eq,Nat.reduceEqDiff,reduceCtorEq];have gU:j=l.length:=by simp at h;omega
 subst gU;refine ay (ah ?_);refine aq ?_;simp -dsimp only[simprocAttr,↓aa,zp,zr,Tryz.results133];rw[List.take_length]at cA;refine⟨br,?_⟩;have:j5 l k=true:=by
  simp only[j5,List.all_eq_true,decide_eq_true_eq];exact cA
 rw[this]
theorem xI{O:List al}(br:∀o∈O,o.upto O.length)(l:List SV)(hl:∀v∈l,SV.bc O.length v)(k:Int)(X:List al):ba Tryz.prog 133 (O++X) [.aB 4 (l.map SV.enc) .sh,aI k] (fun r O'=>r=.v (.bool (j5 l k))∧O'=O++X) :=
 ba.frame (H8 br l hl k) rfl ⟨⟨SV.ag hl,trivial⟩,trivial,trivial⟩ br X
theorem da(n:Int):(SV.word n).enc.cells=[aI 0,aI n,.aB 4 [] .sh,.v (.pointer none)]:=rfl
theorem vk(k:Nat)(n:Int):SV.bc k (SV.word n):=.mk (by simp) (by simp)
theorem pJ(k:Nat):SV.bc k SV.zero:=.mk (by simp) (by simp)
theorem kQ{k:Nat}{n m:Int}:au k [(SV.word n).enc,.v (.int .i64 m)]:=⟨(vk k n).aL,trivial,trivial⟩
theorem fg{k:Nat}{m:Int}:au k [SV.zero.enc,.v (.int .i64 m)]:=⟨(pJ k).aL,trivial,trivial⟩
theorem eL(n:Int):ae.agg [aI 0,aI n,.aB 4 [] .sh,.v (.pointer none)]=(SV.word n).enc:=rfl
theorem ck:ae.agg [aI 0,aI 0,.aB 4 [] .sh,.v (.pointer none)]=SV.zero.enc:=rfl
theorem rW(op a b:Int)(ha:fG a)(hb:fG b):bh Tryz.prog 134 [aI op,aI a,aI b] (.cK [(cX op a b).1.enc,aI (cX op a b).2]):=by
 have q1:=H7 a b ha hb;have q2:=Kh a b ha hb;have q3:=JC a b ha hb;have q4:=fun h=>IA a b ha hb h;have q5:=fun h=>JA a b ha hb h;refine zf true 0 Tryz.func134 Tryz.ntmps134 ?_;dsimp only[Tmp,TypeId,slotsOf];refine ay (ah ?_);refine cb (ah ?_);refine ai ?_;refine ay (ah ?_);apply aM rfl<;>intro h
 ·have e:op=1:=by simpa using h
  refine ay ?_;refine .inl ⟨_,q1,by simp only[au,ae.upto,zt],an ?_⟩;refine .inl ⟨_,cI _,by simp[au,ae.upto,tj],an ?_⟩;simp -dsimp only[simprocAttr,↓aa,zp,da];refine ah ?_;refine aq ?_;simp -dsimp only[simprocAttr,↓aa,zp,zr,Tryz.results134,eL];simp[cX,e,kQ]
 have e1:op≠1:=by simpa using h
 refine ay (ah ?_);apply aM rfl<;>intro h
 ·have e:op=2:=by simpa using h
  refine ay ?_;refine .inl ⟨_,q2,by simp only[au,ae.upto,zt],an ?_⟩;refine .inl ⟨_,cI _,by simp[au,ae.upto,tj],an ?_⟩;simp -dsimp only[simprocAttr,↓aa,zp,da];refine ah ?_;refine aq ?_;simp -dsimp only[simprocAttr,↓aa,zp,zr,Tryz.results134,eL];simp[cX,e,kQ]
 have e2:op≠2:=by simpa using h
 refine ay (ah ?_);apply aM rfl<;>intro h
 ·have e:op=3:=by simpa using h
  refine ay ?_;refine .inl ⟨_,q3,by simp only[au,ae.upto,zt],an ?_⟩;refine .inl ⟨_,cI _,by simp[au,ae.upto,tj],an ?_⟩;simp -dsimp only[simprocAttr,↓aa,zp,da];refine ah ?_;refine aq ?_;simp -dsimp only[simprocAttr,↓aa,zp,zr,Tryz.results134,eL];simp[cX,e,kQ]
 have e3:op≠3:=by simpa using h
 refine ay (ah ?_);apply aM rfl<;>intro h
 ·have e:op=6:=by simpa using h
  refine ay ?_;refine .inl ⟨_,vc _,by simp only[au,ae.upto,zt],an ?_⟩;simp -dsimp only[simprocAttr,↓aa,zp,da];refine ah ?_;refine aq ?_;simp -dsimp only[simprocAttr,↓aa,zp,zr,Tryz.results134,eL];simp[cX,e,kQ]
 have e6:op≠6:=by simpa using h
 refine ay (ah ?_);apply aM rfl<;>intro h
 ·have e:op=7:=by simpa using h
  refine ay ?_;refine .inl ⟨_,vc _,by simp only[au,ae.upto,zt],an ?_⟩;simp -dsimp only[simprocAttr,↓aa,zp,da];refine ah ?_;refine aq ?_;simp -dsimp only[simprocAttr,↓aa,zp,zr,Tryz.results134,eL];simp[cX,e,kQ]
 have e7:op≠7:=by simpa using h
 refine kA ?_;refine cb (ah ?_);apply aM rfl<;>intro h
 ·have e:b=0:=by simpa using h
  refine ay (ah ?_);refine aq ?_;simp -dsimp only[simprocAttr,↓aa,zp,zr,Tryz.results134,ck];simp[cX,e1,e2,e3,e6,e7,e,fg]
 have e0:b≠0:=by simpa using h
 refine cm ?_;refine cb (ah ?_);apply aM rfl<;>intro h
 ·have e:op=4:=by simpa using h
  refine ay ?_;refine zi (q4 e0) ?_;refine ah ?_;refine ay ?_;refine .inl ⟨_,cI _,by simp only[au,ae.upto,zt],an ?_⟩;simp -dsimp only[simprocAttr,↓aa,zp,da];refine ah ?_;refine aq ?_;simp -dsimp only[simprocAttr,↓aa,zp,zr,Tryz.results134,eL];simp[cX,e,kQ,e0]
 have e4:op≠4:=by simpa using h
 refine cm ?_;refine ay ?_;refine zi (q5 e0) ?_;refine ah ?_;refine ay ?_;refine .inl ⟨_,cI _,by simp only[au,ae.upto,zt],an ?_⟩;simp -dsimp only[simprocAttr,↓aa,zp,da];refine ah ?_;refine aq ?_;simp -dsimp only[simprocAttr,↓aa,zp,zr,Tryz.results134,eL];simp[cX,e1,e2,e3,e4,e6,e7,kQ,e0]
theorem fo{l:List SV}{k:Nat}{v:SV}(h:l[k]?=some v):bW l k=v:=by simp[bW,h]
theorem uU{k:Nat}{v:SV}{m:Int}(h:SV.bc k v):au k [v.enc,.v (.int .i64 m)]:=⟨h.aL,trivial,trivial⟩
theorem mq{k:Nat}{v:SV}(h:SV.bc k v):∀x∈v.list,SV.bc k x:=by cases h;assumption
theorem A7{O:List al}(br:∀o∈O,o.upto O.length)(i:Ins)(args:List SV)(hl:∀v∈args,SV.bc O.length v)(o:SV)(h0:args[0]?=some o)
  (hp:i.op≠10->i.op≠11->i.op≠12->∃p,args[1]?=some p) (hn:i.op=11->0<=i.n) :
  ba Tryz.prog 135 O [i.enc,.aB 4 (args.map SV.enc) .sh] (fun r O'=>r=.cK [(cG i args).1.enc,aI (cG i args).2]∧O'=O):=by
 have UN:=hl o (List.mem_of_getElem? h0);have ha:=fo h0;refine zf true O.length Tryz.func135 Tryz.ntmps135 ?_;dsimp only[Tmp,TypeId,slotsOf];refine ay (ah ?_);refine aS ?_;simp -dsimp only[simprocAttr,↓aa,zp,h0];refine ah ?_;refine aH (ai ?_);refine ay (ah ?_);apply aM rfl<;>intro h
 ·have e:i.op=11:=by simpa using h
  by_cases hk:o.kind=1∨o.kind=2
  ·have hd:(decide (o.kind=1)=true)∨(decide (o.kind=1)=false∧decide (o.kind=2)=true):=by
    rcases hk with hk|hk
    ·exact .inl (decide_eq_true hk)
    exact .inr ⟨decide_eq_false (by omega),decide_eq_true hk⟩
   have UL:¬(o.kind≠1∧o.kind≠2):=by omega
   have AI:=hn e;by_cases hlen:(o.list.length:Int)<=i.n
   ·have lZ:decide ((o.list.length:Int)<=i.n)=true:=decide_eq_true hlen;rcases hd with hd|⟨hd,kq⟩
    ·refine cJ ?_;simp -dsimp only[simprocAttr,↓aa,zp,hd,lZ];refine ah ?_;refine cN rfl ?_;refine ay (ah ?_);refine aq ?_;simp -dsimp only[simprocAttr,↓aa,zp,zr,Tryz.results135,ck];refine⟨br,fg,?_⟩;simp[cG,e,ha,hlen]
    refine cJ ?_;simp -dsimp only[simprocAttr,↓aa,zp,hd,kq,lZ];refine ah ?_;refine cN rfl ?_;refine ay (ah ?_);refine aq ?_;simp -dsimp only[simprocAttr,↓aa,zp,zr,Tryz.results135,ck];refine⟨br,fg,?_⟩;simp[cG,e,ha,hlen]
   have lZ:decide ((o.list.length:Int)<=i.n)=false:=decide_eq_false hlen;obtain⟨x,hx⟩:∃x,o.list[i.n.toNat]?=some x:=⟨o.list[i.n.toNat]'(by omega),List.getElem?_eq_getElem _⟩
   have EZ:=mq UN x (List.mem_of_getElem? hx);have qq:=fo hx;rcases hd with hd|⟨hd,kq⟩
   ·refine cJ ?_;simp -dsimp only[simprocAttr,↓aa,zp,hd,lZ];refine ah ?_;refine cd rfl ?_;refine cm ?_;refine aS ?_;simp -dsimp only[simprocAttr,↓aa,zp,hx]
    repeat(refine⟨by omega,?_⟩)
    refine ah ?_;refine aq ?_;simp -dsimp only[simprocAttr,↓aa,zp,zr,Tryz.results135];refine⟨br,uU EZ,?_⟩;simp[cG,e,ha,hlen,qq,UL]
   refine cJ ?_;simp -dsimp only[simprocAttr,↓aa,zp,hd,kq,lZ];refine ah ?_;refine cd rfl ?_;refine cm ?_;refine aS ?_;simp -dsimp only[simprocAttr,↓aa,zp,hx]
   repeat(refine⟨by omega,?_⟩)
   refine ah ?_;refine aq ?_;simp -dsimp only[simprocAttr,↓aa,zp,zr,Tryz.results135];refine⟨br,uU EZ,?_⟩;simp[cG,e,ha,hlen,qq,UL]
  have Lb:decide (o.kind=1)=false:=decide_eq_false (by omega);have OB:decide (o.kind=2)=false:=decide_eq_false (by omega);have UL:o.kind≠1∧o.kind≠2:=by omega
  refine cJ ?_;simp -dsimp only[simprocAttr,↓aa,zp,Lb,OB];refine ah ?_;refine cN rfl ?_;refine ay (ah ?_);refine aq ?_;simp -dsimp only[simprocAttr,↓aa,zp,zr,Tryz.results135,ck];refine⟨br,fg,?_⟩;simp[cG,e,ha,UL]
 have Rj:i.op≠11:=by simpa using h
 refine ay (ah ?_);apply aM rfl<;>intro h
 ·have hk:o.kind≠1:=by simpa using h
  refine ay (ah ?_);refine aq ?_;simp -dsimp only[simprocAttr,↓aa,zp,zr,Tryz.results135,ck];refine⟨br,fg,?_⟩;simp[cG,Rj,ha,hk]
 have hk:o.kind=1:=by simpa using h
 refine ay (ah ?_);apply aM rfl<;>intro h
 ·have Pr:i.op=10:=by simpa using h
  refine ay ?_;refine .inl ⟨_,cI o.n,by simp only[au,ae.upto,zt],an ?_⟩;simp -dsimp only[simprocAttr,↓aa,zp,da];refine ah ?_;refine aq ?_;simp -dsimp only[simprocAttr,↓aa,zp,zr,Tryz.results135,eL];refine⟨br,kQ,?_⟩;simp[cG,Pr,ha,hk]
 have Pr:i.op≠10:=by simpa using h
 refine ay (ah ?_);apply aM rfl<;>intro h
 ·have Ps:i.op=12:=by simpa using h
  refine ay ?_;refine .inl ⟨_,cI o.list.length,by simp only[au,ae.upto,zt],an ?_⟩;simp -dsimp only[simprocAttr,↓aa,zp,da];refine ah ?_;refine aq ?_;simp -dsimp only[simprocAttr,↓aa,zp,zr,Tryz.results135,eL];refine⟨br,kQ,?_⟩;simp[cG,Ps,ha,hk]
 have Ps:i.op≠12:=by simpa using h
 obtain⟨p,h1⟩:=hp Pr Rj Ps;have hb:=fo h1;refine aS ?_;simp -dsimp only[simprocAttr,↓aa,zp,h1];refine ah ?_;apply aM rfl<;>intro h
 ·have vR:p.kind≠0:=by simpa using h
  refine ay (ah ?_);refine aq ?_;simp -dsimp only[simprocAttr,↓aa,zp,zr,Tryz.results135,ck];refine⟨br,fg,?_⟩;simp[cG,Pr,Rj,Ps,ha,hb,hk,vR]
 have vR:p.kind=0:=by simpa using h
 by_cases hZ:p.n<0
 ·have lZ:decide (p.n<0)=true:=decide_eq_true hZ;refine aS ?_;simp -dsimp only[simprocAttr,↓aa,zp,h1,lZ];refine⟨ob (by kernel_rfl),?_⟩;refine ah ?_;refine cN rfl ?_;refine ay (ah ?_);refine aq ?_;simp -dsimp only[simprocAttr,↓aa,zp,zr,Tryz.results135,ck];refine⟨br,fg,?_⟩;simp[cG,Pr,Rj,Ps,ha,hb,hk,vR,hZ]
 have lZ:decide (p.n<0)=false:=decide_eq_false hZ;by_cases hlen:(o.list.length:Int)<=p.n
 ·have BP:decide ((o.list.length:Int)<=p.n)=true:=decide_eq_true hlen;refine aS ?_;simp -dsimp only[simprocAttr,↓aa,zp,h1,lZ,BP];refine⟨ob (by kernel_rfl),?_⟩;refine ah ?_;refine cN rfl ?_;refine ay (ah ?_);refine aq ?_;simp -dsimp only[simprocAttr,↓aa,zp,zr,Tryz.results135,ck];refine⟨br,fg,?_⟩;simp[cG,Pr,Rj,Ps,ha,hb,hk,vR,hZ,hlen]
 have BP:decide ((o.list.length:Int)<=p.n)=false:=decide_eq_false hlen;obtain⟨x,hx⟩:∃x,o.list[p.n.toNat]?=some x:=⟨o.list[p.n.toNat]'(by omega),List.getElem?_eq_getElem _⟩
 have EZ:=mq UN x (List.mem_of_getElem? hx);have qq:=fo hx;refine aS ?_;simp -dsimp only[simprocAttr,↓aa,zp,h1,lZ,BP];refine⟨ob (by kernel_rfl),?_⟩;refine ah ?_;refine cd rfl ?_;refine kA ?_;refine aS ?_;simp -dsimp only[simprocAttr,↓aa,zp,h1,hx]
 repeat(refine⟨by omega,?_⟩)
 refine⟨ob (by kernel_rfl),?_⟩;refine ah ?_;refine aq ?_;simp -dsimp only[simprocAttr,↓aa,zp,zr,Tryz.results135];refine⟨br,uU EZ,?_⟩;simp[cG,Pr,Rj,Ps,ha,hb,hk,vR,hZ,hlen,qq]
end Go.Proofs.YtjdnhamngpafmaaGreat
