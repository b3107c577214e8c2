/-
  Texts bound together by a program of mine: YtakdmelemfnmdaaAvu, YtakdmelemfnmdaaAvl, YtakdmelemfnmdaaAvm, YtjdnhamngpafmaaGreatTab, YtjdnhamngpafmaaGreatPa, YtjdnhamngpafmaaGreatPb, YtjdnhamngpafmaaGreatPm, YtjdnhamngpafmaaGreatPr, YtakdmelemfnmdaaAvn, YtakdmelemfnmdaaAvo, YtakdmelemfnmdaaAvq, YtakdmelemfnmdaaAvp, YtakdmelemfnmdaaAvs, YtakdmelemfnmdaaAvt, YtakdmelemfnmdaaAvz, YtakdmelemfnmdaaAvw, YtjdnhamngpafmaaGreatPd, YtjdnhamngpafmaaGreatPdz, YtjdnhamngpafmaaGreatPe, YtjdnhamngpafmaaGreatT1, YtjdnhamngpafmaaGreatT2, YtjdnhamngpafmaaGreatT3, YtjdnhamngpafmaaGreatT30, YtjdnhamngpafmaaGreatPo, YtjdnhamngpafmaaGreatT24, YtjdnhamngpafmaaGreatT25, YtjdnhamngpafmaaGreatT4, YtjdnhamngpafmaaGreatT5, YtjdnhamngpafmaaGreatT6, YtjdnhamngpafmaaGreatT7, YtjdnhamngpafmaaGreatT8.
-/
import Derived.Test.YtjdnhamngpafmaaGreatB1
import Derived.ChangeKeysEq
import Derived.Laws.StructEq
import Derived.Test.YtjdnhamngpafmaaGreatChecked
import Derived.KernelRfl
import Derived.ProofKit
import Derived.Carry
import Derived.SizedLaws
import Derived.Deep.Slices
import Derived.JoinedOf
set_option linter.all false
set_option maxRecDepth 100000
set_option maxHeartbeats 4000000

namespace Go.Av
theorem pH{P:Program}{aT:eh}(hT:b7 P aT){t e:TypeId}{n:Nat}{ti:cc}(ht:aT t=some ti)(aR:ti.desc=.array n e):P.underlying t=some (.array n e):=by
 obtain⟨_,d,h1,h2⟩:=hT t ti ht;rw[aR]at h2;simp only[rX]at h2;rw[h1,h2]
theorem pP{P:Program}{aT:eh}(hT:b7 P aT){o:Oper}{σ:St}{t e:TypeId}{x i:Operand}{ti te:cc}{id off len:Nat}{k:IntKind}{n:Int}
  (ho:o.op=.indexAddr t x i) (hd:∀d,o.dst=some d->d<σ.n) (ht:aT t=some ti) (aR:ti.desc=.array len e) (he:aT e=some te)
  (hx:σ.ev x=some (.mp id off)) (hi:σ.ev i=some (.v (.int k n))) (h0:0<=n) (hn:n<len):Cert P o σ (.mp id (off+n.toNat*te.size)) .pure :=
 Cert.bN .pure (.inl rfl) hd fun a g _ h _=>by
  have ei:=(h i (by simp[ho,Op.operands]) _ hi).bX.1;have hu:=pH hT ht aR;obtain⟨l,o1,h1,h2,h3,eu⟩:=(h x (by simp[ho,Op.operands]) _ hx).mU;exact⟨.pointer (some ⟨l.block,off+n.toNat*te.size,none⟩),by simp[execOp,ho,ei,eu,Instr.indexAt,Instr.sureAddr,asIntOf,run_underlying hu,h0,hn,(hT e te he).sizeOf,addr_add],.mp h1 h2 h3⟩
theorem nr{P:Program}{aT:eh}(hT:b7 P aT){o:Oper}{σ:St}{t e:TypeId}{x i:Operand}{ti te:cc}{len:Nat}{oa:Option Addr}{cs:List ae}{k:IntKind}{n:Int}
  (ho:o.op=.indexAddr t x i) (hd:∀d,o.dst=some d->d<σ.n) (ht:aT t=some ti) (aR:ti.desc=.array len e) (he:aT e=some te)
  (hx:σ.ev x=some (.ip oa cs)) (hi:σ.ev i=some (.v (.int k n))) (h0:0<=n) (hn:n<len):Cert P o σ (.ip none (cs.drop (n.toNat*te.size))) .pure :=
 Cert.bN .pure (.inl rfl) hd fun a g _ h _=>by
  have ei:=(h i (by simp[ho,Op.operands]) _ hi).bX.1;have hu:=pH hT ht aR;obtain⟨b,off,f,eu,_,dk,hm,hr⟩:=(h x (by simp[ho,Op.operands]) _ hx).nZ;refine⟨.pointer (some ⟨b,off+n.toNat*te.size,none⟩),by simp[execOp,ho,ei,eu,Instr.indexAt,Instr.sureAddr,asIntOf,run_underlying hu,h0,hn,(hT e te he).sizeOf,addr_add],
   .ip (.inl rfl) (fun c hc=>dk c (List.mem_of_mem_drop hc)) (fun j=>f (n.toNat*te.size+j)) (fun j c hj=>?_) (fun j c hj=>?_)⟩
  ·rw[List.getElem?_drop]at hj;have:=hm _ c hj;rw[<-Nat.add_assoc]at this;exact this
  rw[List.getElem?_drop]at hj;exact hr _ c hj
theorem uz{P:Program}{aT:eh}(hT:b7 P aT){o:Oper}{σ:St}{t e:TypeId}{parts:Array (Nat×Operand)}{n:Nat}{ti te:cc}{ps:List (Nat×ae)}{cs:List ae}
  (ho:o.op=.build t parts) (hd:∀d,o.dst=some d->d<σ.n) (ht:aT t=some ti) (aR:ti.desc=.array n e) (he:aT e=some te) (xB:σ.eL parts.toList=some ps) (gG:∀p∈ps,p.2.flat)
  (fw:iH (fun i=>some (i*te.size,te.size)) ti.zero ps=some cs):Cert P o σ (.agg cs) .pure :=
 Cert.bN .pure (.inl rfl) hd fun a g _ h _=>by
  have bH:=jK (a:=a) (g:=g) (fun x hx y hy=>h x (by simpa[ho,Op.operands]using hx) y hy) xB gG;obtain⟨⟨i,z,h1,h2,h3,h4,h5,h6,h7,h8,h9⟩,d,Mc,Vp⟩:=hT t ti ht;have hu:=pH hT ht aR;obtain⟨⟨ie,ze,k1,k2,_⟩,_⟩:=hT e te he;obtain⟨cf,q1,q2,q3⟩:=oQ (fun i=>some (i*te.size,te.size)) bH (cs:=ti.zero) (arr:=z.cells) ⟨h5,h8 g⟩ fw;have hb:P.built t (parts.map fun(i,x)=>(i,a.eval x)).toList=some cf:=by
   unfold Program.built;simp only[h1,hu,h4,k1,k2];rw[Array.toList_map];simpa using q1
  have bI:=run_build g.w t _ cf hb;exact⟨.agg cf,by simp[execOp,ho,bI],q2.agg (q3 h9)⟩
def pG(P:Program)(t:TypeId)(k:IntKind):Prop:=P.eqGuardType P.depth t=false∧∀(w:World) (a0 a1 b0 b1:Int),(Op.equal t (.agg #[.int k a0,.int k a1]) (.agg #[.int k b0,.int k b1])).run P w=.ok (decide (a0=b0)&&decide (a1=b1)) w
theorem jV{P:Program}{e:TypeId}{k:IntKind}(he:P.underlying e=some (.int k))(xs:Array Value)(i:Nat)(u:Value)(hu:xs[i]?=some u)(w:World):(part e xs i).run P w=.ok u w:=by
 simp[part,Go.isAgg,run_underlying he,hu]
theorem y9{P:Program}{t:TypeId}{k:IntKind}(h:∃e i,P.underlying t=some (.array 2 e)∧P.info? e=some i∧i.size=1∧P.underlying e=some (.int k)∧P.eqGuardType P.depth t=false):pG P t k:=by
 obtain⟨e,ie,P1,k1,cM,hu,nE⟩:=h;refine⟨nE,fun w a0 a1 b0 b1=>?_⟩;have hc:P.cellsOf e=1:=by
  simp[Program.cellsOf,k1,cM]
 have e0:∃d,Op.equal t (.agg #[.int k a0,.int k a1]) (.agg #[.int k b0,.int k b1])=Op.equalIn (d+2) t (.agg #[.int k a0,.int k a1]) (.agg #[.int k b0,.int k b1]):=⟨9998,rfl⟩
 obtain⟨d,e0⟩:=e0;rw[e0,run_equalIn_array w (d+1) _ _ P1 k1,hc];have hi:∀(p q:Int),(Op.equalIn (d+1) e (.int k p) (.int k q)).run P w=.ok (decide (p=q)) w:=fun p q=>by
  have WH:(p == q)=decide (p=q):=by
   by_cases hq:p=q
   ·simp[hq]
   simp[hq]
  simp[Op.equalIn,run_underlying hu,WH]
 have p0:=jV hu #[.int k a0,.int k a1] 0 (.int k a0) rfl w;have p1:=jV hu #[.int k a0,.int k a1] 1 (.int k a1) rfl w;have s0:=jV hu #[.int k b0,.int k b1] 0 (.int k b0) rfl w;have s1:=jV hu #[.int k b0,.int k b1] 1 (.int k b1) rfl w;show(Op.eqItems (d+1) e 1 _ _ [0,1]).run P w=_;simp only[Op.eqItems,Sem.run_bind,Nat.zero_mul,Nat.one_mul,p0,s0,p1,s1,hi,Result.andThen_ok];by_cases q0:a0=b0
 ·subst q0;simp only[decide_true,Bool.not_true,Bool.false_eq_true,if_false,Bool.true_and,Sem.run_bind,p1,s1,hi,Result.andThen_ok];by_cases q1:a1=b1<;>simp[q1]
 simp[q0]
theorem Aw{P:Program}{o:Oper}{σ:St}{op:BinOp}{t t':TypeId}{x y:Operand}{k:IntKind}{a0 a1 b0 b1:Int}{r:Bool}
  (ho:o.op=.binOp op t x y t') (hd:∀d,o.dst=some d->d<σ.n) (hP:pG P t k)
  (hx:σ.ev x=some (.agg [.v (.int k a0),.v (.int k a1)])) (hy:σ.ev y=some (.agg [.v (.int k b0),.v (.int k b1)]))
  (hr:(op=.eql∧r=(decide (a0=b0)&&decide (a1=b1)))∨(op=.neq∧r=!(decide (a0=b0)&&decide (a1=b1)))):Cert P o σ (.v (.bool r)) .pure :=
 Cert.bN .pure (.inl rfl) hd fun ac g _ h _=>by
  obtain⟨nE,cB⟩:=hP;have cells:∀{z:Operand} {c0 c1:Int},z∈o.op.operands->σ.ev z=some (.agg [.v (.int k c0),.v (.int k c1)])->ac.eval z=.agg #[.int k c0,.int k c1]:=fun {z c0 c1} hz xB=>by
   obtain⟨vs,e1,e2,e3⟩:=(h z hz _ xB).yj;rw[e1];congr 1;have e2:vs.size=2:=e2;have h0:vs[0]?=some (vs[0]'(by omega)):=by simp[e2]
   have h1:vs[1]?=some (vs[1]'(by omega)):=by simp[e2]
   have q0:=(e3.2 0 _ _ rfl h0).bX.1;have q1:=(e3.2 1 _ _ rfl h1).bX.1;apply Array.ext
   ·simp[e2]
   intro i V9 ON;have:i=0∨i=1:=by
    simp at ON;omega
   rcases this with rfl|rfl
   ·simpa using q0
   simpa using q1
  have ex:=cells (by simp[ho,Op.operands]) hx;have ey:=cells (by simp[ho,Op.operands]) hy;have hg:=run_eqGuard_agg (P:=P) g.w op t x y #[.int k a0,.int k a1] #[.int k b0,.int k b1] nE;refine⟨.bool r,?_,.v trivial⟩;have Gf:=cB g.w a0 a1 b0 b1;rcases hr with⟨e1,e2⟩|⟨e1,e2⟩<;>subst e1<;>subst e2<;>simp[execOp,ho,ex,ey,hg,binOp,Gf]
structure Tag{α:Type}(a:α):Type where
def on{α:Type}(x:Option α)(f:α->Prop)(_t:Tag f:={}):Prop :=
 match x with
 | some y=>f y
 | none=>False
theorem y7{α:Type}(y:α)(f:α->Prop)(t:Tag f):on (some y) f t=f y:=rfl
theorem aE{α:Type}{x:Option α}{f:α->Prop}{t:Tag f}(h:on x f t):∃y,x=some y∧f y:=by
 cases x with
 | none=>exact h.elim
 | some y=>exact⟨y,rfl,h⟩
def w8(p:Unit->Prop)(_t:Tag p:={}):Prop:=p ()
def At(σ:St)(f:St->Prop)(_t:Tag f:={}):Prop:=f σ
theorem aV{σ:St}{f:St->Prop}{t:Tag f}(h:f σ):At σ f t:=h
def pt(b:Bool)(X Y:Unit->Prop)(_t:Tag X:={})(_t':Tag Y:={}):Prop:=if b then X ()else Y ()
theorem dN(X Y:Unit->Prop)(t:Tag X)(t':Tag Y):pt true X Y t t'=X ():=rfl
theorem dh(X Y:Unit->Prop)(t:Tag X)(t':Tag Y):pt false X Y t t'=Y ():=rfl
theorem Ej{b:Bool}{X Y:Unit->Prop}{t:Tag X}{t':Tag Y}(h:b=true->X ())(k:b=false->Y ()):pt b X Y t t':=by
 cases b
 ·exact k rfl
 exact h rfl
abbrev gf:=ae->Mode->Prop
def isNil:Operand->Bool
 | .const (.slice none 0 0)=>true
 | _=>false
def vN(aT:eh)(ty:TypeId)(x:Operand)(σ:St)(K:gf):Prop :=
 match isNil x with
 | true=>on (aT ty) fun ti=>match ti.desc with
  | .slice e=>on (aT e) fun te=>K (.aB te.size [] .ex) .pure
  | _=>False
 | false=>on (σ.ev x) fun y=>K y .pure
def El(σ:St)(c x z:Operand)(K:gf):Prop :=
 on (σ.ev c) fun
  | .v (.bool b)=>pt b (fun _=>on (σ.ev x) fun y=>K y .pure) (fun _=>on (σ.ev z) fun y=>K y .pure)
  | _=>False
def oA(aT:eh)(s:TypeId)(k:Nat)(x:ae)(K:gf):Prop :=
 on (aT s) fun ti=>match ti.desc with
  | .struct fs=>on fs[k]? fun f=>on (aT f.2) fun tf=>tf.size≠0 ∧
   match x with
   | .ip oa cs=>K (.ip (oa.map (·.add f.1)) (cs.drop f.1)) .pure
   | .mp id off=>K (.mp id (off+f.1)) .pure
   | _=>False
  | _=>False
def zP(aT:eh)(s:TypeId)(k:Nat)(x:ae)(K:gf):Prop :=
 on (aT s) fun ti=>match ti.desc with
  | .struct fs=>on fs[k]? fun f=>on (aT f.2) fun tf=>match x with
   | .agg cs=>pt tf.desc.agg (fun _=>K (.agg ((cs.drop f.1).take tf.size)) .pure) (fun _=>on cs[f.1]? fun r=>K r .pure)
   | _=>False
  | _=>False
def Ek(aT:eh)(O:List ai)(t:TypeId)(x:ae)(K:gf):Prop :=
 on (aT t) fun ti =>
  match x with
  | .ip _ cs=>pt ti.desc.agg (fun _=>ti.size<=cs.length∧K (.agg (cs.take ti.size)) .pure) (fun _=>on cs[0]? fun c=>K c .pure)
  | .mp id off=>on O[id]? fun
   | .cells os=>pt ti.desc.agg (fun _=>off+ti.size<=os.length∧K (.agg ((os.drop off).take ti.size)) (.rd id)) (fun _=>on os[off]? fun c=>K c (.rd id))
   | _=>False
  | _=>False
def zR(aT:eh)(O:List ai)(t:TypeId)(x y:ae)(K:gf):Prop :=
 on (aT t) fun ti =>
  match x with
  | .mp id off=>on O[id]? fun
   | .cells os=>y.flat∧y.cells.length=ti.size∧off+ti.size<=os.length∧K (.v (.bool false)) (.wr O.length [id] (O.set id (.cells (bp os off y.cells))))
   | _=>False
  | _=>False
def oB(aT:eh)(t:TypeId)(x i:ae)(K:gf):Prop :=
 on (aT t) fun ti=>match ti.desc with
  | .slice e=>on (aT e) fun te =>
   match i with
   | .v (.int _ n) =>
    (match x with
    | .aB sz xs ow=>te.size=sz∧0<=n∧on xs[n.toNat]? fun y=>K (.ip (rk ow (n.toNat*te.size)) y.cells) .pure
    | .ms id off len _=>0<=n∧n<len∧K (.mp id (off+n.toNat*te.size)) .pure
    | .os id len _=>0<=n∧n<len∧K (.mp id (n.toNat*te.size)) .pure
    | _=>False)
   | _=>False
  | .array len e=>on (aT e) fun te =>
   match i with
   | .v (.int _ n) =>
    (match x with
    | .mp id off=>0<=n∧n<len∧K (.mp id (off+n.toNat*te.size)) .pure
    | .ip _ cs=>0<=n∧n<len∧K (.ip none (cs.drop (n.toNat*te.size))) .pure
    | _=>False)
   | _=>False
  | _=>False
def uH:BinOp->ByteArray->ByteArray->Option Bool
 | .eql,a,b=>some (decide (a=b))
 | .neq,a,b=>some (!decide (a=b))
 | _,_,_=>none
def qN:BinOp->Bool->Bool->Option Bool
 | .eql,a,b=>some (a == b)
 | .neq,a,b=>some (!(a == b))
 | _,_,_=>none
def FD(op:BinOp)(k:IntKind)(m n:Int)(K:gf):Prop :=
 pt (kI op m n).isSome (fun _=>on (kI op m n) fun b=>K (.v (.bool b)) .pure) (fun _=>on (ed k op m n) fun r=>Lr k<=r∧r<=Gk k∧K (.v (.int k r)) .pure)
def jC:BinOp->Bool->Option Bool
 | .eql,b=>some b
 | .neq,b=>some (!b)
 | _,_=>none
def G7:ae->Option Bool
 | .v (.pointer none)=>some true
 | .ip _ _=>some false
 | .mp _ _=>some false
 | _=>none
theorem G8{x:ae}{b:Bool}(h:G7 x=some b):(x=.v (.pointer none)∧b=true)∨(∃oa cs,x=.ip oa cs∧b=false)∨(∃id off,x=.mp id off∧b=false):=by
 unfold G7 at h;split at h
 ·exact .inl ⟨rfl,by simpa using h.symm⟩
 ·exact .inr (.inl ⟨_,_,rfl,by simpa using h.symm⟩)
 ·exact .inr (.inr ⟨_,_,rfl,by simpa using h.symm⟩)
 cases h
def Px(P:Program)(op:BinOp)(t:TypeId)(x:ae)(K:gf):Prop :=
 (∃e,P.underlying t=some (.pointer e))∧on (G7 x) fun b=>on (jC op b) fun r=>K (.v (.bool r)) .pure
def pE(P:Program)(op:BinOp)(t:TypeId)(x y:ae)(K:gf):Prop :=
 match x,y with
 | .v (.int k m),.v (.int k' n)=>pt (dx op) (fun _=>0<=n∧Lr k<=eV k op m n∧eV k op m n<=Gk k∧K (.v (.int k (eV k op m n))) .pure) (fun _=>k=k'∧FD op k m n K)
 | .v (.string a),.v (.string b)=>on (uH op a b) fun r=>K (.v (.bool r)) .pure
 | .v (.bool a),.v (.bool b)=>P.underlying t=some .bool∧on (qN op a b) fun r=>K (.v (.bool r)) .pure
 | x,.v (.pointer none)=>Px P op t x K
 | .ip (some a) _,.ip (some b) _=>(∃e n,P.underlying t=some (.pointer e)∧(∀w,(sizeOf e).run P w=.ok n w)∧n≠0)∧a.block=b.block∧on (qM op a b) fun r=>K (.v (.bool r)) .pure
 | .agg [.v (.int k a0),.v (.int k1 a1)],.agg [.v (.int k2 b0),.v (.int k3 b1)]=>(k1=k∧k2=k∧k3=k∧pG P t k)∧on (jC op (decide (a0=b0)&&decide (a1=b1))) fun r=>K (.v (.bool r)) .pure
 | _,_=>False
def TD.elem:TD->Option TypeId
 | .slice e=>some e
 | _=>none
theorem TD.l9{d:TD}{e:TypeId}(h:d.elem=some e):d=.slice e:=by
 cases d<;>simp[TD.elem]at h;rw[h]
def DI:ae->Option Bool
 | .v (.slice none 0 0)=>some true
 | .aB _ _ .nn=>some false
 | .ms _ _ _ _=>some false
 | _=>none
def K6(aT:eh)(op:BinOp)(t:TypeId)(x:ae)(K:gf):Prop :=
 on (aT t) fun ti=>on ti.desc.elem fun _=>on (DI x) fun b=>on (jC op b) fun r=>K (.v (.bool r)) .pure
def K9(op:UnOp)(x:ae)(K:gf):Prop :=
 match op,x with
 | .not,.v (.bool b)=>K (.v (.bool !b)) .pure
 | .neg,.v (.int k n)=>Lr k<=-n∧-n<=Gk k∧K (.v (.int k (-n))) .pure
 | _,_=>False
def Hz(σ:St)(p:Option Operand)(CP:Nat)(K:Nat->Prop):Prop :=
 match p with
 | none=>K CP
 | some q=>on (σ.ev q) fun
  | .v (.int _ n)=>0<=n∧K n.toNat
  | _=>False
def BW(sz:Nat)(xs:List ae)(o:nH)(l h:Nat)(K:gf):Prop :=
 match o with
 | .ex=>pt (decide (l=0)&&decide (h=xs.length)) (fun _=>K (.aB sz xs .ex) .pure) (fun _=>K (.aB sz ((xs.take h).drop l) .sh) .pure)
 | _=>K (.aB sz ((xs.take h).drop l) .sh) .pure
theorem Ei{sz:Nat}{xs:List ae}{o:nH}{l h:Nat}{K:gf}(k:BW sz xs o l h K):(o=.ex∧l=0∧h=xs.length∧K (.aB sz xs .ex) .pure)∨K (.aB sz ((xs.take h).drop l) .sh) .pure:=by
 unfold BW at k;split at k
 ·by_cases hf:(decide (l=0)&&decide (h=xs.length))=true
  ·rw[hf,dN]at k;simp only[Bool.and_eq_true,decide_eq_true_eq]at hf;exact .inl ⟨rfl,hf.1,hf.2,k⟩
  rw[show(decide (l=0)&&decide (h=xs.length))=false by simpa using hf,dh]at k;exact .inr k
 exact .inr k
def zQ(aT:eh)(σ:St)(t:TypeId)(x:ae)(lo hi mx:Option Operand)(K:gf):Prop :=
 on (aT t) fun ti=>match ti.desc with
  | .slice e=>on (aT e) fun te =>
   match x,mx with
   | .aB sz xs ow,none=>te.size=sz∧Hz σ lo 0 fun l=>Hz σ hi xs.length fun h=>l<=h∧h<=xs.length∧BW sz xs ow l h K
   | .ms id off len cap,none=>Hz σ lo 0 fun l=>Hz σ hi len fun h=>l<=h∧h<=cap∧l<cap∧h<=2 ^ 62∧K (.ms id (off+l*te.size) (h-l) (cap-l)) .pure
   | .raw sz len id,none=>0<len∧Hz σ lo 0 fun l=>Hz σ hi len fun h=>l=0∧h=0∧K (.aB sz [] (.tok id)) .pure
   | .os id len sz,none=>Hz σ lo 0 fun l=>Hz σ hi len fun h=>l=0∧h<=len∧0<len∧K (.os id h sz) .pure
   | _,_=>False
  | _=>False
def mD:List (Nat×ae)->Prop
 | []=>True
 | p::r=>p.2.flat∧mD r
def qB(n:Nat):List ae->Prop
 | []=>True
 | x::r=>x.cells.length=n∧qB n r
def zM(aT:eh)(σ:St)(t:TypeId)(parts:Array (Nat×Operand))(K:gf):Prop :=
 on (aT t) fun ti=>match ti.desc with
  | .struct fs=>on (iP aT fs) fun pl=>on (σ.eL parts.toList) fun ps=>mD ps∧on (iH (fun i=>pl[i]?) ti.zero ps) fun cs=>K (.agg cs) .pure
  | .array _ e=>on (aT e) fun te=>on (σ.eL parts.toList) fun ps=>mD ps∧on (iH (fun i=>some (i*te.size,te.size)) ti.zero ps) fun cs=>K (.agg cs) .pure
  | _=>False
def na(aT:eh)(σ:St)(t:TypeId)(len:Nat)(parts:Array (Nat×Operand))(K:gf):Prop :=
 on (aT t) fun ti=>match ti.desc with
  | .slice e=>on (aT e) fun te=>on (σ.eL parts.toList) fun ps=>mD ps∧on (gp 0 ps) fun xs=>0<te.size∧xs.length=len∧qB te.size xs∧len*te.size<=2 ^ 24∧K (.aB te.size (xs.map ae.share) .ex) .pure
  | _=>False
structure Md where
 app:Bool
 made:Bool
def oC(mk:Bool)(aT:eh)(O:List ai)(t:TypeId)(x y:ae)(K:gf):Prop :=
 on (aT t) fun ti=>match ti.desc with
  | .slice e=>on (aT e) fun te =>
   match x,y with
   | .v (.int _ n),.v (.int _ n')=>n'=n∧0<=n∧te.bytes*n.toNat<=2 ^ 48∧n.toNat<=2 ^ 62∧0<te.size ∧
     pt mk (fun _=>(te.desc.agg=true∨te.size=1)∧K (.aB te.size (List.replicate n.toNat (zeroOf te).share) .ex) .pure)
      (fun _=>K (.ms O.length 0 n.toNat n.toNat) (.wr O.length [] (O++[.cells (List.replicate n.toNat te.zero).flatten])))
   | _,_=>False
  | _=>False
def Dw(P:Program)(k:TypeId):Option KT :=
 match P.underlying k with
 | some .string=>some .str
 | some (.int k)=>some (.int k)
 | _=>none
def vM(P:Program)(aT:eh)(O:List ai)(t:TypeId)(x y:ae)(ok:Bool)(K:gf):Prop :=
 on (aT t) fun ti=>match ti.desc with
  | .map k e=>on (Dw P k) fun kt=>on (aT e) fun te=>(te.desc.agg=true∨te.size=1) ∧
   match y with
   | .v key=>kt.ok key ∧
    (match x with
    | .im Ur es=>Ur=kt∧K (ly ok (kh es key) (zeroOf te)) .pure
    | .mm id=>on O[id]? fun
     | .map Ur es=>Ur=kt∧K (ly ok (kh es key) (zeroOf te)) (.rd id)
     | _=>False
    | .v (.map none)=>K (ly ok none (zeroOf te)) .pure
    | _=>False)
   | _=>False
  | _=>False
def jZ(P:Program)(aT:eh)(O:List ai)(t:TypeId)(x y v:ae)(K:gf):Prop :=
 on (aT t) fun ti=>match ti.desc with
  | .map k _=>on (Dw P k) fun kt =>
   match x,y with
   | .mm id,.v key=>kt.ok key∧on O[id]? fun
    | .map Ur es=>Ur=kt∧K (.v (.bool false)) (.wr O.length [id] (O.set id (.map kt (mX es key v))))
    | _=>False
   | _,_=>False
  | _=>False
def sw(P:Program)(aT:eh)(O:List ai)(t:TypeId)(K:gf):Prop :=
 on (aT t) fun ti=>match ti.desc with
  | .map k _=>on (Dw P k) fun kt=>K (.mm O.length) (.wr O.length [] (O++[.map kt []]))
  | _=>False
def GL:ae->Option Nat
 | .aB _ xs _=>some xs.length
 | .ms _ _ len _=>some len
 | .os _ len _=>some len
 | _=>none
def K4(aT:eh)(t:TypeId)(x:ae)(K:gf):Prop :=
 on (aT t) fun ti=>on ti.desc.elem fun _=>on (GL x) fun n=>K (.v (.int .i64 n)) .pure
theorem GM{x:ae}{n:Nat}(h:GL x=some n):(∃sz xs ow,x=.aB sz xs ow∧n=xs.length)∨(∃id off cap,x=.ms id off n cap)∨∃id sz,x=.os id n sz:=by
 cases x<;>simp[GL]at h
 ·exact .inl ⟨_,_,_,rfl,h.symm⟩
 ·subst h;exact .inr (.inl ⟨_,_,_,rfl⟩)
 subst h;exact .inr (.inr ⟨_,_,rfl⟩)
def vK(P:Program)(mk:Bool)(md:Bool)(aT:eh)(O:List ai)(t t':TypeId)(x y:ae)(K:gf):Prop :=
 on (aT t) fun ti=>on ti.desc.elem fun e=>on (aT e) fun te =>
   match x,y with
   | .aB sz xs .ex,.aB UA ys _=>t'=t∧te.size=sz∧UA=sz∧xs.length+ys.length<=2 ^ 62∧(xs.length+ys.length)*te.bytes<=2 ^ 47 ∧
     pt md (fun _=>ys.length≠0∧pt mk (fun _=>K (.os O.length (xs.length+ys.length) sz) (.wr O.length [] (O++[.cells (al (xs++ys.map ae.share))])))
       (fun _=>K (.ms O.length 0 (xs.length+ys.length) (xs.length+ys.length)) (.wr O.length [] (O++[.cells (al (xs++ys.map ae.share))]))))
      (fun _=>K (.aB sz (xs++ys.map ae.share) (.tok O.length)) (.wr O.length [] (O++[.spare (xs.length+ys.length)])))
   | .aB sz xs (.tok id),.aB UA ys _=>t'=t∧te.size=sz∧UA=sz∧O[id]?=some (.spare xs.length)∧xs.length+ys.length<=2 ^ 62∧(xs.length+ys.length)*te.bytes<=2 ^ 47 ∧
     K (.aB sz (xs++ys.map ae.share) (.tok id)) (.wr O.length [id] (O.set id (.spare (xs.length+ys.length))))
   | .aB _ xs .ex,.v (.int k n)=>xs=[]∧k=.i64∧P.underlying t'=some (.int .i64)∧0<n∧n.toNat<=2 ^ 62∧n.toNat*te.bytes<=2 ^ 47∧0<te.size ∧
     pt md (fun _=>K (.raw te.size n.toNat O.length) (.wr O.length [] (O++[.spare 0])))
      (fun _=>K (.ms O.length 0 n.toNat n.toNat) (.wr O.length [] (O++[.cells (List.replicate n.toNat te.zero).flatten])))
   | .ms id off len cap,.aB sz ys _=>t'=t∧te.size=sz∧on O[id]? fun
    | .cells cs=>len+ys.length<=cap∧len+ys.length<=2 ^ 62∧off+(len+ys.length)*sz<=cs.length ∧
     K (.ms id off (len+ys.length) cap) (.wr O.length [id] (O.set id (.cells (bp cs (off+len*sz) (al (ys.map ae.share))))))
    | _=>False
   | .os id len sz,.aB UA ys _=>t'=t∧te.size=sz∧UA=sz∧on O[id]? fun
    | .cells cs=>len*sz<=cs.length∧ys.length≠0∧len+ys.length<=2 ^ 62∧(len+ys.length)*te.bytes<=2 ^ 47 ∧
     K (.os O.length (len+ys.length) sz) (.wr O.length [id] (O.set id .gone++[.cells (cs.take (len*sz)++al (ys.map ae.share))]))
    | _=>False
   | _,_=>False
def H0:ae->Option Nat
 | .aB _ xs .ex=>some xs.length
 | _=>none
theorem FP{x:ae}{n:Nat}(h:H0 x=some n):∃sz xs,x=.aB sz xs .ex∧n=xs.length:=by
 unfold H0 at h;split at h
 ·exact⟨_,_,rfl,by simpa using h.symm⟩
 cases h
def K3(aT:eh)(t:TypeId)(x:ae)(K:gf):Prop :=
 on (aT t) fun ti=>on ti.desc.elem fun _=>on (H0 x) fun n=>K (.v (.int .i64 n)) .pure
def zO(aT:eh)(O:List ai)(t:TypeId)(x:ae)(K:gf):Prop :=
 on (aT t) fun ti=>on ti.desc.elem fun e=>on (aT e) fun te=>match x with
  | .ms id off len _=>on O[id]? fun
   | .cells cs=>0<len∧0<te.size∧off+len*te.size<=cs.length∧K (.cx []) (.wr O.length [id] (O.set id (.cells (bp cs off (List.replicate len te.zero).flatten))))
   | _=>False
  | _=>False
def K8(x y:ae)(K:gf):Prop :=
 match x,y with
 | .v (.int .i64 m),.v (.int .i64 n)=>K (.v (.int .i64 (max m n))) .pure
 | _,_=>False
def K5(x y:ae)(K:gf):Prop :=
 match x,y with
 | .v (.int .i64 m),.v (.int .i64 n)=>K (.v (.int .i64 (min m n))) .pure
 | _,_=>False
theorem Ih{P:Program}{o:Oper}{σ:St}{rL:Array TypeId}{x y:Operand}{m n:Int}
  (ho:o.op=.call ⟨.builtin .max,#[x,y],rL⟩) (hd:∀d,o.dst=some d->d<σ.n) (hx:σ.ev x=some (.v (.int .i64 m))) (hy:σ.ev y=some (.v (.int .i64 n))):Cert P o σ (.v (.int .i64 (max m n))) .pure :=
 Cert.bN .pure (.inl rfl) hd fun a g _ h _=>by
  obtain⟨ex,fx⟩:=(h x (by simp[ho,Op.operands,Call.operands]) _ hx).bX;obtain⟨ey,fy⟩:=(h y (by simp[ho,Op.operands,Call.operands]) _ hy).bX;refine⟨.int .i64 (max m n),?_,.v ?_⟩
  ·rw[cI ho];have e:(if n > m then n else m)=max m n:=by
    split<;>omega
   simp[builtin,Builtin.max_,Builtin.max2,ex,ey,e]
  rcases Int.le_total m n with q|q
  ·rw[Int.max_eq_right q];exact fy
  rw[Int.max_eq_left q];exact fx
theorem Ib{P:Program}{o:Oper}{σ:St}{rL:Array TypeId}{x y:Operand}{m n:Int}
  (ho:o.op=.call ⟨.builtin .min,#[x,y],rL⟩) (hd:∀d,o.dst=some d->d<σ.n) (hx:σ.ev x=some (.v (.int .i64 m))) (hy:σ.ev y=some (.v (.int .i64 n))):Cert P o σ (.v (.int .i64 (min m n))) .pure :=
 Cert.bN .pure (.inl rfl) hd fun a g _ h _=>by
  obtain⟨ex,fx⟩:=(h x (by simp[ho,Op.operands,Call.operands]) _ hx).bX;obtain⟨ey,fy⟩:=(h y (by simp[ho,Op.operands,Call.operands]) _ hy).bX;refine⟨.int .i64 (min m n),?_,.v ?_⟩
  ·rw[cI ho];have e:(if n<m then n else m)=min m n:=by
    split<;>omega
   simp[builtin,Builtin.min_,Builtin.min2,ex,ey,e]
  rcases Int.le_total m n with q|q
  ·rw[Int.min_eq_left q];exact fx
  rw[Int.min_eq_right q];exact fy
def zN(P:Program)(O:List ai)(f:ae)(dE:List ae)(K:gf):Prop :=
 match f with
 | .fn (.func id) fs cs =>
  (∃r,bq P id ((fs++dE++cs).map ae.share) r∧av 0 ((fs++dE++cs).map ae.share)∧w8 fun _=>K r .pure) ∨
  (∃r O',(bh P id O (fs++dE++cs) fun r' O1=>r'=r∧O1=O')∧((w8 fun _=>K r (.write O'))∨∃n l,(∀i,i<n->i ∉ l->O'[i]?=O[i]?)∧w8 fun _=>K r (.wr n l O'))) ∨
  (∃r,(bh P id O (fs++dE++cs) fun r' O1=>r'=r∧O1=O)∧w8 fun _=>K r .read)
 | _=>False
def dQ(P:Program)(aT:eh)(md:Md)(dst:Option Nat)(σ:St)(callee:Callee)(args:List Operand)(rL:List TypeId)(K:gf):Prop :=
 match callee with
 | .value f=>on (σ.ev f) fun f=>on (σ.AM args) fun dE=>zN P σ.objs f dE K
 | .builtin .len =>
  (match args,rL with
  | [x],[t]=>on (σ.ev x) fun x=>K4 aT t x K
  | _,_=>False)
 | .builtin .append =>
  (match args,rL with
  | [x,y],[t,t']=>on (σ.ev x) fun x=>on (σ.ev y) fun y=>vK P md.made md.app aT σ.objs t t' x y K
  | _,_=>False)
 | .builtin .cap =>
  (match args,rL with
  | [x],[t]=>on (σ.ev x) fun x=>K3 aT t x K
  | _,_=>False)
 | .builtin .clear =>
  (match args,rL with
  | [x],[t]=>dst=none∧on (σ.ev x) fun x=>zO aT σ.objs t x K
  | _,_=>False)
 | .builtin .max =>
  (match args with
  | [x,y]=>on (σ.ev x) fun x=>on (σ.ev y) fun y=>K8 x y K
  | _=>False)
 | .builtin .min =>
  (match args with
  | [x,y]=>on (σ.ev x) fun x=>on (σ.ev y) fun y=>K5 x y K
  | _=>False)
 | _=>False
def kV(y:ae)(K:gf):Prop :=
 match y with
 | .mp id off=>K (.mp id off) .pure
 | .ip oa cs=>K (.ip oa cs) .pure
 | _=>False
def K7(P:Program)(aT:eh)(md:Md)(o:Oper)(σ:St)(K:gf):Prop :=
 match o.op with
 | .move x=>vN aT o.type x σ K
 | .assign x=>vN aT o.type x σ K
 | .pick c x z=>El σ c x z K
 | .fieldAddr s x k=>on (σ.ev x) fun x=>oA aT s k x K
 | .field s x k=>on (σ.ev x) fun x=>zP aT s k x K
 | .load t x=>on (σ.ev x) fun x=>Ek aT σ.objs t x K
 | .store t x y=>o.dst=none∧on (σ.ev x) fun x=>on (σ.ev y) fun y=>zR aT σ.objs t x y K
 | .indexAddr t x i=>on (σ.ev x) fun x=>on (σ.ev i) fun i=>oB aT t x i K
 | .binOp op t x y _=>pt (isNil y) (fun _=>on (σ.ev x) fun x=>K6 aT op t x K) (fun _=>on (σ.ev x) fun x=>on (σ.ev y) fun y=>pE P op t x y K)
 | .unOp op _ x=>on (σ.ev x) fun x=>K9 op x K
 | .slice t x lo hi mx=>on (σ.ev x) fun x=>zQ aT σ t x lo hi mx K
 | .build t parts=>zM aT σ t parts K
 | .buildSlice t len parts=>na aT σ t len parts K
 | .alloc t=>on (aT t) fun ti=>K (.mp σ.objs.length 0) (.wr σ.objs.length [] (σ.objs++[.cells ti.zero]))
 | .box _ x=>on (σ.ev x) fun y=>y.flat∧K (.mp σ.objs.length 0) (.wr σ.objs.length [] (σ.objs++[.cells y.cells]))
 | .makeMap t none=>sw P aT σ.objs t K
 | .makeSlice t x y=>on (σ.ev x) fun x=>on (σ.ev y) fun y=>oC md.made aT σ.objs t x y K
 | .makeFunc f first captured=>on (σ.AM first.toList) fun fs=>on (σ.AM captured.toList) fun cs=>K (.fn f fs cs) .pure
 | .lookup t x y ok=>on (σ.ev x) fun x=>on (σ.ev y) fun y=>vM P aT σ.objs t x y ok K
 | .mapUpdate t x y v=>o.dst=none∧on (σ.ev x) fun x=>on (σ.ev y) fun y=>on (σ.ev v) fun v=>jZ P aT σ.objs t x y v K
 | .insert t x y v=>o.dst=none∧on (σ.ev x) fun x=>on (σ.ev y) fun y=>on (σ.ev v) fun v=>jZ P aT σ.objs t x y v K
 | .extract x k=>on (σ.ev x) fun
  | .cx cs=>on cs[k]? fun r=>K r .pure
  | _=>False
 | .call c=>dQ P aT md o.dst σ c.callee c.args.toList c.argTypes.toList K
 | .nilCheck x=>on (σ.ev x) fun y=>kV y K
 | _=>False
theorem eO{O X:List ai}:∀i,i<O.length->i ∉ ([]:List Nat)->(O++X)[i]?=O[i]?:=fun _ hi _=>List.getElem?_append_left hi
theorem ml{O:List ai}{id:Nat}{x:ai}:∀i,i<O.length->i ∉ [id]->(O.set id x)[i]?=O[i]?:=fun i _ hl=>List.getElem?_set_ne (fun e=>hl (by simp[e]))
theorem GG{O:List ai}{id:Nat}{x y:ai}:∀i,i<O.length->i ∉ [id]->(O.set id x++[y])[i]?=O[i]?:=fun i hi hl=>by
 rw[List.getElem?_append_left (by simpa using hi)];exact List.getElem?_set_ne (fun e=>hl (by simp[e]))
theorem Du{x:Operand}(hn:isNil x=true):x=.const (.slice none 0 0):=by
 unfold isNil at hn;split at hn
 ·rfl
 cases hn
theorem GX{y:ae}{b:Bool}(h:DI y=some b):(y=.v (.slice none 0 0)∧b=true)∨(∃sz xs,y=.aB sz xs .nn∧b=false)∨(∃id off len cap,y=.ms id off len cap∧b=false):=by
 unfold DI at h;split at h
 ·exact .inl ⟨rfl,by simpa using h.symm⟩
 ·exact .inr (.inl ⟨_,_,rfl,by simpa using h.symm⟩)
 ·exact .inr (.inr ⟨_,_,_,_,rfl,by simpa using h.symm⟩)
 cases h
theorem mV{op:BinOp}{b r:Bool}(h:jC op b=some r):(op=.eql∧r=b)∨(op=.neq∧r=!b):=by
 unfold jC at h;split at h
 ·exact .inl ⟨rfl,by simpa using h.symm⟩
 ·exact .inr ⟨rfl,by simpa using h.symm⟩
 cases h
theorem rJ{P:Program}{aT:eh}{o:Oper}{σ:St}{x:Operand}{K:gf}(ho:o.op=.move x∨o.op=.assign x)(hd:∀d,o.dst=some d->d<σ.n)(h:vN aT o.type x σ K):∃r m,Cert P o σ r m∧K r m:=by
 unfold vN at h;cases hn:isNil x with
 | true =>
  have hx:x=.const (.slice none 0 0):=by
   unfold isNil at hn;split at hn
   ·rfl
   cases hn
  subst hx;simp only[hn]at h;obtain⟨ti,_,h⟩:=aE h;split at h
  ·obtain⟨te,_,h⟩:=aE h;exact⟨_,_,Ie te.size ho hd,h⟩
  exact h.elim
 | false =>
  simp only[hn]at h;obtain⟨y,hy,h⟩:=aE h;exact⟨_,_,FV ho hd hy,h⟩
theorem sa{P:Program}{k:TypeId}{kt:KT}(h:Dw P k=some kt):∃d,P.underlying k=some d∧kt.desc d:=by
 unfold Dw at h;split at h
 ·simp only[Option.some.injEq]at h;subst h;exact⟨_,by assumption,rfl⟩
 ·simp only[Option.some.injEq]at h;subst h;exact⟨_,by assumption,rfl⟩
 cases h
theorem kl:∀{l:List (Nat×ae)},mD l->∀p∈l,p.2.flat
 | [],_,p,hp=>by cases hp
 | q::r,h,p,hp=>by
  rcases List.mem_cons.1 hp with e|e
  ·subst e;exact h.1
  exact kl h.2 p e
theorem qC{n:Nat}:∀{l:List ae},qB n l->∀x∈l,x.cells.length=n
 | [],_,p,hp=>by cases hp
 | q::r,h,p,hp=>by
  rcases List.mem_cons.1 hp with e|e
  ·subst e;exact h.1
  exact qC h.2 p e
theorem jI{σ:St}{p:Option Operand}{CP:Nat}{K:Nat->Prop}(h:Hz σ p CP K):∃n,nK σ p CP n∧K n:=by
 unfold Hz at h;split at h
 ·exact⟨CP,.inl ⟨rfl,rfl⟩,h⟩
 rename_i q;obtain⟨y,hy,h⟩:=aE h;split at h
 ·rename_i k n;obtain⟨h1,h2⟩:=h;exact⟨n.toNat,.inr ⟨q,k,rfl,by rw[Int.toNat_of_nonneg h1];exact hy⟩,h2⟩
 exact h.elim
theorem BX{P:Program}{o:Oper}{σ:St}{op:BinOp}{t t':TypeId}{x y:Operand}{k:IntKind}{m n:Int}{K:gf}(ho:o.op=.binOp op t x y t')(hd:∀d,o.dst=some d->d<σ.n)(hx:σ.ev x=some (.v (.int k m)))(hy:σ.ev y=some (.v (.int k n)))
  (h:FD op k m n K):∃r m,Cert P o σ r m∧K r m:=by
 unfold FD at h;cases P8:kI op m n with
 | some b =>
  simp only[P8,Option.isSome_some,dN,y7]at h;exact⟨_,_,Ar ho hd hx hy P8,h⟩
 | none =>
  simp only[P8,Option.isSome_none,dh]at h;obtain⟨r,hr,h1,h2,h⟩:=aE h;rw[yZ]at h1;rw[yQ]at h2;exact⟨_,_,wm ho hd hx hy hr h1 h2,h⟩
theorem vO{P:Program}{aT:eh}{md:Md}(hT:b7 P aT){o:Oper}{σ:St}{K:gf}(hd:∀d,o.dst=some d->d<σ.n)(h:K7 P aT md o σ K):∃r m,Cert P o σ r m∧K r m:=by
 unfold K7 at h;split at h
 case h_1 x ho=>exact rJ (.inl ho) hd h
 case h_2 x ho=>exact rJ (.inr ho) hd h
 case h_3 c x z ho =>
  unfold El at h;obtain⟨y,hy,h⟩:=aE h;split at h
  ·rename_i b;cases b
   ·rw[dh]at h;obtain⟨r,hr,h⟩:=aE h;exact⟨_,_,xf ho hd hy (by simp) (fun _=>hr),h⟩
   rw[dN]at h;obtain⟨r,hr,h⟩:=aE h;exact⟨_,_,xf ho hd hy (fun _=>hr) (by simp),h⟩
  exact h.elim
 case h_4 s x k ho =>
  obtain⟨y,hy,h⟩:=aE h;unfold oA at h;obtain⟨ti,ht,h⟩:=aE h;split at h
  ·rename_i fs aR;obtain⟨f,hf,h⟩:=aE h;obtain⟨tf,Ul,hz,h⟩:=aE h;split at h
   ·exact⟨_,_,qI hT ho hd ht aR hf Ul hz hy,h⟩
   ·exact⟨_,_,qJ hT ho hd ht aR hf Ul hz hy,h⟩
   exact h.elim
  exact h.elim
 case h_5 s x k ho =>
  obtain⟨y,hy,h⟩:=aE h;unfold zP at h;obtain⟨ti,ht,h⟩:=aE h;split at h
  ·rename_i fs aR;obtain⟨f,hf,h⟩:=aE h;obtain⟨tf,Ul,h⟩:=aE h;split at h
   ·cases eH:tf.desc.agg with
    | true =>
     simp only[eH,dN]at h;exact⟨_,_,uB hT ho hd ht aR hf Ul hy (by rw[if_pos eH]),h⟩
    | false =>
     simp only[eH,dh]at h;obtain⟨r,hr,h⟩:=aE h;exact⟨_,_,uB hT ho hd ht aR hf Ul hy (by rw[if_neg (by simp[eH])];exact hr),h⟩
   exact h.elim
  exact h.elim
 case h_6 t x ho =>
  obtain⟨y,hy,h⟩:=aE h;unfold Ek at h;obtain⟨ti,ht,h⟩:=aE h;split at h
  ·cases eH:ti.desc.agg with
   | true =>
    simp only[eH,dN]at h;exact⟨_,_,yw hT ho hd ht hy eH h.1,h.2⟩
   | false =>
    simp only[eH,dh]at h;obtain⟨c,hc,h⟩:=aE h;exact⟨_,_,wv hT ho hd ht hy eH hc,h⟩
  ·obtain⟨os,U5,h⟩:=aE h;split at h
   ·cases eH:ti.desc.agg with
    | true =>
     simp only[eH,dN]at h;exact⟨_,_,yx hT ho hd ht hy U5 eH h.1,h.2⟩
    | false =>
     simp only[eH,dh]at h;obtain⟨c,hc,h⟩:=aE h;exact⟨_,_,wx hT ho hd ht hy U5 eH hc,h⟩
   exact h.elim
  exact h.elim
 case h_7 t x y ho =>
  obtain⟨jL,h⟩:=h;obtain⟨x',hx,h⟩:=aE h;obtain⟨y',hy,h⟩:=aE h;unfold zR at h;obtain⟨ti,ht,h⟩:=aE h;split at h
  ·obtain⟨os,U5,h⟩:=aE h;split at h
   ·obtain⟨h1,h2,h3,h⟩:=h;exact⟨_,_,(CI hT ho jL ht hx U5 hy h1 h2 h3).close ml,h⟩
   exact h.elim
  exact h.elim
 case h_8 t x i ho =>
  obtain⟨x',hx,h⟩:=aE h;obtain⟨i',hi,h⟩:=aE h;unfold oB at h;obtain⟨ti,ht,h⟩:=aE h;split at h
  ·rename_i e aR;obtain⟨te,he,h⟩:=aE h;split at h
   ·split at h
    ·obtain⟨h1,h2,h⟩:=h;obtain⟨y,h3,h⟩:=aE h;exact⟨_,_,pQ hT ho hd ht aR he h1 hx hi h2 h3,h⟩
    ·obtain⟨h1,h2,h⟩:=h;exact⟨_,_,qK hT ho hd ht aR he hx hi h1 h2,h⟩
    ·obtain⟨h1,h2,h⟩:=h;exact⟨_,_,qL hT ho hd ht aR he hx hi h1 h2,h⟩
    exact h.elim
   exact h.elim
  ·rename_i len e aR;obtain⟨te,he,h⟩:=aE h;split at h
   ·split at h
    ·obtain⟨h1,h2,h⟩:=h;exact⟨_,_,pP hT ho hd ht aR he hx hi h1 h2,h⟩
    ·obtain⟨h1,h2,h⟩:=h;exact⟨_,_,nr hT ho hd ht aR he hx hi h1 h2,h⟩
    exact h.elim
   exact h.elim
  exact h.elim
 case h_9 op t x y t' ho =>
  cases hn:isNil y with
  | true =>
   simp only[hn,dN]at h;have hy:=Du hn;subst hy;obtain⟨x',hx,h⟩:=aE h;unfold K6 at h;obtain⟨ti,ht,h⟩:=aE h;obtain⟨e,aR,h⟩:=aE h;obtain⟨b,hb,h⟩:=aE h;obtain⟨r,hr,h⟩:=aE h;exact⟨_,_,Ax hT ho hd ht (TD.l9 aR) hx (GX hb) (mV hr),h⟩
  | false =>
  simp only[hn,dh]at h;obtain⟨x',hx,h⟩:=aE h;obtain⟨y',hy,h⟩:=aE h;unfold pE at h;split at h
  ·cases hs:dx op with
   | true =>
    simp only[hs,dN]at h;obtain⟨h0,h1,h2,h⟩:=h;rw[yZ]at h1;rw[yQ]at h2;exact⟨_,_,wz ho hd hx hy hs h0 h1 h2,h⟩
   | false =>
    simp only[hs,dh]at h;obtain⟨hk,h⟩:=h;subst hk;exact BX ho hd hx hy h
  ·obtain⟨r,hr,h⟩:=aE h;refine⟨_,_,wu ho hd hx hy ?_,h⟩;cases op<;>simp[uH]at hr<;>simp[hr]
  ·obtain⟨hb,h⟩:=h;obtain⟨r,hr,h⟩:=aE h;refine⟨_,_,Au ho hd hb hx hy ?_,h⟩;cases op<;>simp[qN]at hr<;>simp[hr]
  ·obtain⟨⟨e,he⟩,h⟩:=h;obtain⟨b,hb,h⟩:=aE h;obtain⟨r,hr,h⟩:=aE h;exact⟨_,_,wq ho hd he hx hy (G8 hb) (mV hr),h⟩
  ·obtain⟨⟨e,n,he,hn,z6⟩,xw,h⟩:=h;obtain⟨r,hr,h⟩:=aE h;exact⟨_,_,As ho hd he hn z6 hx hy xw hr,h⟩
  ·obtain⟨⟨k1,k2,k3,hP⟩,h9⟩:=h;obtain⟨r,hr,h8⟩:=aE h9;subst k1;subst k2;subst k3;exact⟨_,_,Aw ho hd hP hx hy (mV hr),h8⟩
  exact h.elim
 case h_10 op t x ho =>
  obtain⟨x',hx,h⟩:=aE h;unfold K9 at h;split at h
  ·exact⟨_,_,Ig ho hd hx,h⟩
  ·obtain⟨h1,h2,h⟩:=h;rw[yZ]at h1;rw[yQ]at h2;exact⟨_,_,Ic ho hd hx h1 h2,h⟩
  exact h.elim
 case h_11 t x lo hi mx ho =>
  obtain⟨x',hx,h⟩:=aE h;unfold zQ at h;obtain⟨ti,ht,h⟩:=aE h;split at h
  ·rename_i e aR;obtain⟨te,he,h⟩:=aE h;split at h
   ·obtain⟨h1,h⟩:=h;obtain⟨l,hl,h⟩:=jI h;obtain⟨hh,po,h2,h3,h⟩:=jI h;rcases Ei h with⟨e1,e2,e3,hq⟩|hq
    ·subst e1;subst e2;subst e3;exact⟨_,_,tt hT ho hd ht aR he hx hl po,hq⟩
    exact⟨_,_,CH hT ho hd ht aR he h1 hx hl po h2 h3,hq⟩
   ·obtain⟨l,hl,h⟩:=jI h;obtain⟨hh,po,h2,h3,h4,h5,h⟩:=jI h;exact⟨_,_,wA hT ho hd ht aR he hx hl po h2 h3 h4 h5,h⟩
   ·obtain⟨h1,h⟩:=h;obtain⟨l,hl,hq⟩:=jI h;obtain⟨hh,po,h2,h3,hz⟩:=jI hq;subst h2;subst h3;exact⟨_,_,uF hT ho hd ht aR he hx hl po h1,hz⟩
   ·obtain⟨l,hl,hq⟩:=jI h;obtain⟨hh,po,h2,h3,h4,hz⟩:=jI hq;subst h2;exact⟨_,_,wB hT ho hd ht aR he hx hl po h3 h4,hz⟩
   exact h.elim
  exact h.elim
 case h_12 t parts ho =>
  unfold zM at h;obtain⟨ti,ht,h⟩:=aE h;split at h
  ·rename_i fs aR;obtain⟨pl,tQ,h⟩:=aE h;obtain⟨ps,mO,gG,h⟩:=aE h;obtain⟨cs,fw,h⟩:=aE h;exact⟨_,_,CD hT ho hd ht aR tQ mO (kl gG) fw,h⟩
  ·rename_i n e aR;obtain⟨te,he,h⟩:=aE h;obtain⟨ps,mO,gG,h⟩:=aE h;obtain⟨cs,fw,h⟩:=aE h;exact⟨_,_,uz hT ho hd ht aR he mO (kl gG) fw,h⟩
  exact h.elim
 case h_13 t len parts ho =>
  unfold na at h;obtain⟨ti,ht,h⟩:=aE h;split at h
  ·rename_i e aR;obtain⟨te,he,h⟩:=aE h;obtain⟨ps,mO,gG,h⟩:=aE h;obtain⟨xs,GA,h1,h2,h3,h4,h⟩:=aE h;exact⟨_,_,tn hT ho hd ht aR he h1 mO (kl gG) GA h2 (qC h3) h4,h⟩
  exact h.elim
 case h_14 t ho =>
  obtain⟨ti,ht,h⟩:=aE h;exact⟨_,_,(CC hT ho hd ht).close eO,h⟩
 case h_15 t x ho =>
  obtain⟨y,hy,hf,h⟩:=aE h;exact⟨_,_,(H' ho hd hy hf).close eO,h⟩
 case h_16 t ho =>
  unfold sw at h;obtain⟨ti,ht,h⟩:=aE h;split at h
  ·obtain⟨kt,wF,h⟩:=aE h;exact⟨_,_,(yy kt ho hd).close eO,h⟩
  exact h.elim
 case h_17 t x y ho =>
  obtain⟨x',hx,h⟩:=aE h;obtain⟨y',hy,h⟩:=aE h;unfold oC at h;obtain⟨ti,ht,h⟩:=aE h;split at h
  ·rename_i e aR;obtain⟨te,he,h⟩:=aE h;split at h
   ·obtain⟨e1,h1,h2,h3,h4,hq⟩:=h;subst e1;by_cases Qk:md.made=true
    ·rw[Qk,dN]at hq;exact⟨_,_,tq hT ho hd ht aR he hx hy h1 h2 h3 h4 hq.1,hq.2⟩
    rw[show md.made=false by simpa using Qk,dh]at hq;exact⟨_,_,(uE hT ho hd ht aR he hx hy h1 h2 h3 h4).close eO,hq⟩
   exact h.elim
  exact h.elim
 case h_18 f first captured ho =>
  obtain⟨fs,V7,h⟩:=aE h;obtain⟨cs,fw,h⟩:=aE h;exact⟨_,_,wy ho hd V7 fw,h⟩
 case h_19 t x y ok ho =>
  obtain⟨x',hx,h⟩:=aE h;obtain⟨y',hy,h⟩:=aE h;unfold vM at h;obtain⟨ti,ht,h⟩:=aE h;split at h
  ·rename_i k e aR;obtain⟨kt,wF,h⟩:=aE h;obtain⟨d,hk,zY⟩:=sa wF;obtain⟨te,he,cM,h⟩:=aE h;split at h
   ·obtain⟨ik,h⟩:=h;split at h
    ·obtain⟨e1,hq⟩:=h;subst e1;exact⟨_,_,uC hT ho hd ht aR hk zY he cM hx hy ik,hq⟩
    ·obtain⟨es,Tk,h⟩:=aE h;split at h
     case h_2=>exact h.elim
     obtain⟨e1,hq⟩:=h;subst e1;exact⟨_,_,uD hT ho hd ht aR hk zY he cM hx Tk hy ik,hq⟩
    ·exact⟨_,_,tp hT ho hd ht aR hk zY he cM hx hy,h⟩
    exact h.elim
   exact h.elim
  exact h.elim
 case h_20 t x y v ho =>
  obtain⟨jL,h⟩:=h;obtain⟨x',hx,h⟩:=aE h;obtain⟨y',hy,h⟩:=aE h;obtain⟨v',hv,h⟩:=aE h;unfold jZ at h;obtain⟨ti,ht,h⟩:=aE h;split at h
  ·rename_i k e aR;obtain⟨kt,wF,h⟩:=aE h;obtain⟨d,hk,zY⟩:=sa wF;split at h
   ·obtain⟨ik,h⟩:=h;obtain⟨es,Tk,h⟩:=aE h;split at h
    ·obtain⟨e1,hq⟩:=h;subst e1;exact⟨_,_,(nL hT (.inl ho) jL ht aR hk zY hx Tk hy ik hv).close ml,hq⟩
    exact h.elim
   exact h.elim
  exact h.elim
 case h_21 t x y v ho =>
  obtain⟨jL,h⟩:=h;obtain⟨x',hx,h⟩:=aE h;obtain⟨y',hy,h⟩:=aE h;obtain⟨v',hv,h⟩:=aE h;unfold jZ at h;obtain⟨ti,ht,h⟩:=aE h;split at h
  ·rename_i k e aR;obtain⟨kt,wF,h⟩:=aE h;obtain⟨d,hk,zY⟩:=sa wF;split at h
   ·obtain⟨ik,h⟩:=h;obtain⟨es,Tk,h⟩:=aE h;split at h
    ·obtain⟨e1,hq⟩:=h;subst e1;exact⟨_,_,(nL hT (.inr ho) jL ht aR hk zY hx Tk hy ik hv).close ml,hq⟩
    exact h.elim
   exact h.elim
  exact h.elim
 case h_22 x k ho =>
  obtain⟨x',hx,h⟩:=aE h;split at h
  ·obtain⟨r,hr,h⟩:=aE h;exact⟨_,_,yv ho hd hx hr,h⟩
  exact h.elim
 case h_23 c ho =>
  obtain⟨callee,args,rL⟩:=c;simp only at h;unfold dQ at h;split at h
  ·obtain⟨f',hf,h⟩:=aE h;obtain⟨dE,has,h⟩:=aE h;unfold zN at h;split at h
   ·rcases h with⟨r,h1,h2,h⟩|⟨r,O',h1,h|⟨n,l,hk,h⟩⟩|⟨r,h1,h⟩
    ·exact⟨_,_,CF ho hd hf has h1 h2,h⟩
    ·exact⟨_,_,uA ho hd hf has h1,h⟩
    ·exact⟨_,_,(uA ho hd hf has h1).close hk,h⟩
    exact⟨_,_,CG ho hd hf has h1,h⟩
   exact h.elim
  ·split at h
   ·rename_i x t e1 e2;have ea:args = #[x]:=Array.toList_inj.1 e1;have et:rL = #[t]:=Array.toList_inj.1 e2;subst ea;subst et;obtain⟨x',hx,h⟩:=aE h;unfold K4 at h;obtain⟨ti,ht,h⟩:=aE h;obtain⟨e,aR,h⟩:=aE h;obtain⟨n,hn,h⟩:=aE h;exact⟨_,_,Ia hT ho hd ht (TD.l9 aR) hx (GM hn),h⟩
   exact h.elim
  ·split at h
   ·rename_i x y t t' e1 e2;have ea:args = #[x,y]:=Array.toList_inj.1 e1;have et:rL = #[t,t']:=Array.toList_inj.1 e2;subst ea;subst et;obtain⟨x',hx,h⟩:=aE h;obtain⟨y',hy,h⟩:=aE h;unfold vK at h;obtain⟨ti,ht,h⟩:=aE h;obtain⟨e,aR,h⟩:=aE h;have aR:=TD.l9 aR;obtain⟨te,he,h⟩:=aE h;split at h
    ·obtain⟨h0,h1,h2,h3,h4,hq⟩:=h;subst h0;subst h2;by_cases TM:md.app=true
     ·rw[TM,dN]at hq;obtain⟨Yu,U7⟩:=hq;cases Qk:md.made with
      | true =>
       rw[Qk,dN]at U7;exact⟨_,_,(qH hT ho hd ht aR he h1 hx hy Yu h3 h4).close eO,U7⟩
      | false =>
       rw[Qk,dh]at U7;exact⟨_,_,(tk hT ho hd ht aR he h1 hx hy Yu h3 h4).close eO,U7⟩
     rw[show md.app=false by simpa using TM,dh]at hq;exact⟨_,_,(uw hT ho hd ht aR he h1 hx hy h3 h4).close eO,hq⟩
    ·obtain⟨h0,h1,h2,h3,h4,h5,hq⟩:=h;subst h0;subst h2;exact⟨_,_,(tm hT ho hd ht aR he h1 hx hy h3 h4 h5).close ml,hq⟩
    ·obtain⟨h0,h1,h2,h3,h4,h5,h6,hq⟩:=h;subst h0;subst h1;cases TM:md.app with
     | true =>
      rw[TM,dN]at hq;exact⟨_,_,(tl hT ho hd ht aR he h2 hx hy h3 h4 h5 h6).close eO,hq⟩
     | false =>
      rw[TM,dh]at hq;exact⟨_,_,(rT hT ho hd ht aR he h2 hx hy h3 h4 h5 h6).close eO,hq⟩
    ·obtain⟨h0,h1,hq⟩:=h;subst h0;obtain⟨o1,r7,hq⟩:=aE hq;split at hq
     ·obtain⟨h2,h3,h4,hq⟩:=hq;exact⟨_,_,(ux hT ho hd ht aR he h1 hx r7 hy h2 h3 h4).close ml,hq⟩
     exact hq.elim
    ·obtain⟨h0,h1,h2,hq⟩:=h;subst h0;subst h2;obtain⟨o1,r7,hq⟩:=aE hq;split at hq
     ·obtain⟨h3,h4,h5,h6,hq⟩:=hq;exact⟨_,_,(uy hT ho hd ht aR he h1 hx r7 hy h3 h4 h5 h6).close GG,hq⟩
     exact hq.elim
    exact h.elim
   exact h.elim
  ·split at h
   ·rename_i x t e1 e2;have ea:args = #[x]:=Array.toList_inj.1 e1;have et:rL = #[t]:=Array.toList_inj.1 e2;subst ea;subst et;obtain⟨x',hx,h⟩:=aE h;unfold K3 at h;obtain⟨ti,ht,h⟩:=aE h;obtain⟨e,aR,h⟩:=aE h;obtain⟨n,hn,h⟩:=aE h;obtain⟨sz,xs,e3,e4⟩:=FP hn;subst e3;subst e4;exact⟨_,_,CE hT ho hd ht (TD.l9 aR) hx,h⟩
   exact h.elim
  ·split at h
   ·rename_i x t e1 e2;have ea:args = #[x]:=Array.toList_inj.1 e1;have et:rL = #[t]:=Array.toList_inj.1 e2;subst ea;subst et;obtain⟨jL,h⟩:=h;obtain⟨x',hx,h⟩:=aE h;unfold zO at h;obtain⟨ti,ht,h⟩:=aE h;obtain⟨e,aR,h⟩:=aE h;obtain⟨te,he,h⟩:=aE h;split at h
    ·obtain⟨o1,r7,h⟩:=aE h;split at h
     ·obtain⟨h2,h3,h4,h⟩:=h;exact⟨_,_,(wo hT ho jL ht (TD.l9 aR) he hx r7 h2 h3 h4).close ml,h⟩
     exact h.elim
    exact h.elim
   exact h.elim
  ·split at h
   ·rename_i x y e1;have ea:args = #[x,y]:=Array.toList_inj.1 e1;subst ea;obtain⟨x',hx,h⟩:=aE h;obtain⟨y',hy,h⟩:=aE h;unfold K8 at h;split at h
    ·exact⟨_,_,Ih ho hd hx hy,h⟩
    exact h.elim
   exact h.elim
  ·split at h
   ·rename_i x y e1;have ea:args = #[x,y]:=Array.toList_inj.1 e1;subst ea;obtain⟨x',hx,h⟩:=aE h;obtain⟨y',hy,h⟩:=aE h;unfold K5 at h;split at h
    ·exact⟨_,_,Ib ho hd hx hy,h⟩
    exact h.elim
   exact h.elim
  exact h.elim
 case h_24 x ho =>
  obtain⟨y,hy,h⟩:=aE h;unfold kV at h;split at h
  ·exact⟨_,_,py ho hd hy (.inl ⟨_,_,rfl⟩),h⟩
  ·exact⟨_,_,py ho hd hy (.inr ⟨_,_,rfl⟩),h⟩
  exact h.elim
 case h_25=>exact h.elim
def Ix(d:Option Nat)(n:Nat):Prop :=
 match d with
 | some d=>d<n
 | none=>True
def iR:List (Nat×Nat)->Nat->Option Nat
 | [],_=>none
 | (k,d)::r,j=>if k=j then some d else iR r j
def ld(i:Nat)(d:Option Nat)(ds:List (Nat×Nat)):List (Nat×Nat) :=
 match d with
 | some d=>(i,d)::ds
 | none=>ds
def Sm(σ:St)(f:St->Prop)(_t:Tag f:={}):Prop:=f σ
theorem QV(n:Nat)(s:List (Nat×ae))(O:List ai)(f:St->Prop)(t:Tag f):Sm ⟨n,s,O⟩ f t=f ⟨n,s,O⟩:=rfl
def fq(P:Program)(aT:eh)(md:Md):List Oper->Nat->List (Nat×Nat)->St->List Kind->(St->List Kind->Prop)->Prop
 | [],_,_,σ,ks,K=>K σ ks
 | o::r,i,ds,σ,ks,K=>Ix o.dst σ.n ∧
  match o.guard with
  | none=>K7 P aT md o σ fun x m=>Sm ⟨σ.n,pq o.dst x σ.bn,m.post σ.objs⟩ fun τ=>fq P aT md r (i+1) (ld i o.dst ds) τ (m.kind::ks) K
  | some (j,want)=>on (iR ds j) fun t=>on (σ.get t) fun
   | .v (.bool b)=>pt (b == want)
    (fun _=>K7 P aT md o ⟨σ.n,bt t (.v (.bool want)) σ.bn,σ.objs⟩ fun x m=>Sm ⟨σ.n,pq o.dst x (bt t (.v (.bool want)) σ.bn),m.post σ.objs⟩ fun τ=>fq P aT md r (i+1) (ld i o.dst ds) τ (m.kind::ks) K)
    (fun _=>Sm ⟨σ.n,qR σ.n o.dst (bt t (.v (.bool !want)) σ.bn),σ.objs⟩ fun τ=>fq P aT md r (i+1) (ld i o.dst ds) τ (.pure::ks) K)
   | .cx []=>Sm ⟨σ.n,qR σ.n o.dst σ.bn,σ.objs⟩ fun τ=>fq P aT md r (i+1) (ld i o.dst ds) τ (.pure::ks) K
   | _=>False
theorem Cj{all:Array Oper}{i:Nat}{o:Oper}(ho:all[i]?=some o){ds:List (Nat×Nat)}(h:∀j t,iR ds j=some t->(all[j]?).bind (·.dst)=some t):∀j t,iR (ld i o.dst ds) j=some t->(all[j]?).bind (·.dst)=some t:=by
 intro j t hj;cases hd:o.dst with
 | none =>
  rw[hd]at hj;exact h j t hj
 | some d =>
  rw[hd]at hj;simp only[ld,iR]at hj;split at hj
  ·rename_i e;subst e;simp only[Option.some.injEq]at hj;subst hj;simp[ho,hd]
  exact h j t hj
theorem BJ{σ:St}{t:Nat}{x:ae}(h:σ.get t=some x):gK ⟨σ.n,bt t x σ.bn,σ.objs⟩ σ:=by
 refine⟨rfl,rfl,fun s=>?_⟩;simp only[St.get,fT];split
 ·rename_i e;subst e;exact h.symm
 rfl
theorem mJ{P:Program}{ops:Array Oper}:∀{l l':List (Nat×Kind)} {σ τ ρ:St},eJ P ops l σ τ->eJ P ops l' τ ρ->eJ P ops (l++l') σ ρ
 | [],_,_,_,_,h,k=>k.same h.symm
 | (i,q)::r,_,_,_,_,h,k=>by
  obtain⟨fN,h1,h2⟩:=h;exact⟨fN,h1,mJ h2 k⟩
theorem dW{P:Program}{aT:eh}{md:Md}(hT:b7 P aT){all:Array Oper}{K:St->List Kind->Prop}:∀(l:List Oper) (k:Nat) (ds:List (Nat×Nat)) (σ:St) (ks:List Kind),(∀j,l[j]?=all[k+j]?)->(∀j t,iR ds j=some t->(all[j]?).bind (·.dst)=some t)->fq P aT md l k ds σ ks K ->
  ∃(τ:St) (sT:List Kind),eJ P all (sT.zipIdx k |>.map fun p=>(p.2,p.1)) σ τ∧sT.length=l.length∧K τ (sT.reverse++ks)
 | [],k,_,σ,ks,_,_,h=>⟨σ,[],gK.refl σ,rfl,h⟩
 | o::r,k,ds,σ,ks,hl,tO,h=>by
  obtain⟨hd,h⟩:=h;have S9:∀d,o.dst=some d->d<σ.n:=fun d e=>by
   rw[e]at hd;exact hd
  have ho:all[k]?=some o:=by
   have:=hl 0;simpa using this.symm
  have Ms:=Cj ho tO;have hr:∀j,r[j]?=all[k+1+j]?:=fun j=>by
   have:=hl (j+1);rw[show k+1+j=k+(j+1) by omega];simpa using this
  cases hg:o.guard with
  | none =>
   simp only[hg]at h;obtain⟨x,m,hc,h⟩:=vO hT S9 h;obtain⟨τ,sT,h1,h2,h3⟩:=dW hT r (k+1) _ _ _ hr Ms h;refine⟨τ,m.kind::sT,?_,by simp[h2],by simpa using h3⟩;simp only[List.zipIdx_cons,List.map_cons];exact⟨_,⟨o,ho,.inl ⟨by simp[cX,hg],x,m,hc,rfl,rfl⟩⟩,h1⟩
  | some p =>
   obtain⟨j,want⟩:=p;simp only[hg]at h;obtain⟨t,Lq,h⟩:=aE h;have ht:=tO j t Lq;obtain⟨y,hy,h⟩:=aE h;split at h
   ·rename_i b;by_cases hb:b=want
    ·rw[show(b == want)=true by simp[hb],dN]at h;have hs:=BJ (hb ▸ hy);obtain⟨x,m,hc,h⟩:=vO hT (σ:=⟨σ.n,bt t (.v (.bool want)) σ.bn,σ.objs⟩) S9 h;obtain⟨τ,sT,h1,h2,h3⟩:=dW hT r (k+1) _ _ _ hr Ms h;refine⟨τ,m.kind::sT,?_,by simp[h2],by simpa using h3⟩;simp only[List.zipIdx_cons,List.map_cons];have dG:lF P all k m.kind ⟨σ.n,bt t (.v (.bool want)) σ.bn,σ.objs⟩ (St.put ⟨σ.n,bt t (.v (.bool want)) σ.bn,σ.objs⟩ o.dst x (m.post σ.objs)) :=
      ⟨o,ho,.inl ⟨by simp[cX,hg,ht,St.get,fT],x,m,hc,rfl,rfl⟩⟩
     obtain⟨fN,q1,q2⟩:=dG.same hs;exact⟨fN,q1,h1.same q2⟩
    rw[show(b == want)=false by simp[hb],dh]at h;have Db:b=!want:=by cases b<;>cases want<;>simp_all
    have hs:=BJ (Db ▸ hy);obtain⟨τ,sT,h1,h2,h3⟩:=dW hT r (k+1) _ _ _ hr Ms h;refine⟨τ,.pure::sT,?_,by simp[h2],by simpa using h3⟩;simp only[List.zipIdx_cons,List.map_cons];have dG:lF P all k .pure ⟨σ.n,bt t (.v (.bool !want)) σ.bn,σ.objs⟩ (St.skip ⟨σ.n,bt t (.v (.bool !want)) σ.bn,σ.objs⟩ o.dst) :=
     ⟨o,ho,.inr ⟨by cases want<;>simp[cX,hg,ht,St.get,fT],rfl,rfl⟩⟩
    obtain⟨fN,q1,q2⟩:=dG.same hs;exact⟨fN,q1,h1.same q2⟩
   ·obtain⟨τ,sT,h1,h2,h3⟩:=dW hT r (k+1) _ _ _ hr Ms h;refine⟨τ,.pure::sT,?_,by simp[h2],by simpa using h3⟩;simp only[List.zipIdx_cons,List.map_cons];exact⟨_,⟨o,ho,.inr ⟨by simp[cX,hg,ht,hy],rfl,rfl⟩⟩,h1⟩
   exact h.elim
def fC(ops:Array Oper)(ks:List Kind):Prop:=oh ops ks=true
def iV(draw:Bool)(p:Unit->Prop)(_t:Tag p:={}):Prop:=draw=true->p ()
theorem AF(p:Unit->Prop)(t:Tag p):iV false p t=True:=by simp[iV]
theorem CU(p:Unit->Prop)(t:Tag p):iV true p t=p ():=by simp[iV]
theorem kE{P:Program}{kb:Nat}{aT:eh}(md:Md)(hT:b7 P aT)(hm:P.follows .mixedOrders=true){id:Nat}{l:List Oper}{draw:Bool}{Q:dR->St->Prop}{σ:St}
  (h:fq P aT md l 0 [] σ [] fun τ ks=>iV draw (fun _=>fC l.toArray ks.reverse)∧At τ (Q .norm)):cn P kb (.region id l.toArray draw) Q σ:=by
 obtain⟨ops,Qp⟩:∃ops,ops=l.toArray:=⟨_,rfl⟩
 have hl:l=ops.toList:=by rw[Qp]
 rw[<-Qp]at h ⊢;rw[hl]at h;clear Qp hl;obtain⟨τ,ks,h1,h2,h3,h4⟩:=dW (all:=ops) hT ops.toList 0 [] σ [] (fun j=>by simp) (fun j t hj=>by simp[iR]at hj) h;intro base a g hb hr;have qt:eJ P ops ((List.range ops.size).map fun i=>(i,ks.getD i .write)) σ τ:=by
  have e:(ks.zipIdx 0).map (fun p=>(p.2,p.1))=(List.range ops.size).map fun i=>(i,ks.getD i .write):=by
   apply List.ext_getElem?;intro i;simp only[List.getElem?_map];have hlen:ks.length=ops.size:=by simpa using h2
   by_cases hi:i<ops.size
   ·rw[List.getElem?_range hi];simp[hlen,hi]
   rw[List.getElem?_eq_none (by simp only[List.length_zipIdx];omega),List.getElem?_eq_none (by simp only[List.length_range];omega)];rfl
  rw[<-e];exact h1
 cases draw with
 | false=>exact lW qt hr fun a g z8=>⟨g,τ,rfl,z8,h4⟩
 | true =>
  have hB:=h3 rfl;simp only[List.append_nil,List.reverse_reverse]at hB;exact nq hm hB qt hr fun a g z8=>⟨g,τ,rfl,z8,h4⟩
theorem fE{P:Program}{kb:Nat}{aT:eh}(hT:b7 P aT)(hm:P.follows .mixedOrders=true){id:Nat}{l:List Oper}{draw:Bool}{Q:dR->St->Prop}{σ:St}
  (h:fq P aT ⟨false,false⟩ l 0 [] σ [] fun τ ks=>iV draw (fun _=>fC l.toArray ks.reverse)∧At τ (Q .norm)):cn P kb (.region id l.toArray draw) Q σ:=kE ⟨false,false⟩ hT hm h
def slotsOf:Nat->List ae->List (Nat×ae)
 | _,[]=>[]
 | k,x::r=>(k,x)::slotsOf (k+1) r
theorem mS:∀(l:List ae) (k s:Nat) (x:ae),look (slotsOf k l) s=some x->k<=s∧l[s-k]?=some x
 | [],k,s,x,h=>by cases h
 | y::r,k,s,x,h=>by
  simp only[slotsOf,look]at h;split at h
  ·rename_i e;subst e;simp only[Option.some.injEq]at h;subst h;simp
  obtain⟨h1,h2⟩:=mS r (k+1) s x h;refine⟨by omega,?_⟩;rw[show s-k=(s-(k+1))+1 by omega];simpa using h2
def kS(aT:eh)(σ:St):ResultVar->Option ae
 | .tmp t=>σ.get t
 | .cell a ty =>
  match σ.get a,aT ty with
  | some (.mp id off),some ti =>
   match σ.objs[id]? with
   | some (.cells cs)=>if ti.desc.agg then(if off+ti.size<=cs.length then some (.agg ((cs.drop off).take ti.size))else none)else cs[off]?
   | _=>none
  | _,_=>none
def en(aT:eh)(σ:St):List ResultVar->Option (List ae)
 | []=>some []
 | v::r =>
  match kS aT σ v,en aT σ r with
  | some x,some xs=>some (x::xs)
  | _,_=>none
def gE:List ae->ae
 | [x]=>x
 | xs=>.cx xs
def kR(a:Act):ResultVar->Sem Value
 | .tmp t=>pure (a.tmps.getD t undef)
 | .cell c t=>do loadVar t (<-asAddr (a.tmps.getD c undef))
theorem BG{P:Program}{aT:eh}(hT:b7 P aT){σ:St}{base:G}{a:Act}{g:G}(hr:Rel base σ a g){v:ResultVar}{x:ae}(h:kS aT σ v=some x) :
  ∃u,(kR a v).run P g.w=.ok u g.w∧RV g x u:=by
 cases v with
 | tmp t =>
  obtain⟨u,h1,h2⟩:=hr.slot t x h;exact⟨u,by simp[kR,Array.getD_eq_getD_getElem?,h1],h2⟩
 | cell c ty =>
  simp only[kS]at h;split at h
  ·rename_i id off ti hc Pd;obtain⟨u,h1,h2⟩:=hr.slot c _ hc;obtain⟨l,o1,he,ho,_,eu⟩:=h2.mU;split at h
   ·rename_i cs fw;have De:g.objs[id]?=some (.cells cs):=by rw[hr.objs];exact fw
    obtain⟨arr,t',_,dq,hlen,wJ,dk,_⟩:=hr.good.row De he;subst eu;split at h
    ·rename_i eH;split at h
     ·rename_i hs;simp only[Option.some.injEq]at h;subst h;obtain⟨f,hf⟩:∃f:Nat->Value,∀j,off+j<arr.size->arr[off+j]?=some (f j):=⟨fun j=>arr.getD (off+j) undef,fun j hj=>by simp[Array.getD_eq_getD_getElem?,hj]⟩
      have bI:=(hT ty ti Pd).n7 eH g.w l.block off f (fun j hj=>by
       rw[cell_of_row dq];exact hf j (by omega))
      refine⟨.agg ((List.range ti.size).map f).toArray,by simp[kR,Array.getD_eq_getD_getElem?,h1,asAddr,bI],?_⟩;have hl:((cs.drop off).take ti.size).length=ti.size:=by simp;omega
      have:=RV.ofRow (g:=g) ((cs.drop off).take ti.size) f (fun c hc=>dk c (List.mem_of_mem_drop (List.mem_of_mem_take hc))) (fun j c hj=>by
       have gV:=my hj;rw[List.getElem?_drop]at gV;have a8:=I gV;exact wJ (off+j) c _ gV (hf j (by omega)))
      rw[hl]at this;exact this
     cases h
    rename_i eH;have a8:=I h;have dp:g.w.cell? ⟨l.block,off,none⟩=some arr[off]:=by
     rw[cell_of_row dq];simp[show off<arr.size by omega]
    have bI:=(hT ty ti Pd).mQ (by simpa using eH) g.w ⟨l.block,off,none⟩ _ dp;exact⟨arr[off],by simp[kR,Array.getD_eq_getD_getElem?,h1,asAddr,bI],wJ off x _ h (by simp[show off<arr.size by omega])⟩
   cases h
  cases h
theorem mZ{P:Program}{aT:eh}(hT:b7 P aT){σ:St}{base:G}{a:Act}{g:G}(hr:Rel base σ a g):∀{vs:List ResultVar} {xs:List ae},en aT σ vs=some xs ->
  ∃us:List Value,(vs.mapM (kR a)).run P g.w=.ok us g.w∧iW g xs us.toArray
 | [],xs,h=>by
  simp only[en,Option.some.injEq]at h;subst h;exact⟨[],by simp,⟨rfl,by simp⟩⟩
 | v::r,xs,h=>by
  simp only[en]at h;cases hv:kS aT σ v with
  | none=>simp[hv]at h
  | some x =>
   cases xD:en aT σ r with
   | none=>simp[hv,xD]at h
   | some ys =>
    simp only[hv,xD,Option.some.injEq]at h;subst h;obtain⟨u,h1,h2⟩:=BG hT hr hv;obtain⟨us,h3,h4,h5⟩:=mZ hT hr xD;refine⟨u::us,?_,by simpa using h4,fun j c w e1 e2=>?_⟩
    ·rw[List.mapM_cons];simp only[Sem.run_bind,h1,Result.andThen_ok,h3,Sem.run_pure]
    cases j with
    | zero =>
     simp at e1 e2;subst e1;subst e2;exact h2
    | succ j=>exact h5 j c w (by simpa using e1) (by simpa using e2)
def Ep(aT:eh)(rv:List ResultVar)(sh:Bool)(k:Nat)(R:ae->List ai->Prop):dR->St->Prop
 | .exit _,_=>False
 | _,σ=>on (en aT σ rv) fun rs=>k<=σ.objs.length∧(∀o∈σ.objs.take k,o.upto k)∧(gE (if sh then rs.map ae.share else rs)).upto k∧R (gE (if sh then rs.map ae.share else rs)) (σ.objs.take k)
theorem RV.gE{g:G}{xs:List ae}{us:List Value}(h:iW g xs us.toArray):RV g (gE xs) (if h:us.toArray.size=1 then us.toArray[0]else .tuple us.toArray):=by
 obtain⟨h1,h2⟩:=h
 match xs,us,h1,h2 with
 | [],[],_,h2=>exact .cx rfl (by simp)
 | [x],[u],_,h2 =>
  simp only[List.size_toArray,List.length_singleton,dite_true];exact h2 0 x u rfl rfl
 | x::y::r,u0::u1::s,h1,h2 =>
  rw[dif_neg (by simp)];exact .cx h1 h2
 | [],_::_,h1,_=>simp at h1
 | _::_,[],h1,_=>simp at h1
 | [_],_::_::_,h1,_=>simp at h1
 | _::_::_,[_],h1,_=>simp at h1
theorem fo{P:Program}{aT:eh}(hT:b7 P aT){f:FuncId}{fn:Func}{c:Code}{O:List ai}{args:List ae}{R:ae->List ai->Prop}(sh:Bool)(k:Nat)(hf:P.funcs[f]?=some fn)(hb:fn.body=some c)
  (uW : (fn.name == "runtime.NumGoroutine") = false) (hn : args.length <= fn.ntmps) (hk : O.length <= k) (h : cn P O.length c (Ep aT fn.results.toList sh k R) ⟨fn.ntmps, slotsOf 0 args, O⟩) : bh P f O args R := by
 refine⟨⟨fn,hf,uW,by simp[hb]⟩,fun g vs hg ho ha=>?_⟩;refine calls_of_wp hf hb ?_;have bH:Rel g ⟨fn.ntmps,slotsOf 0 args,O⟩ { tmps:=vs++Array.replicate (fn.ntmps-vs.size) undef,defers:=[] } g:={
  le:=Le.refl g
  good:=hg
  objs:=ho
  size:=by
   have:=ha.1;simp only[Array.size_append,Array.size_replicate];omega
  defers:=rfl
  slot:=fun s x hx=>by
   obtain⟨_,h1⟩:=mS args 0 s x hx;simp only[Nat.sub_zero]at h1;have a8:=I h1;have j':s<vs.size:=by rw[ha.1];exact a8
   refine⟨vs[s],?_,ha.2 s x _ h1 (by simp[j'])⟩;simp only;rw[Array.getElem?_append,if_pos j'];simp[j'] }
 refine wp_mono (h g _ g (by rw[ho];exact Nat.le_refl _) bH) fun e a w hp=>?_;have key:∀g' fN,g'.w=w->Rel g fN a g'->(on (en aT fN fn.results.toList) fun rs=>k<=fN.objs.length∧(∀o∈fN.objs.take k,o.upto k)∧(Av.gE (if sh then rs.map ae.share else rs)).upto k∧R (Av.gE (if sh then rs.map ae.share else rs)) (fN.objs.take k)) ->
   a.defers=[]∧∃v,(results fn a.tmps).run P w=.ok v w∧∃g' v' r,Ending.returned v=.returned v'∧g'.w=w∧Le g g'∧Good g'∧RV g' r v'∧R r g'.objs:=by
  intro g' fN hw hr hq;subst hw;obtain⟨rs,xD,h1,h2,h3,h4⟩:=aE hq;obtain⟨us,q1,q2⟩:=mZ hT hr xD;have hO:g'.objs=fN.objs:=hr.objs;refine⟨hr.defers,(if h:us.toArray.size=1 then us.toArray[0]else .tuple us.toArray),?_,g'.cr k,_,_,rfl,rfl,hr.le.cr (by rw[ho];exact hk),hr.good.cr (by rw[hO];exact h1) (by rw[hO];exact h2),?_,by simp only[G.cr,hO];exact h4⟩
  ·have hm:fn.results.mapM (kR a)=Functor.map List.toArray (fn.results.toList.mapM (kR a)):=Array.mapM_eq_mapM_toList;have dZ:results fn a.tmps=(do
    let vs <-fn.results.mapM (kR a)
    pure (if h:vs.size=1 then vs[0]else .tuple vs)):=rfl
   rw[dZ,hm];simp only[Sem.run_bind,Sem.run_map,q1,Result.andThen_ok,Sem.run_pure]
  have k9:iW g' (if sh then rs.map ae.share else rs) us.toArray:=by
   cases sh
   ·exact q2
   exact q2.share
  exact(RV.gE k9).cr (by rw[hO];exact h1) h3
 cases e with
 | normal =>
  obtain⟨g',fN,h1,h2,h3⟩:=hp;exact key g' fN h1 h2 h3
 | ret =>
  obtain⟨g',fN,h1,h2,h3⟩:=hp;exact key g' fN h1 h2 h3
 | exit id =>
  obtain⟨g',fN,h1,h2,h3⟩:=hp;exact h3.elim
 | goto l=>exact hp.elim
 | panic c=>exact hp.elim
 | outgrown=>exact hp.elim
theorem zB(P:Program)(kb:Nat)(c:Code)(Q:dR->St->Prop)(σ:St):bM P kb c Q .norm σ=cn P kb c Q σ:=rfl
theorem gq(P:Program)(kb:Nat)(c:Code)(Q:dR->St->Prop)(σ:St):bM P kb c Q .ret σ=Q .ret σ:=rfl
theorem zA(P:Program)(kb:Nat)(c:Code)(Q:dR->St->Prop)(σ:St)(id:Nat):bM P kb c Q (.exit id) σ=Q (.exit id) σ:=rfl
theorem um(id:Nat)(Q:dR->St->Prop)(σ:St):bC id Q .norm σ=Q .norm σ:=rfl
theorem eY(id:Nat)(Q:dR->St->Prop)(σ:St):bC id Q .ret σ=Q .ret σ:=rfl
theorem uo(id:Nat)(Q:dR->St->Prop)(σ:St):bC id Q (.exit id) σ=Q .norm σ:=by simp[bC]
theorem th{id ny:Nat}(h:ny≠id)(Q:dR->St->Prop)(σ:St):bC id Q (.exit ny) σ=Q (.exit ny) σ:=by simp[bC,h]
theorem wR{ι:Type}(L:ι->St)(μ:ι->Nat)(i:ι)(Q:dR->St->Prop)(σ:St):fP L μ i Q .norm σ = ∃j,μ j<μ i∧bj σ (L j):=rfl
theorem fH{ι:Type}(L:ι->St)(μ:ι->Nat)(i:ι)(Q:dR->St->Prop)(σ:St):fP L μ i Q .ret σ=Q .ret σ:=rfl
theorem wQ{ι:Type}(L:ι->St)(μ:ι->Nat)(i:ι)(Q:dR->St->Prop)(σ:St)(id:Nat):fP L μ i Q (.exit id) σ=Q (.exit id) σ:=rfl
def Eo:ae->Value->Bool
 | .v (.int k n),.int k' n'=>decide (k=k')&&decide (n=n')&&decide (k.min<=n)&&decide (n<=k.max)
 | .v (.bool b),.bool b'=>b == b'
 | .v (.string s),.string s'=>decide (s=s')
 | .v (.pointer none),.pointer none=>true
 | .v (.map none),.map none=>true
 | .v .nilFunc,.nilFunc=>true
 | .v .nilIface,.nilIface=>true
 | .aB _ [] .ex,.slice none 0 0=>true
 | _,_=>false
theorem B1{x:ae}{u:Value}(h:Eo x u=true):(∀g:G,RV g x u)∧x.scalar:=by
 unfold Eo at h;split at h
 ·simp only[Bool.and_eq_true,decide_eq_true_eq]at h;obtain⟨⟨⟨h1,h2⟩,h3⟩,h4⟩:=h;subst h1;subst h2;exact⟨fun g=>.v ⟨h3,h4⟩,trivial⟩
 ·simp only[beq_iff_eq]at h;subst h;exact⟨fun g=>.v trivial,trivial⟩
 ·simp only[decide_eq_true_eq]at h;subst h;exact⟨fun g=>.v trivial,trivial⟩
 ·exact⟨fun g=>.v trivial,trivial⟩
 ·exact⟨fun g=>.v trivial,trivial⟩
 ·exact⟨fun g=>.v trivial,trivial⟩
 ·exact⟨fun g=>.v trivial,trivial⟩
 ·exact⟨fun g=>.nil (fun id e=>by cases e) (by simp),trivial⟩
 cases h
def pf:List ae->List Value->Bool
 | [],[]=>true
 | x::xs,u::us=>Eo x u&&pf xs us
 | _,_=>false
theorem rK:∀{xs:List ae} {us:List Value},pf xs us=true->us.length=xs.length∧(∀g:G,∀(j:Nat) (c:ae) (u:Value),xs[j]?=some c->us[j]?=some u->RV g c u)∧∀c∈xs,c.scalar
 | [],[],_=>⟨rfl,by simp,by simp⟩
 | x::xs,u::us,h=>by
  simp only[pf,Bool.and_eq_true]at h;obtain⟨h1,h2⟩:=B1 h.1;obtain⟨h3,h4,h5⟩:=rK h.2;refine⟨by simp[h3],fun g j c w a b=>?_,fun c hc=>?_⟩
  ·cases j with
   | zero =>
    simp at a b;subst a;subst b;exact h1 g
   | succ j=>exact h4 g j c w (by simpa using a) (by simpa using b)
  rcases List.mem_cons.1 hc with e|e
  ·subst e;exact h2
  exact h5 c e
 | [],_::_,h=>by simp[pf]at h
 | _::_,[],h=>by simp[pf]at h
def oP:List Field->List (Nat×TypeId)->Bool
 | [],[]=>true
 | f::r,p::q=>decide (f.offset=p.1)&&decide (f.type=p.2)&&oP r q
 | _,_=>false
theorem qT:∀{fs:List Field} {ps:List (Nat×TypeId)},oP fs ps=true->fs.map (fun f=>(f.offset,f.type))=ps
 | [],[],_=>rfl
 | f::r,p::q,h=>by
  simp only[oP,Bool.and_eq_true,decide_eq_true_eq]at h;obtain⟨⟨h1,h2⟩,h3⟩:=h;rw[List.map_cons,qT h3,h1,h2]
 | [],_::_,h=>by simp[oP]at h
 | _::_,[],h=>by simp[oP]at h
def Io:TypeDesc->TD->Bool
 | .struct fields,.struct fs=>oP fields.toList fs
 | .slice e,.slice e'=>decide (e=e')
 | .array n e,.array n' e'=>decide (n=n')&&decide (e=e')
 | .map k e,.map k' e'=>decide (k=k')&&decide (e=e')
 | .struct _,.other=>false
 | .array _ _,.other=>false
 | _,.other=>true
 | _,_=>false
theorem CO{d:TypeDesc}{td:TD}(h:Io d td=true):rX d td:=by
 unfold Io at h;split at h
 ·exact⟨_,rfl,qT h⟩
 ·simp only[decide_eq_true_eq]at h;subst h;rfl
 ·simp only[Bool.and_eq_true,decide_eq_true_eq]at h;obtain⟨h1,h2⟩:=h;subst h1;subst h2;rfl
 ·simp only[Bool.and_eq_true,decide_eq_true_eq]at h;obtain⟨h1,h2⟩:=h;subst h1;subst h2;rfl
 ·cases h
 ·cases h
 ·rename_i h1 h2;cases d<;>first|trivial|exact(h1 _ rfl).elim|exact(h2 _ _ rfl).elim
 cases h
def D7(agg:Bool):Value->Bool
 | .agg _=>agg
 | _=>!agg
def c6(P:Program)(t:TypeId)(ti:cc):Bool :=
 match P.info? t,P.underlying t with
 | some i,some d=>decide (i.size=ti.size)&&decide (i.bytes=ti.bytes)&&Io d ti.desc&&decide (ti.zero.length=ti.size) &&
  (match i.zero with
  | some z=>pf ti.zero z.cells.toList&&D7 ti.desc.agg z
  | none=>false)
 | _,_=>false
theorem aZ{P:Program}{t:TypeId}{ti:cc}(h:c6 P t ti=true):Er P t ti:=by
 unfold c6 at h;split at h
 ·rename_i i d hi hd;split at h
  ·rename_i z hz;simp only[Bool.and_eq_true,decide_eq_true_eq]at h;obtain⟨⟨⟨⟨h1,h2⟩,h3⟩,h4⟩,h5,h6⟩:=h;obtain⟨q1,q2,q3⟩:=rK h5;refine⟨⟨i,z,hi,h1,h2,hz,by simpa using q1,h4,⟨fun ha=>?_,fun ha=>?_⟩,fun g j c u a b=>q2 g j c u a (by simpa using b),q3⟩,d,hd,CO h3⟩
   ·cases z with
    | agg cs=>exact⟨cs,rfl⟩
    | _=>simp[D7,ha]at h6
   cases z with
   | agg cs=>simp[D7,ha]at h6
   | _=>rfl
  simp at h
 cases h
end Go.Av
namespace Go.Proofs.YtjdnhamngpafmaaGreat
open Go.Av
def aT:eh
 | 1=>some ⟨1,8,[.v .nilFunc],.other⟩
 | 2=>some ⟨1,8,[.v (.int .i64 0)],.other⟩
 | 3=>some ⟨1,8,[.v (.int .i64 0)],.other⟩
 | 4=>some ⟨1,1,[.v (.bool false)],.other⟩
 | 5=>some ⟨1,1,[.v (.int .u8 0)],.other⟩
 | 9=>some ⟨1,16,[.v (.string ByteArray.empty)],.other⟩
 | 22=>some ⟨1,24,[.aB 2 [] .ex],.slice 34⟩
 | 24=>some ⟨2,32,[.aB 2 [] .ex,.v (.int .i64 0)],.struct [(0,22),(1,3)]⟩
 | 26=>some ⟨1,8,[.v (.int .i64 0)],.other⟩
 | 32=>some ⟨1,24,[.aB 7 [] .ex],.slice 50⟩
 | 34=>some ⟨2,32,[.v (.int .i64 0),.aB 7 [] .ex],.struct [(0,3),(1,32)]⟩
 | 35=>some ⟨1,24,[.aB 3 [] .ex],.slice 43⟩
 | 38=>some ⟨1,24,[.aB 1 [] .ex],.slice 41⟩
 | 41=>some ⟨1,24,[.aB 1 [] .ex],.slice 3⟩
 | 43=>some ⟨3,40,[.v (.int .i64 0),.aB 1 [] .ex,.v (.int .i64 0)],.struct [(0,3),(1,41),(2,3)]⟩
 | 45=>some ⟨1,24,[.aB 2 [] .ex],.slice 82⟩
 | 47=>some ⟨5,72,[.v (.int .i64 0),.v (.int .i64 0),.v (.int .i64 0),.aB 1 [] .ex,.aB 2 [] .ex],.struct [(0,3),(1,3),(2,3),(3,41),(4,45)]⟩
 | 48=>some ⟨1,24,[.aB 4 [] .ex],.slice 65⟩
 | 50=>some ⟨7,120,[.aB 1 [] .ex,.aB 4 [] .ex,.v (.int .i64 0),.v (.int .i64 0),.v (.int .i64 0),.aB 1 [] .ex,.aB 2 [] .ex],.struct [(0,41),(1,48),(2,47)]⟩
 | 56=>some ⟨1,24,[.aB 1 [] .ex],.slice 4⟩
 | 65=>some ⟨4,48,[.v (.int .i64 0),.v (.int .i64 0),.v (.int .i64 0),.aB 1 [] .ex],.struct [(0,3),(1,3),(2,3),(3,41)]⟩
 | 67=>some ⟨3,40,[.aB 1 [] .ex,.v (.int .i64 0),.v (.int .i64 0)],.struct [(0,41),(1,3),(2,3)]⟩
 | 77=>some ⟨1,24,[.aB 2 [] .ex],.slice 79⟩
 | 79=>some ⟨2,16,[.v (.int .i64 0),.v (.int .i64 0)],.array 2 3⟩
 | 82=>some ⟨2,32,[.v (.int .i64 0),.aB 1 [] .ex],.struct [(0,3),(1,41)]⟩
 | 83=>some ⟨1,24,[.aB 2 [] .ex],.slice 87⟩
 | 87=>some ⟨2,16,[.v (.int .i64 0),.v (.int .i64 0)],.struct [(0,3),(1,3)]⟩
 | 97=>some ⟨1,8,[.v .nilFunc],.other⟩
 | 102=>some ⟨1,8,[.v (.pointer none)],.other⟩
 | 103=>some ⟨1,8,[.v (.map none)],.map 3 138⟩
 | 105=>some ⟨3,40,[.v (.int .i64 0),.aB 7 [] .ex,.v (.map none)],.struct [(0,34),(2,103)]⟩
 | 110=>some ⟨1,8,[.v (.int .u64 0)],.other⟩
 | 112=>some ⟨1,8,[.v .nilFunc],.other⟩
 | 120=>some ⟨4,80,[.v (.int .i64 0),.aB 7 [] .ex,.aB 1 [] .ex,.aB 1 [] .ex],.struct [(0,34),(2,41),(3,38)]⟩
 | 121=>some ⟨1,8,[.v (.pointer none)],.other⟩
 | 122=>some ⟨1,24,[.aB 1 [] .ex],.slice 56⟩
 | 124=>some ⟨1,24,[.aB 1 [] .ex],.slice 162⟩
 | 126=>some ⟨9,168,[.v (.int .i64 0),.aB 7 [] .ex,.aB 1 [] .ex,.aB 1 [] .ex,.aB 1 [] .ex,.v (.int .i64 0),.v (.int .i64 0),.aB 7 [] .ex,.aB 1 [] .ex],.struct [(0,120),(4,122),(5,3),(6,34),(8,124)]⟩
 | 129=>some ⟨1,8,[.v (.pointer none)],.other⟩
 | 130=>some ⟨1,24,[.aB 1 [] .ex],.slice 172⟩
 | 132=>some ⟨9,112,[.aB 2 [] .ex,.v (.int .i64 0),.aB 1 [] .ex,.v (.int .i64 0),.v (.bool false),.v (.bool false),.aB 1 [] .ex,.v (.int .i64 0),.v (.int .i64 0)],.struct [(0,24),(2,130),(3,3),(4,4),(5,4),(6,67)]⟩
 | 138=>some ⟨2,16,[.v (.int .i64 0),.v (.int .i64 0)],.struct [(0,3),(1,3)]⟩
 | 139=>some ⟨1,24,[.aB 2 [] .ex],.slice 142⟩
 | 140=>some ⟨1,8,[.v (.int .u64 0)],.other⟩
 | 142=>some ⟨2,16,[.v (.int .u64 0),.v (.int .u64 0)],.array 2 140⟩
 | 148=>some ⟨2,48,[.aB 1 [] .ex,.aB 1 [] .ex],.struct [(0,41),(1,41)]⟩
 | 162=>some ⟨1,8,[.v (.map none)],.map 3 3⟩
 | 166=>some ⟨2,16,[.v (.int .i64 0),.v (.int .i64 0)],.struct [(0,3),(1,3)]⟩
 | 167=>some ⟨1,24,[.aB 2 [] .ex],.slice 166⟩
 | 168=>some ⟨1,8,[.v (.pointer none)],.other⟩
 | 171=>some ⟨1,24,[.aB 4 [] .ex],.slice 178⟩
 | 172=>some ⟨1,8,[.v (.pointer none)],.other⟩
 | 173=>some ⟨1,8,[.v (.map none)],.map 3 178⟩
 | 175=>some ⟨5,40,[.v (.int .i64 0),.v (.int .i64 0),.v (.int .i64 0),.v (.int .i64 0),.v (.map none)],.struct [(0,3),(1,3),(2,3),(3,3),(4,173)]⟩
 | 176=>some ⟨1,8,[.v (.pointer none)],.other⟩
 | 178=>some ⟨4,48,[.v (.int .i64 0),.v (.int .i64 0),.aB 4 [] .ex,.v (.pointer none)],.struct [(0,3),(1,3),(2,171),(3,176)]⟩
 | 187=>some ⟨1,8,[.v .nilFunc],.other⟩
 | 191=>some ⟨1,8,[.v (.int .u64 0)],.other⟩
 | 195=>some ⟨1,8,[.v (.pointer none)],.other⟩
 | 206=>some ⟨1,8,[.v .nilFunc],.other⟩
 | 211=>some ⟨1,8,[.v (.pointer none)],.other⟩
 | _=>none
theorem UB:aT 1=some ⟨1,8,[.v .nilFunc],.other⟩:=rfl
theorem UC:aT 2=some ⟨1,8,[.v (.int .i64 0)],.other⟩:=rfl
theorem Kr:aT 3=some ⟨1,8,[.v (.int .i64 0)],.other⟩:=rfl
theorem UD:aT 4=some ⟨1,1,[.v (.bool false)],.other⟩:=rfl
theorem UE:aT 5=some ⟨1,1,[.v (.int .u8 0)],.other⟩:=rfl
theorem UF:aT 9=some ⟨1,16,[.v (.string ByteArray.empty)],.other⟩:=rfl
theorem Q5:aT 22=some ⟨1,24,[.aB 2 [] .ex],.slice 34⟩:=rfl
theorem Q6:aT 24=some ⟨2,32,[.aB 2 [] .ex,.v (.int .i64 0)],.struct [(0,22),(1,3)]⟩:=rfl
theorem Q7:aT 26=some ⟨1,8,[.v (.int .i64 0)],.other⟩:=rfl
theorem Q8:aT 32=some ⟨1,24,[.aB 7 [] .ex],.slice 50⟩:=rfl
theorem Q9:aT 34=some ⟨2,32,[.v (.int .i64 0),.aB 7 [] .ex],.struct [(0,3),(1,32)]⟩:=rfl
theorem Ra:aT 35=some ⟨1,24,[.aB 3 [] .ex],.slice 43⟩:=rfl
theorem Rb:aT 38=some ⟨1,24,[.aB 1 [] .ex],.slice 41⟩:=rfl
theorem Ed:aT 41=some ⟨1,24,[.aB 1 [] .ex],.slice 3⟩:=rfl
theorem Rc:aT 43=some ⟨3,40,[.v (.int .i64 0),.aB 1 [] .ex,.v (.int .i64 0)],.struct [(0,3),(1,41),(2,3)]⟩:=rfl
theorem Re:aT 45=some ⟨1,24,[.aB 2 [] .ex],.slice 82⟩:=rfl
theorem Rf:aT 47=some ⟨5,72,[.v (.int .i64 0),.v (.int .i64 0),.v (.int .i64 0),.aB 1 [] .ex,.aB 2 [] .ex],.struct [(0,3),(1,3),(2,3),(3,41),(4,45)]⟩:=rfl
theorem Rg:aT 48=some ⟨1,24,[.aB 4 [] .ex],.slice 65⟩:=rfl
theorem Rh:aT 50=some ⟨7,120,[.aB 1 [] .ex,.aB 4 [] .ex,.v (.int .i64 0),.v (.int .i64 0),.v (.int .i64 0),.aB 1 [] .ex,.aB 2 [] .ex],.struct [(0,41),(1,48),(2,47)]⟩:=rfl
theorem Ri:aT 56=some ⟨1,24,[.aB 1 [] .ex],.slice 4⟩:=rfl
theorem Rj:aT 65=some ⟨4,48,[.v (.int .i64 0),.v (.int .i64 0),.v (.int .i64 0),.aB 1 [] .ex],.struct [(0,3),(1,3),(2,3),(3,41)]⟩:=rfl
theorem Rl:aT 67=some ⟨3,40,[.aB 1 [] .ex,.v (.int .i64 0),.v (.int .i64 0)],.struct [(0,41),(1,3),(2,3)]⟩:=rfl
theorem Rm:aT 77=some ⟨1,24,[.aB 2 [] .ex],.slice 79⟩:=rfl
theorem Rn:aT 79=some ⟨2,16,[.v (.int .i64 0),.v (.int .i64 0)],.array 2 3⟩:=rfl
theorem Ro:aT 82=some ⟨2,32,[.v (.int .i64 0),.aB 1 [] .ex],.struct [(0,3),(1,41)]⟩:=rfl
theorem Rp:aT 83=some ⟨1,24,[.aB 2 [] .ex],.slice 87⟩:=rfl
theorem Rq:aT 87=some ⟨2,16,[.v (.int .i64 0),.v (.int .i64 0)],.struct [(0,3),(1,3)]⟩:=rfl
theorem Rr:aT 97=some ⟨1,8,[.v .nilFunc],.other⟩:=rfl
theorem Np:aT 102=some ⟨1,8,[.v (.pointer none)],.other⟩:=rfl
theorem Nq:aT 103=some ⟨1,8,[.v (.map none)],.map 3 138⟩:=rfl
theorem Nr:aT 105=some ⟨3,40,[.v (.int .i64 0),.aB 7 [] .ex,.v (.map none)],.struct [(0,34),(2,103)]⟩:=rfl
theorem Ns:aT 110=some ⟨1,8,[.v (.int .u64 0)],.other⟩:=rfl
theorem Nt:aT 112=some ⟨1,8,[.v .nilFunc],.other⟩:=rfl
theorem Nu:aT 120=some ⟨4,80,[.v (.int .i64 0),.aB 7 [] .ex,.aB 1 [] .ex,.aB 1 [] .ex],.struct [(0,34),(2,41),(3,38)]⟩:=rfl
theorem Nv:aT 121=some ⟨1,8,[.v (.pointer none)],.other⟩:=rfl
theorem Nw:aT 122=some ⟨1,24,[.aB 1 [] .ex],.slice 56⟩:=rfl
theorem Nx:aT 124=some ⟨1,24,[.aB 1 [] .ex],.slice 162⟩:=rfl
theorem Ny:aT 126=some ⟨9,168,[.v (.int .i64 0),.aB 7 [] .ex,.aB 1 [] .ex,.aB 1 [] .ex,.aB 1 [] .ex,.v (.int .i64 0),.v (.int .i64 0),.aB 7 [] .ex,.aB 1 [] .ex],.struct [(0,120),(4,122),(5,3),(6,34),(8,124)]⟩:=rfl
theorem Nz:aT 129=some ⟨1,8,[.v (.pointer none)],.other⟩:=rfl
theorem NA:aT 130=some ⟨1,24,[.aB 1 [] .ex],.slice 172⟩:=rfl
theorem NB:aT 132=some ⟨9,112,[.aB 2 [] .ex,.v (.int .i64 0),.aB 1 [] .ex,.v (.int .i64 0),.v (.bool false),.v (.bool false),.aB 1 [] .ex,.v (.int .i64 0),.v (.int .i64 0)],.struct [(0,24),(2,130),(3,3),(4,4),(5,4),(6,67)]⟩:=rfl
theorem NC:aT 138=some ⟨2,16,[.v (.int .i64 0),.v (.int .i64 0)],.struct [(0,3),(1,3)]⟩:=rfl
theorem ND:aT 139=some ⟨1,24,[.aB 2 [] .ex],.slice 142⟩:=rfl
theorem FB:aT 140=some ⟨1,8,[.v (.int .u64 0)],.other⟩:=rfl
theorem NF:aT 142=some ⟨2,16,[.v (.int .u64 0),.v (.int .u64 0)],.array 2 140⟩:=rfl
theorem FC:aT 148=some ⟨2,48,[.aB 1 [] .ex,.aB 1 [] .ex],.struct [(0,41),(1,41)]⟩:=rfl
theorem NG:aT 162=some ⟨1,8,[.v (.map none)],.map 3 3⟩:=rfl
theorem NH:aT 166=some ⟨2,16,[.v (.int .i64 0),.v (.int .i64 0)],.struct [(0,3),(1,3)]⟩:=rfl
theorem NI:aT 167=some ⟨1,24,[.aB 2 [] .ex],.slice 166⟩:=rfl
theorem NJ:aT 168=some ⟨1,8,[.v (.pointer none)],.other⟩:=rfl
theorem NK:aT 171=some ⟨1,24,[.aB 4 [] .ex],.slice 178⟩:=rfl
theorem NL:aT 172=some ⟨1,8,[.v (.pointer none)],.other⟩:=rfl
theorem NM:aT 173=some ⟨1,8,[.v (.map none)],.map 3 178⟩:=rfl
theorem NN:aT 175=some ⟨5,40,[.v (.int .i64 0),.v (.int .i64 0),.v (.int .i64 0),.v (.int .i64 0),.v (.map none)],.struct [(0,3),(1,3),(2,3),(3,3),(4,173)]⟩:=rfl
theorem NO:aT 176=some ⟨1,8,[.v (.pointer none)],.other⟩:=rfl
theorem NP:aT 178=some ⟨4,48,[.v (.int .i64 0),.v (.int .i64 0),.aB 4 [] .ex,.v (.pointer none)],.struct [(0,3),(1,3),(2,171),(3,176)]⟩:=rfl
theorem NQ:aT 187=some ⟨1,8,[.v .nilFunc],.other⟩:=rfl
theorem NR:aT 191=some ⟨1,8,[.v (.int .u64 0)],.other⟩:=rfl
theorem NS:aT 195=some ⟨1,8,[.v (.pointer none)],.other⟩:=rfl
theorem NT:aT 206=some ⟨1,8,[.v .nilFunc],.other⟩:=rfl
theorem NU:aT 211=some ⟨1,8,[.v (.pointer none)],.other⟩:=rfl
theorem Rt:c6 Go.Proofs.Tryz.prog 1 ⟨1,8,[.v .nilFunc],.other⟩=true:=by kernel_rfl
theorem Ru:c6 Go.Proofs.Tryz.prog 2 ⟨1,8,[.v (.int .i64 0)],.other⟩=true:=by kernel_rfl
theorem Rv:c6 Go.Proofs.Tryz.prog 3 ⟨1,8,[.v (.int .i64 0)],.other⟩=true:=by kernel_rfl
theorem Rw:c6 Go.Proofs.Tryz.prog 4 ⟨1,1,[.v (.bool false)],.other⟩=true:=by kernel_rfl
theorem Rx:c6 Go.Proofs.Tryz.prog 5 ⟨1,1,[.v (.int .u8 0)],.other⟩=true:=by kernel_rfl
theorem Ry:c6 Go.Proofs.Tryz.prog 9 ⟨1,16,[.v (.string ByteArray.empty)],.other⟩=true:=by kernel_rfl
theorem NV:c6 Go.Proofs.Tryz.prog 22 ⟨1,24,[.aB 2 [] .ex],.slice 34⟩=true:=by kernel_rfl
theorem NW:c6 Go.Proofs.Tryz.prog 24 ⟨2,32,[.aB 2 [] .ex,.v (.int .i64 0)],.struct [(0,22),(1,3)]⟩=true:=by kernel_rfl
theorem NY:c6 Go.Proofs.Tryz.prog 26 ⟨1,8,[.v (.int .i64 0)],.other⟩=true:=by kernel_rfl
theorem NZ:c6 Go.Proofs.Tryz.prog 32 ⟨1,24,[.aB 7 [] .ex],.slice 50⟩=true:=by kernel_rfl
theorem N0:c6 Go.Proofs.Tryz.prog 34 ⟨2,32,[.v (.int .i64 0),.aB 7 [] .ex],.struct [(0,3),(1,32)]⟩=true:=by kernel_rfl
theorem N1:c6 Go.Proofs.Tryz.prog 35 ⟨1,24,[.aB 3 [] .ex],.slice 43⟩=true:=by kernel_rfl
theorem N2:c6 Go.Proofs.Tryz.prog 38 ⟨1,24,[.aB 1 [] .ex],.slice 41⟩=true:=by kernel_rfl
theorem N3:c6 Go.Proofs.Tryz.prog 41 ⟨1,24,[.aB 1 [] .ex],.slice 3⟩=true:=by kernel_rfl
theorem N4:c6 Go.Proofs.Tryz.prog 43 ⟨3,40,[.v (.int .i64 0),.aB 1 [] .ex,.v (.int .i64 0)],.struct [(0,3),(1,41),(2,3)]⟩=true:=by kernel_rfl
theorem N5:c6 Go.Proofs.Tryz.prog 45 ⟨1,24,[.aB 2 [] .ex],.slice 82⟩=true:=by kernel_rfl
theorem N6:c6 Go.Proofs.Tryz.prog 47 ⟨5,72,[.v (.int .i64 0),.v (.int .i64 0),.v (.int .i64 0),.aB 1 [] .ex,.aB 2 [] .ex],.struct [(0,3),(1,3),(2,3),(3,41),(4,45)]⟩=true:=by kernel_rfl
theorem N7:c6 Go.Proofs.Tryz.prog 48 ⟨1,24,[.aB 4 [] .ex],.slice 65⟩=true:=by kernel_rfl
theorem N8:c6 Go.Proofs.Tryz.prog 50 ⟨7,120,[.aB 1 [] .ex,.aB 4 [] .ex,.v (.int .i64 0),.v (.int .i64 0),.v (.int .i64 0),.aB 1 [] .ex,.aB 2 [] .ex],.struct [(0,41),(1,48),(2,47)]⟩=true:=by kernel_rfl
theorem N9:c6 Go.Proofs.Tryz.prog 56 ⟨1,24,[.aB 1 [] .ex],.slice 4⟩=true:=by kernel_rfl
theorem N':c6 Go.Proofs.Tryz.prog 65 ⟨4,48,[.v (.int .i64 0),.v (.int .i64 0),.v (.int .i64 0),.aB 1 [] .ex],.struct [(0,3),(1,3),(2,3),(3,41)]⟩=true:=by kernel_rfl
theorem Oa:c6 Go.Proofs.Tryz.prog 67 ⟨3,40,[.aB 1 [] .ex,.v (.int .i64 0),.v (.int .i64 0)],.struct [(0,41),(1,3),(2,3)]⟩=true:=by kernel_rfl
theorem Ob:c6 Go.Proofs.Tryz.prog 77 ⟨1,24,[.aB 2 [] .ex],.slice 79⟩=true:=by kernel_rfl
theorem Oc:c6 Go.Proofs.Tryz.prog 79 ⟨2,16,[.v (.int .i64 0),.v (.int .i64 0)],.array 2 3⟩=true:=by kernel_rfl
theorem Od:c6 Go.Proofs.Tryz.prog 82 ⟨2,32,[.v (.int .i64 0),.aB 1 [] .ex],.struct [(0,3),(1,41)]⟩=true:=by kernel_rfl
theorem Oe:c6 Go.Proofs.Tryz.prog 83 ⟨1,24,[.aB 2 [] .ex],.slice 87⟩=true:=by kernel_rfl
theorem Of:c6 Go.Proofs.Tryz.prog 87 ⟨2,16,[.v (.int .i64 0),.v (.int .i64 0)],.struct [(0,3),(1,3)]⟩=true:=by kernel_rfl
theorem Og:c6 Go.Proofs.Tryz.prog 97 ⟨1,8,[.v .nilFunc],.other⟩=true:=by kernel_rfl
theorem Kt:c6 Go.Proofs.Tryz.prog 102 ⟨1,8,[.v (.pointer none)],.other⟩=true:=by kernel_rfl
theorem Ku:c6 Go.Proofs.Tryz.prog 103 ⟨1,8,[.v (.map none)],.map 3 138⟩=true:=by kernel_rfl
theorem Kv:c6 Go.Proofs.Tryz.prog 105 ⟨3,40,[.v (.int .i64 0),.aB 7 [] .ex,.v (.map none)],.struct [(0,34),(2,103)]⟩=true:=by kernel_rfl
theorem Kw:c6 Go.Proofs.Tryz.prog 110 ⟨1,8,[.v (.int .u64 0)],.other⟩=true:=by kernel_rfl
theorem Kx:c6 Go.Proofs.Tryz.prog 112 ⟨1,8,[.v .nilFunc],.other⟩=true:=by kernel_rfl
theorem Ky:c6 Go.Proofs.Tryz.prog 120 ⟨4,80,[.v (.int .i64 0),.aB 7 [] .ex,.aB 1 [] .ex,.aB 1 [] .ex],.struct [(0,34),(2,41),(3,38)]⟩=true:=by kernel_rfl
theorem Kz:c6 Go.Proofs.Tryz.prog 121 ⟨1,8,[.v (.pointer none)],.other⟩=true:=by kernel_rfl
theorem KA:c6 Go.Proofs.Tryz.prog 122 ⟨1,24,[.aB 1 [] .ex],.slice 56⟩=true:=by kernel_rfl
theorem KB:c6 Go.Proofs.Tryz.prog 124 ⟨1,24,[.aB 1 [] .ex],.slice 162⟩=true:=by kernel_rfl
theorem KC:c6 Go.Proofs.Tryz.prog 126 ⟨9,168,[.v (.int .i64 0),.aB 7 [] .ex,.aB 1 [] .ex,.aB 1 [] .ex,.aB 1 [] .ex,.v (.int .i64 0),.v (.int .i64 0),.aB 7 [] .ex,.aB 1 [] .ex],.struct [(0,120),(4,122),(5,3),(6,34),(8,124)]⟩=true:=by kernel_rfl
theorem KD:c6 Go.Proofs.Tryz.prog 129 ⟨1,8,[.v (.pointer none)],.other⟩=true:=by kernel_rfl
theorem KE:c6 Go.Proofs.Tryz.prog 130 ⟨1,24,[.aB 1 [] .ex],.slice 172⟩=true:=by kernel_rfl
theorem KF:c6 Go.Proofs.Tryz.prog 132 ⟨9,112,[.aB 2 [] .ex,.v (.int .i64 0),.aB 1 [] .ex,.v (.int .i64 0),.v (.bool false),.v (.bool false),.aB 1 [] .ex,.v (.int .i64 0),.v (.int .i64 0)],.struct [(0,24),(2,130),(3,3),(4,4),(5,4),(6,67)]⟩=true:=by kernel_rfl
theorem KG:c6 Go.Proofs.Tryz.prog 138 ⟨2,16,[.v (.int .i64 0),.v (.int .i64 0)],.struct [(0,3),(1,3)]⟩=true:=by kernel_rfl
theorem KH:c6 Go.Proofs.Tryz.prog 139 ⟨1,24,[.aB 2 [] .ex],.slice 142⟩=true:=by kernel_rfl
theorem KI:c6 Go.Proofs.Tryz.prog 140 ⟨1,8,[.v (.int .u64 0)],.other⟩=true:=by kernel_rfl
theorem KJ:c6 Go.Proofs.Tryz.prog 142 ⟨2,16,[.v (.int .u64 0),.v (.int .u64 0)],.array 2 140⟩=true:=by kernel_rfl
theorem KK:c6 Go.Proofs.Tryz.prog 148 ⟨2,48,[.aB 1 [] .ex,.aB 1 [] .ex],.struct [(0,41),(1,41)]⟩=true:=by kernel_rfl
theorem KL:c6 Go.Proofs.Tryz.prog 162 ⟨1,8,[.v (.map none)],.map 3 3⟩=true:=by kernel_rfl
theorem KM:c6 Go.Proofs.Tryz.prog 166 ⟨2,16,[.v (.int .i64 0),.v (.int .i64 0)],.struct [(0,3),(1,3)]⟩=true:=by kernel_rfl
theorem KN:c6 Go.Proofs.Tryz.prog 167 ⟨1,24,[.aB 2 [] .ex],.slice 166⟩=true:=by kernel_rfl
theorem KO:c6 Go.Proofs.Tryz.prog 168 ⟨1,8,[.v (.pointer none)],.other⟩=true:=by kernel_rfl
theorem KP:c6 Go.Proofs.Tryz.prog 171 ⟨1,24,[.aB 4 [] .ex],.slice 178⟩=true:=by kernel_rfl
theorem KQ:c6 Go.Proofs.Tryz.prog 172 ⟨1,8,[.v (.pointer none)],.other⟩=true:=by kernel_rfl
theorem KR:c6 Go.Proofs.Tryz.prog 173 ⟨1,8,[.v (.map none)],.map 3 178⟩=true:=by kernel_rfl
theorem KS:c6 Go.Proofs.Tryz.prog 175 ⟨5,40,[.v (.int .i64 0),.v (.int .i64 0),.v (.int .i64 0),.v (.int .i64 0),.v (.map none)],.struct [(0,3),(1,3),(2,3),(3,3),(4,173)]⟩=true:=by kernel_rfl
theorem KU:c6 Go.Proofs.Tryz.prog 176 ⟨1,8,[.v (.pointer none)],.other⟩=true:=by kernel_rfl
theorem KV:c6 Go.Proofs.Tryz.prog 178 ⟨4,48,[.v (.int .i64 0),.v (.int .i64 0),.aB 4 [] .ex,.v (.pointer none)],.struct [(0,3),(1,3),(2,171),(3,176)]⟩=true:=by kernel_rfl
theorem KW:c6 Go.Proofs.Tryz.prog 187 ⟨1,8,[.v .nilFunc],.other⟩=true:=by kernel_rfl
theorem KX:c6 Go.Proofs.Tryz.prog 191 ⟨1,8,[.v (.int .u64 0)],.other⟩=true:=by kernel_rfl
theorem KY:c6 Go.Proofs.Tryz.prog 195 ⟨1,8,[.v (.pointer none)],.other⟩=true:=by kernel_rfl
theorem KZ:c6 Go.Proofs.Tryz.prog 206 ⟨1,8,[.v .nilFunc],.other⟩=true:=by kernel_rfl
theorem K0:c6 Go.Proofs.Tryz.prog 211 ⟨1,8,[.v (.pointer none)],.other⟩=true:=by kernel_rfl
set_option maxRecDepth 100000 in
theorem hT:b7 Go.Proofs.Tryz.prog aT:=by
 intro t ti h;unfold aT at h;split at h
 ·cases h;exact aZ Rt
 ·cases h;exact aZ Ru
 ·cases h;exact aZ Rv
 ·cases h;exact aZ Rw
 ·cases h;exact aZ Rx
 ·cases h;exact aZ Ry
 ·cases h;exact aZ NV
 ·cases h;exact aZ NW
 ·cases h;exact aZ NY
 ·cases h;exact aZ NZ
 ·cases h;exact aZ N0
 ·cases h;exact aZ N1
 ·cases h;exact aZ N2
 ·cases h;exact aZ N3
 ·cases h;exact aZ N4
 ·cases h;exact aZ N5
 ·cases h;exact aZ N6
 ·cases h;exact aZ N7
 ·cases h;exact aZ N8
 ·cases h;exact aZ N9
 ·cases h;exact aZ N'
 ·cases h;exact aZ Oa
 ·cases h;exact aZ Ob
 ·cases h;exact aZ Oc
 ·cases h;exact aZ Od
 ·cases h;exact aZ Oe
 ·cases h;exact aZ Of
 ·cases h;exact aZ Og
 ·cases h;exact aZ Kt
 ·cases h;exact aZ Ku
 ·cases h;exact aZ Kv
 ·cases h;exact aZ Kw
 ·cases h;exact aZ Kx
 ·cases h;exact aZ Ky
 ·cases h;exact aZ Kz
 ·cases h;exact aZ KA
 ·cases h;exact aZ KB
 ·cases h;exact aZ KC
 ·cases h;exact aZ KD
 ·cases h;exact aZ KE
 ·cases h;exact aZ KF
 ·cases h;exact aZ KG
 ·cases h;exact aZ KH
 ·cases h;exact aZ KI
 ·cases h;exact aZ KJ
 ·cases h;exact aZ KK
 ·cases h;exact aZ KL
 ·cases h;exact aZ KM
 ·cases h;exact aZ KN
 ·cases h;exact aZ KO
 ·cases h;exact aZ KP
 ·cases h;exact aZ KQ
 ·cases h;exact aZ KR
 ·cases h;exact aZ KS
 ·cases h;exact aZ KU
 ·cases h;exact aZ KV
 ·cases h;exact aZ KW
 ·cases h;exact aZ KX
 ·cases h;exact aZ KY
 ·cases h;exact aZ KZ
 ·cases h;exact aZ K0
 cases h
theorem hm:Go.Proofs.Tryz.prog.follows .mixedOrders=true:=by kernel_rfl
structure Ins where
 to:Int
 op:Int
 n:Int
 args:List Int
structure Edge where
 block:Int
 args:List Int
structure Term where
 kind:Int
 arg:Int
 n:Int
 cases:List Int
 to:List Edge
structure Block where
 params:List Int
 ins:List Ins
 term:Term
structure Func where
 name:Int
 blocks:List Block
structure cu where
 fns:List Func
 main:Int
abbrev aI(n:Int):ae:=.v (.int .i64 n)
abbrev a7(l:List Int):ae:=.aB 1 (l.map aI) .sh
def Ins.enc(i:Ins):ae:=.agg [aI i.to,aI i.op,aI i.n,a7 i.args]
abbrev bW(l:List Ins):ae:=.aB 4 (l.map Ins.enc) .sh
def Edge.enc(e:Edge):ae:=.agg [aI e.block,a7 e.args]
abbrev aH(l:List Edge):ae:=.aB 2 (l.map Edge.enc) .sh
def Term.enc(t:Term):ae:=.agg [aI t.kind,aI t.arg,aI t.n,a7 t.cases,aH t.to]
def Block.enc(b:Block):ae:=.agg [a7 b.params,bW b.ins,aI b.term.kind,aI b.term.arg,aI b.term.n,a7 b.term.cases,aH b.term.to]
abbrev aw(l:List Block):ae:=.aB 7 (l.map Block.enc) .sh
def Func.enc(f:Func):ae:=.agg [aI f.name,aw f.blocks]
abbrev b8(l:List Func):ae:=.aB 2 (l.map Func.enc) .sh
def cu.enc(u:cu):ae:=.agg [b8 u.fns,aI u.main]
theorem ax(n:Nat)(l:List Int):av n (l.map aI):=by
 rw[aQ];intro x hx;obtain⟨c,_,rfl⟩:=List.mem_map.1 hx;trivial
theorem HO(l:List Int):(l.map aI).map ae.share=l.map aI:=by
 rw[List.map_map];rfl
theorem Ins.aj(i:Ins):i.enc.cells=[aI i.to,aI i.op,aI i.n,a7 i.args]:=rfl
theorem Ins.fold(i:Ins):ae.agg [aI i.to,aI i.op,aI i.n,a7 i.args]=i.enc:=rfl
theorem Ins.aL(n:Nat)(i:Ins):i.enc.upto n:=by
 simp only[Ins.enc,ae.upto,av,and_true,true_and,ax]
theorem Ins.ak(n:Nat)(l:List Ins):av n (l.map Ins.enc):=by
 rw[aQ];intro x hx;obtain⟨c,_,rfl⟩:=List.mem_map.1 hx;exact c.aL n
theorem Ins.au(i:Ins):i.enc.flat:=trivial
theorem Ins.an(i:Ins):i.enc.share=i.enc:=rfl
theorem Ins.dj(l:List Ins):(l.map Ins.enc).map ae.share=l.map Ins.enc:=by
 rw[List.map_map];rfl
theorem Edge.aj(e:Edge):e.enc.cells=[aI e.block,a7 e.args]:=rfl
theorem Edge.fold(e:Edge):ae.agg [aI e.block,a7 e.args]=e.enc:=rfl
theorem Edge.aL(n:Nat)(e:Edge):e.enc.upto n:=by
 simp only[Edge.enc,ae.upto,av,and_true,true_and,ax]
theorem Edge.ak(n:Nat)(l:List Edge):av n (l.map Edge.enc):=by
 rw[aQ];intro x hx;obtain⟨c,_,rfl⟩:=List.mem_map.1 hx;exact c.aL n
theorem Edge.au(e:Edge):e.enc.flat:=trivial
theorem Edge.an(e:Edge):e.enc.share=e.enc:=rfl
theorem Edge.dj(l:List Edge):(l.map Edge.enc).map ae.share=l.map Edge.enc:=by
 rw[List.map_map];rfl
theorem Term.aj(t:Term):t.enc.cells=[aI t.kind,aI t.arg,aI t.n,a7 t.cases,aH t.to]:=rfl
theorem Term.fold(t:Term):ae.agg [aI t.kind,aI t.arg,aI t.n,a7 t.cases,aH t.to]=t.enc:=rfl
theorem Term.aL(n:Nat)(t:Term):t.enc.upto n:=by
 simp only[Term.enc,ae.upto,av,and_true,true_and,ax,Edge.ak]
theorem Term.ak(n:Nat)(l:List Term):av n (l.map Term.enc):=by
 rw[aQ];intro x hx;obtain⟨c,_,rfl⟩:=List.mem_map.1 hx;exact c.aL n
theorem Term.au(t:Term):t.enc.flat:=trivial
theorem Term.an(t:Term):t.enc.share=t.enc:=rfl
theorem Term.dj(l:List Term):(l.map Term.enc).map ae.share=l.map Term.enc:=by
 rw[List.map_map];rfl
theorem Block.aj(b:Block):b.enc.cells=[a7 b.params,bW b.ins,aI b.term.kind,aI b.term.arg,aI b.term.n,a7 b.term.cases,aH b.term.to]:=rfl
theorem Block.fold(b:Block):ae.agg [a7 b.params,bW b.ins,aI b.term.kind,aI b.term.arg,aI b.term.n,a7 b.term.cases,aH b.term.to]=b.enc:=rfl
theorem Block.aL(n:Nat)(b:Block):b.enc.upto n:=by
 simp only[Block.enc,ae.upto,av,and_true,true_and,ax,Edge.ak,Ins.ak]
theorem Block.ak(n:Nat)(l:List Block):av n (l.map Block.enc):=by
 rw[aQ];intro x hx;obtain⟨c,_,rfl⟩:=List.mem_map.1 hx;exact c.aL n
theorem Block.au(b:Block):b.enc.flat:=trivial
theorem Block.an(b:Block):b.enc.share=b.enc:=rfl
theorem Block.dj(l:List Block):(l.map Block.enc).map ae.share=l.map Block.enc:=by
 rw[List.map_map];rfl
theorem Func.aj(f:Func):f.enc.cells=[aI f.name,aw f.blocks]:=rfl
theorem Func.fold(f:Func):ae.agg [aI f.name,aw f.blocks]=f.enc:=rfl
theorem Func.aL(n:Nat)(f:Func):f.enc.upto n:=by
 simp only[Func.enc,ae.upto,av,and_true,true_and,ax,Block.ak]
theorem Func.ak(n:Nat)(l:List Func):av n (l.map Func.enc):=by
 rw[aQ];intro x hx;obtain⟨c,_,rfl⟩:=List.mem_map.1 hx;exact c.aL n
theorem Func.au(f:Func):f.enc.flat:=trivial
theorem Func.an(f:Func):f.enc.share=f.enc:=rfl
theorem Func.dj(l:List Func):(l.map Func.enc).map ae.share=l.map Func.enc:=by
 rw[List.map_map];rfl
theorem cu.aj(u:cu):u.enc.cells=[b8 u.fns,aI u.main]:=rfl
theorem cu.fold(u:cu):ae.agg [b8 u.fns,aI u.main]=u.enc:=rfl
theorem cu.aL(n:Nat)(u:cu):u.enc.upto n:=by
 simp only[cu.enc,ae.upto,av,and_true,true_and,ax,Func.ak]
theorem cu.ak(n:Nat)(l:List cu):av n (l.map cu.enc):=by
 rw[aQ];intro x hx;obtain⟨c,_,rfl⟩:=List.mem_map.1 hx;exact c.aL n
theorem cu.au(u:cu):u.enc.flat:=trivial
theorem cu.an(u:cu):u.enc.share=u.enc:=rfl
theorem cu.dj(l:List cu):(l.map cu.enc).map ae.share=l.map cu.enc:=by
 rw[List.map_map];rfl
theorem Xf:Dw Tryz.prog 3=some (.int .i64):=by
 unfold Dw;rw[Tryz.underlying3]
def lK(n:Int):Prop:=-9223372036854775808<=n∧n<=9223372036854775807
def uO(l:List Int):Prop:=∀n∈l,lK n
def Ins.fit(i:Ins):Prop:=lK i.to∧lK i.op∧lK i.n∧uO i.args∧i.args.length<=2 ^ 47
def Edge.fit(e:Edge):Prop:=lK e.block∧uO e.args∧e.args.length<=2 ^ 47
def Term.fit(t:Term):Prop:=lK t.kind∧lK t.arg∧lK t.n∧uO t.cases∧t.cases.length<=2 ^ 47∧t.to.length<=2 ^ 47∧∀e∈t.to,e.fit
def Block.fit(b:Block):Prop:=uO b.params∧b.params.length<=2 ^ 47∧b.ins.length<=2 ^ 47∧(∀i∈b.ins,i.fit)∧b.term.fit
def Func.fit(f:Func):Prop:=lK f.name∧f.blocks.length<=2 ^ 47∧∀b∈f.blocks,b.fit
def cu.fit(u:cu):Prop:=lK u.main∧u.fns.length<=2 ^ 47∧∀f∈u.fns,f.fit
inductive SV where
 | mk (kind n:Int) (list:List SV) (arr:Option Nat)
def eP:Option Nat->ae
 | none=>.v (.pointer none)
 | some id=>.mp id 0
namespace SV
def kind:SV->Int|mk k _ _ _=>k
def n:SV->Int|mk _ n _ _=>n
def list:SV->List SV|mk _ _ l _=>l
def arr:SV->Option Nat|mk _ _ _ a=>a
mutual
def enc:SV->ae
 | mk k n l a=>.agg [aI k,aI n,.aB 4 (IC l) .sh,eP a]
def IC:List SV->List ae
 | []=>[]
 | p::r=>p.enc::IC r
end
theorem AJ:∀l:List SV,IC l=l.map enc
 | []=>by simp[IC]
 | p::r=>by simp[IC,AJ r]
theorem fG(p:SV):p.enc=.agg [aI p.kind,aI p.n,.aB 4 (p.list.map enc) .sh,eP p.arr]:=by
 cases p with
 | mk k n l a=>simp[enc,kind,SV.n,list,arr,AJ]
theorem fold(p:SV):ae.agg [aI p.kind,aI p.n,.aB 4 (p.list.map enc) .sh,eP p.arr]=p.enc:=(fG p).symm
theorem jd(k n:Int)(l:List SV)(a:Option Nat):(mk k n l a).enc=.agg [aI k,aI n,.aB 4 (l.map enc) .sh,eP a]:=fG _
theorem aj(p:SV):p.enc.cells=[aI p.kind,aI p.n,.aB 4 (p.list.map enc) .sh,eP p.arr]:=by
 rw[fG];rfl
theorem FJ(p:SV):ae.agg p.enc.cells=p.enc:=by
 rw[aj,fold]
theorem _root_.Go.Proofs.YtjdnhamngpafmaaGreat.cg(a:Option Nat):(eP a).bf=eP a:=by cases a<;>rfl
theorem _root_.Go.Proofs.YtjdnhamngpafmaaGreat.F1(a:Option Nat):(eP a).scalar:=by cases a<;>trivial
theorem an(p:SV):p.enc.share=p.enc:=by
 rw[fG];have:=cg p.arr;unfold ae.bf at this;simp[ae.share,ae.bf,this]
theorem au(p:SV):p.enc.flat:=by
 rw[fG];trivial
theorem dj(l:List SV):(l.map enc).map ae.share=l.map enc:=by
 rw[List.map_map];exact List.map_congr_left fun p _=>an p
theorem c7(p:SV):p.enc.cells.length=4:=by
 rw[aj];rfl
inductive bk(n:Nat):SV->Prop
 | mk {k m:Int} {l:List SV} {a:Option Nat} (ha:∀id,a=some id->id<n) (hl:∀v,v∈l->bk n v):bk n (.mk k m l a)
theorem bk.mono{n m:Nat}(h:n<=m){v:SV}(k:bk n v):bk m v:=by
 induction k with
 | mk ha hl ih=>exact .mk (fun id e=>Nat.lt_of_lt_of_le (ha id e) h) ih
theorem LX{n:Nat}{a:Option Nat}(h:∀id,a=some id->id<n):(eP a).upto n:=by
 cases a with
 | none=>trivial
 | some id=>exact h id rfl
theorem bk.aL{n:Nat}{p:SV}(h:bk n p):p.enc.upto n:=by
 induction h with
 | mk ha hl ih =>
  rw[jd];simp only[ae.upto,av,true_and,and_true];refine⟨?_,LX ha⟩;rw[aQ];intro x hx;obtain⟨v,hv,rfl⟩:=List.mem_map.1 hx;exact ih v hv
theorem ak{n:Nat}{l:List SV}(h:∀v∈l,bk n v):av n (l.map enc):=by
 rw[aQ];intro x hx;obtain⟨v,hv,rfl⟩:=List.mem_map.1 hx;exact(h v hv).aL
theorem jc{n:Nat}{l:List SV}(h:∀v∈l,bk n v):av n (al (l.map enc)):=by
 rw[aQ];intro c hc;simp only[al,List.mem_flatMap,List.mem_map]at hc;obtain⟨_,⟨p,hp,rfl⟩,hc⟩:=hc;have:=(h p hp).aL;rw[fG]at this;rw[aj]at hc;simp only[ae.upto,aQ]at this;exact this c hc
theorem M9(l:List SV):(al (l.map enc)).length=l.length*4:=by
 rw[bV (sz:=4) (fun x hx=>by
  obtain⟨p,_,rfl⟩:=List.mem_map.1 hx;exact p.c7)]
 simp
theorem Fx:∀{l:List SV} {k:Nat} {p:SV},l[k]?=some p->((al (l.map enc)).drop (k*4)).take 4=p.enc.cells
 | q::r,0,p,h=>by
  simp only[List.getElem?_cons_zero,Option.some.injEq]at h;subst h;simp only[List.map_cons,al,List.flatMap_cons,Nat.zero_mul,List.drop_zero];rw[List.take_append_of_le_length (by rw[c7];exact Nat.le_refl _),List.take_of_length_le (by rw[c7];exact Nat.le_refl _)]
 | q::r,k+1,p,h=>by
  have ih:=Fx (l:=r) (k:=k) (p:=p) (by simpa using h);simp only[List.map_cons,al,List.flatMap_cons]at ih ⊢;rw[List.drop_append,List.drop_of_length_le (by rw[c7];omega),c7,show(k+1)*4-4=k*4 by omega];exact ih
theorem M'{l:List SV}{k:Nat}(h:k<l.length)(q:SV):bp (al (l.map enc)) (k*4) q.enc.cells=al ((l.set k q).map enc):=by
 induction l generalizing k with
 | nil=>simp at h
 | cons p r ih =>
  cases k with
  | zero =>
   simp only[List.set_cons_zero,List.map_cons,al,List.flatMap_cons,bp,Nat.zero_mul,List.take_zero,List.nil_append,Nat.zero_add,c7];rw[List.drop_append_of_le_length (by rw[c7];exact Nat.le_refl _),List.drop_of_length_le (by rw[c7];exact Nat.le_refl _)];rfl
  | succ k =>
   have:=ih (k:=k) (by simpa using h);simp only[List.set_cons_succ,List.map_cons,al,List.flatMap_cons,bp,c7]at this ⊢;rw[List.take_append,List.drop_append,c7,List.take_of_length_le (by rw[c7];omega),List.drop_of_length_le (by rw[c7];omega),show(k+1)*4-4=k*4 by omega,show(k+1)*4+4-4=k*4+4 by omega,List.nil_append,List.append_assoc,this]
def word(n:Int):SV:=mk 0 n [] none
def zero:SV:=mk 0 0 [] none
inductive Wf(f:Nat)(a:Nat->Prop):SV->Prop
 | mk {k m:Int} {l:List SV} {r:Option Nat}
   (h0:0<=k∧k<=4) (h1:k=0∨k=1->-1073741824<=m∧m<=1073741823) (h2:k=2->0<=m∧m<f) (h3:k=3->∃id,r=some id)
   (h4:k=4->∀v,v∈l->v.kind=0) (hl:l.length<=1000) (hr:∀id,r=some id->a id) (h:∀v,v∈l->Wf f a v):Wf f a (.mk k m l r)
theorem Wf.under{f n:Nat}{a:Nat->Prop}(ha:∀id,a id->id<n){v:SV}(h:Wf f a v):bk n v:=by
 induction h with
 | mk h0 h1 h2 h3 h4 hl hr h ih=>exact .mk (fun id e=>ha id (hr id e)) ih
theorem Wf.mono{f:Nat}{a b:Nat->Prop}(xw:∀id,a id->b id){v:SV}(h:Wf f a v):Wf f b v:=by
 induction h with
 | mk h0 h1 h2 h3 h4 hl hr h ih=>exact .mk h0 h1 h2 h3 h4 hl (fun id e=>xw id (hr id e)) ih
theorem Wf.word{f:Nat}{a:Nat->Prop}{n:Int}(h:-1073741824<=n∧n<=1073741823):Wf f a (word n) :=
 .mk (by omega) (fun _=>h) (by omega) (by omega) (by omega) (by simp) (by simp) (by simp)
theorem Wf.zero{f:Nat}{a:Nat->Prop}:Wf f a zero:=Wf.word (n:=0) (by omega)
theorem Wf.num{f:Nat}{a:Nat->Prop}{v:SV}(h:Wf f a v):v.kind=0∨v.kind=1->-1073741824<=v.n∧v.n<=1073741823:=by cases h;assumption
theorem Wf.fn{f:Nat}{a:Nat->Prop}{v:SV}(h:Wf f a v):v.kind=2->0<=v.n∧v.n<f:=by cases h;assumption
theorem Wf.array{f:Nat}{a:Nat->Prop}{v:SV}(h:Wf f a v):v.kind=3->∃id,v.arr=some id:=by cases h;assumption
theorem Wf.vec{f:Nat}{a:Nat->Prop}{v:SV}(h:Wf f a v):v.kind=4->∀x∈v.list,x.kind=0:=by cases h;assumption
theorem Wf.len{f:Nat}{a:Nat->Prop}{v:SV}(h:Wf f a v):v.list.length<=1000:=by cases h;assumption
theorem Wf.ref{f:Nat}{a:Nat->Prop}{v:SV}(h:Wf f a v):∀id,v.arr=some id->a id:=by cases h;assumption
theorem Wf.kids{f:Nat}{a:Nat->Prop}{v:SV}(h:Wf f a v):∀x∈v.list,Wf f a x:=by cases h;assumption
end SV
def iL:List (Int×SV)->Int->Option SV
 | [],_=>none
 | (k,v)::r,key=>if k=key then some v else iL r key
def eT:List (Int×SV)->Int->SV->List (Int×SV)
 | [],key,y=>[(key,y)]
 | (k,x)::r,key,y=>if k=key then(key,y)::r else(k,x)::eT r key y
def gv(e:Int×SV):Value×ae:=(.int .i64 e.1,e.2.enc)
theorem oO(k l:Int):ng (.int .i64 k) (.int .i64 l)=decide (k=l):=by
 simp[ng]
theorem mn(es:List (Int×SV))(k:Int):kh (es.map gv) (.int .i64 k)=(iL es k).map SV.enc:=by
 induction es with
 | nil=>rfl
 | cons p r ih =>
  obtain⟨a,v⟩:=p;simp only[List.map_cons,gv,kh,iL,oO,decide_eq_true_eq];split
  ·rfl
  exact ih
theorem rm(es:List (Int×SV))(k:Int)(v:SV):mX (es.map gv) (.int .i64 k) v.enc=(eT es k v).map gv:=by
 induction es with
 | nil=>rfl
 | cons p r ih =>
  obtain⟨a,x⟩:=p;simp only[List.map_cons,gv,mX,eT,oO,decide_eq_true_eq];split
  ·rfl
  simp only[List.map_cons,gv];rw[<-ih]
def iI(es:List (Int×SV))(k:Int):SV:=(iL es k).getD .zero
theorem xM{es:List (Int×SV)}{k:Int}{v:SV}(h:iL es k=some v):∃e∈es,e.2=v:=by
 induction es with
 | nil=>simp[iL]at h
 | cons p r ih =>
  obtain⟨a,x⟩:=p;simp only[iL]at h;split at h
  ·exact⟨(a,x),by simp,by simpa using h⟩
  obtain⟨e,h1,h2⟩:=ih h;exact⟨e,by simp[h1],h2⟩
theorem jk{es:List (Int×SV)}{k:Int}{v:SV}{e:Int×SV}(h:e∈eT es k v):e∈es∨e=(k,v):=by
 induction es with
 | nil=>simpa[eT]using h
 | cons p r ih =>
  obtain⟨a,x⟩:=p;simp only[eT]at h;split at h
  ·rcases List.mem_cons.1 h with h|h
   ·exact .inr h
   exact .inl (by simp[h])
  rcases List.mem_cons.1 h with h|h
  ·exact .inl (by simp[h])
  rcases ih h with h|h
  ·exact .inl (by simp[h])
  exact .inr h
instance:Inhabited Ins:=⟨⟨0,0,0,[]⟩⟩
instance:Inhabited Edge:=⟨⟨0,[]⟩⟩
instance:Inhabited Term:=⟨⟨0,0,0,[],[]⟩⟩
instance:Inhabited Block:=⟨⟨[],[],default⟩⟩
instance:Inhabited Func:=⟨⟨0,[]⟩⟩
instance:Inhabited SV:=⟨.zero⟩
structure Fr where
 bT:Nat
 dt:Nat
 fn:Int
 blk:Int
 pos:Nat
 to:Int
 vals:List (Int×SV)
structure Cc where
 lD:Nat
 dF:Nat
 l:List SV
structure Mach where
 sid:Nat
 frames:List Fr
 heap:List Cc
 next:Nat
 left:Int
 short:Bool
 over:Bool
 out:List Int
 fin:Int
 val:Int
def cS(u:cu)(k:Int):Func:=u.fns[k.toNat]?.getD default
def aY(f:Func)(k:Int):Block:=f.blocks[k.toNat]?.getD default
def kk(n:Int):Int:=(n+1073741824) % 2147483648-1073741824
def db(op a b:Int):SV×Int :=
 if op=1 then(.word (kk (a+b)),0)
 else if op=2 then(.word (kk (a-b)),0)
 else if op=3 then(.word (kk (a*b)),0)
 else if op=6 then(.word (if a<b then 1 else 0),0)
 else if op=7 then(.word (if a=b then 1 else 0),0)
 else if b=0 then(.zero,1)
 else if op=4 then(.word (kk (a.tdiv b)),0)
 else(.word (a.tmod b),0)
def kC(l:List SV)(k:Int):Bool:=l.all fun v=>decide (v.kind=k)
def cw(l:List SV)(k:Nat):SV:=l[k]?.getD .zero
def cO(i:Ins)(args:List SV):SV×Int :=
 if i.op=11 then
  if((cw args 0).kind≠1∧(cw args 0).kind≠2)∨((cw args 0).list.length:Int)<=i.n then(.zero,5)else(cw (cw args 0).list i.n.toNat,0)
 else if(cw args 0).kind≠1 then(.zero,5)
 else if i.op=10 then(.word (cw args 0).n,0)
 else if i.op=12 then(.word (cw args 0).list.length,0)
 else if(cw args 1).kind≠0 then(.zero,5)
 else if(cw args 1).n<0∨((cw args 0).list.length:Int)<=(cw args 1).n then(.zero,2)
 else(cw (cw args 0).list (cw args 1).n.toNat,0)
def ku(op:Int):List SV->List SV->List SV
 | a::r,b::s=>(db op a.n b.n).1::ku op r s
 | _,_=>[]
def dc(i:Ins)(args:List SV):SV×Int :=
 if i.op=22 then
  if kC args 0 then(.mk 4 0 args none,0)else(.zero,5)
 else if i.op=24 then
  if(cw args 0).kind≠4∨((cw args 0).list.length:Int)<=i.n then(.zero,5)else(cw (cw args 0).list i.n.toNat,0)
 else if !kC args 4∨(cw args 0).list.length≠(cw args 1).list.length then(.zero,5)
 else(.mk 4 0 (ku i.n (cw args 0).list (cw args 1).list) none,0)
namespace Mach
def fI(m:Mach)(n:Int):Mach:=if m.left<n then { m with short:=true,over:=true }else { m with left:=m.left-n }
def stop(m:Mach)(e n:Int):Mach:={ m with over:=true,fin:=e,val:=n }
def jG:List Cc->Option Nat->List SV
 | [],_=>[]
 | a::r,id=>if id=some a.lD then a.l else jG r id
def ke:List Cc->Option Nat->List SV->List Cc
 | [],_,_=>[]
 | a::r,id,l=>if id=some a.lD then⟨a.lD,a.dF,l⟩::r else a::ke r id l
def bL(m:Mach)(size fill:SV):Mach×SV×Int :=
 if size.kind≠0 then(m,.zero,5)
 else if size.n<0∨1024<size.n then(m,.zero,6)
 else if(m.fI size.n).short then(m.fI size.n,.zero,0)
 else({ m.fI size.n with heap:=m.heap++[⟨m.next+8,m.next+7,List.replicate size.n.toNat fill⟩],next:=m.next+9 },.mk 3 0 [] (some (m.next+8)),0)
def effect(m:Mach)(i:Ins)(args:List SV):Mach×SV×Int :=
 if i.op=15 then
  if(cw args 0).kind≠0 then(m,.zero,5)
  else if m.out.length=1000 then(m,.zero,6)
  else({ m with out:=m.out++[(cw args 0).n] },.word 0,0)
 else if i.op=16 then m.bL (cw args 0) (cw args 1)
 else if i.op=18 then
  if !kC args 0 then(m,.zero,5)
  else if(cw args 0).n<0∨(cw args 1).n<=(cw args 0).n then(m,.zero,2)
  else(m,.word 0,0)
 else if(cw args 0).kind≠3∨(i.op≠17∧(cw args 1).kind≠0)then(m,.zero,5)
 else if i.op=17 then(m,.word (jG m.heap (cw args 0).arr).length,0)
 else if(cw args 1).n<0∨((jG m.heap (cw args 0).arr).length:Int)<=(cw args 1).n then(m,.zero,2)
 else if i.op=19 then(m,cw (jG m.heap (cw args 0).arr) (cw args 1).n.toNat,0)
 else({ m with heap:=ke m.heap (cw args 0).arr ((jG m.heap (cw args 0).arr).set (cw args 1).n.toNat (cw args 2)) },.word 0,0)
def exec(m:Mach)(i:Ins)(args:List SV):Mach×SV×Int :=
 if i.op=0 then(m,.word i.n,0)
 else if 1<=i.op∧i.op<=7 then
  if !kC args 0 then(m,.zero,5)else(m,db i.op (cw args 0).n (cw args 1).n)
 else if i.op=8 then(m,.mk 1 i.n args none,0)
 else if i.op=9 then(m,.mk 2 i.n args none,0)
 else if i.op=10∨i.op=11∨i.op=12∨i.op=21 then(m,cO i args)
 else if i.op=22∨i.op=23∨i.op=24 then(m,dc i args)
 else if i.op=100 then(m,cw args 0,0)
 else m.effect i args
end Mach
def gh:List (Int×SV)->List Int->List SV->List (Int×SV)
 | es,p::ps,a::l=>gh (eT es p a) ps l
 | es,_,_=>es
def fY(es:List (Int×SV))(l:List Int):List SV:=l.map (iI es)
def iD(t:Term)(n:Int):Nat :=
 if t.kind=2 then(if n≠0 then 0 else 1)else t.cases.findIdx (· == n)
namespace Mach
def enter(u:cu)(m:Mach)(fn:Int)(args:List SV)(to:Int):Mach :=
 { m with sid:=m.next+2,next:=m.next+3,frames:=⟨m.next+1,m.next,fn,0,0,to,gh [] (aY (cS u fn) 0).params args⟩::m.frames }
def bQ(m:Mach)(f:Fr):Mach:={ m with frames:=f::m.frames.tail }
def follow(u:cu)(m:Mach)(f:Fr)(e:Edge):Mach :=
 m.bQ { f with blk:=e.block,pos:=0,vals:=gh f.vals (aY (cS u f.fn) e.block).params (fY f.vals e.args) }
def leave(m:Mach)(f:Fr)(v:SV):Mach :=
 match m.frames.tail with
 | []=>{ m with frames:=[] }.stop 0 (if v.kind=0∨v.kind=1 then v.n else 0)
 | g::r=>{ m with frames:={ g with vals:=eT g.vals f.to v }::r }
def finish(u:cu)(m:Mach)(f:Fr)(t:Term):Mach :=
 if t.kind=4 then m.stop t.n 0
 else if t.kind=1 then m.follow u f (t.to[0]?.getD default)
 else if t.kind=0 then m.leave f (iI f.vals t.arg)
 else if(iI f.vals t.arg).kind≠0 then m.stop 5 0
 else m.follow u f (t.to[iD t (iI f.vals t.arg).n]?.getD default)
def settle(f:Fr)(to:Int)(r:Mach×SV×Int):Mach :=
 (if r.2.2≠0 then r.1.stop r.2.2 0 else r.1).bQ { f with vals:=eT f.vals to r.2.1 }
def act(u:cu)(m:Mach)(f:Fr)(i:Ins)(args:List SV):Mach :=
 if i.op=13 then m.enter u i.n args i.to
 else if i.op=14 then
  if(cw args 0).kind=2∧(aY (cS u (cw args 0).n) 0).params.length=args.length then m.enter u (cw args 0).n args i.to else m.stop 5 0
 else settle f i.to (m.exec i args)
def step(u:cu)(m:Mach):Mach :=
 match m.frames with
 | []=>m
 | f::_ =>
  match (aY (cS u f.fn) f.blk).ins[f.pos]? with
  | none=>m.finish u f (aY (cS u f.fn) f.blk).term
  | some i=>(m.bQ { f with pos:=f.pos+1 }).act u { f with pos:=f.pos+1 } i (fY f.vals i.args)
def start(fuel:Int):Mach:=⟨0,[],[],4,fuel,false,false,[],0,0⟩
def run(u:cu):Nat->Mach->Mach
 | 0,m=>m
 | k+1,m=>if m.over then m else if(m.fI 1).short then m.fI 1 else run u k (step u (m.fI 1))
end Mach
structure RC where
 out:List Int
 fin:Int
 val:Int
 n:Int
 e:Int
def vp(u:cu)(fuel:Int):RC :=
 let m:=Mach.run u (fuel.toNat+2) ((Mach.start fuel).enter u u.main [] 0)
 if m.short then⟨[],0,0,0,13⟩else⟨m.out,m.fin,m.val,fuel-m.left,0⟩
def fA(n:Int):Prop:=-1073741824<=n∧n<=1073741823
structure HK(u:cu)(i:Ins):Prop where
 op:(0<=i.op∧i.op<=24)∨i.op=100
 len:i.args.length<=4096
 fits:lK i.to∧lK i.n
 c0:i.op=0->fA i.n
 c2:(1<=i.op∧i.op<=7)∨i.op=16∨i.op=18∨i.op=19∨i.op=21∨i.op=23->i.args.length=2
 c1:i.op=10∨i.op=11∨i.op=12∨i.op=15∨i.op=17∨i.op=24∨i.op=100->i.args.length=1
 c3:i.op=20->i.args.length=3
 UK:i.op=8->fA i.n∧i.args.length<=16
 Vl:i.op=9->0<=i.n∧i.n<u.fns.length∧i.args.length<=16
 call:i.op=13->0<=i.n∧i.n<u.fns.length∧(aY (cS u i.n) 0).params.length=i.args.length
 app:i.op=14->1<=i.args.length
 Vd:i.op=11∨i.op=24->0<=i.n
 pack:i.op=22->i.args.length<=16
 vec:i.op=23->i.n=1∨i.n=2∨i.n=3
structure yh(f:Func)(e:Edge):Prop where
 lo:0<=e.block
 hi:e.block<f.blocks.length
 args:e.args.length=(aY f e.block).params.length
 len:e.args.length<=4096
structure yi(f:Func)(t:Term):Prop where
 kind:0<=t.kind∧t.kind<=4
 n:0<=t.n∧t.n<=6
 jump:t.kind=1->t.to.length=1
 cond:t.kind=2->t.to.length=2
 switch:t.kind=3->t.to.length=t.cases.length+1
 ee:∀e∈t.to,yh f e
 cl:t.cases.length<=2 ^ 40
structure Lw(u:cu)(f:Func)(b:Block):Prop where
 ins:∀i∈b.ins,HK u i
 term:yi f b.term
 len:b.ins.length<=2 ^ 40
structure mC(u:cu):Prop where
 main:0<=u.main∧u.main<u.fns.length
 few:u.fns.length<=256
 none:(aY (cS u u.main) 0).params=[]
 ne:∀f∈u.fns,f.blocks≠[]∧f.blocks.length<=2 ^ 40
 blocks:∀f∈u.fns,∀b∈f.blocks,Lw u f b
def fX(u:cu)(m:Mach)(v:SV):Prop:=SV.Wf u.fns.length (fun id=>∃a∈m.heap,a.lD=id) v
structure nG(u:cu)(m:Mach)(f:Fr):Prop where
 fn:0<=f.fn∧f.fn<u.fns.length
 blk:0<=f.blk∧f.blk<(cS u f.fn).blocks.length
 pos:f.pos<=(aY (cS u f.fn) f.blk).ins.length
 vals:∀e∈f.vals,fX u m e.2
structure cd(u:cu)(m:Mach):Prop where
 frames:∀f∈m.frames,nG u m f
 gL:∀a∈m.heap,a.l.length<=1024∧∀v∈a.l,fX u m v
 left:0<=m.left
 depth:m.frames.length+m.left<=2 ^ 40
 out:m.out.length<=1000
 words:∀n∈m.out,fA n
 fin:0<=m.fin∧m.fin<=6
 val:fA m.val
 done:m.fin≠0->m.val=0
 over:m.over=false->m.frames≠[]∧m.short=false
def eB(b:Bool):ae:=.v (.bool b)
def aA(u:cu)(m:Mach):List ae:=[b8 u.fns,aI u.main,.os m.sid m.frames.length 1,aI m.left,.v (.bool m.short),.v (.bool m.over),.aB 1 (m.out.map aI) (.tok 3),aI m.fin,aI m.val]
def aS(f:Fr):List ae:=[aI f.fn,aI f.blk,aI f.pos,aI f.to,.mm f.dt]
def ez(l:List Fr):List ae:=l.reverse.map fun f=>.mp f.bT 0
theorem JC(v:Int):KT.ok (.int .i64) (.int .i64 v)=True:=by simp[KT.ok]
theorem bg{O:List ai}{n k:Nat}{x:ai}(h:∀o∈O,o.upto n)(hx:x.upto n):∀o∈O.set k x,o.upto n:=fun o ho=>by
 rcases List.mem_or_eq_of_mem_set ho with q|q
 ·exact h o q
 subst q;exact hx
theorem fL{O:List ai}{n:Nat}{x:ai}(h:∀o∈O,o.upto n)(hx:x.upto n):∀o∈O++[x],o.upto n:=fun o ho=>by
 rcases List.mem_append.1 ho with q|q
 ·exact h o q
 simp only[List.mem_singleton]at q;subst q;exact hx
theorem b6{O:List ai}{k:Nat}{x:ai}:(O.set k x).take O.length=O.set k x:=List.take_of_length_le (by simp)
theorem bS{O X:List ai}{k:Nat}{x:ai}(h:O[k]?=some x):(O++X)[k]?=some x:=by
 rw[List.getElem?_append_left (I h),h]
theorem aW{O:List ai}{k j:Nat}{x y:ai}(h:O[k]?=some x)(hj:j≠k):(O.set j y)[k]?=some x:=by
 rw[List.getElem?_set_ne hj,h]
theorem ja{O:List ai}{k:Nat}{x y:ai}(h:O[k]?=some x):(O.set k y)[k]?=some y:=List.getElem?_set_self (I h)
theorem lf{O X:List ai}{k:Nat}:(O++X)[O.length+k]?=X[k]?:=by
 rw[List.getElem?_append_right (by omega)];simp
theorem tI{O X:List ai}:(O++X)[O.length]?=X[0]?:=lf (k:=0)
theorem BK{O X:List ai}{k:Nat}{y:ai}:(O++X).set (O.length+k) y=O++X.set k y:=by
 rw[List.set_append_right _ _ (by omega)];simp
theorem BL{O X:List ai}{y:ai}:(O++X).set O.length y=O++X.set 0 y:=BK (k:=0)
theorem Kd{a y:ai}{X:List ai}:(a::X).set 0 y=y::X:=rfl
theorem Kc{a y:ai}{k:Nat}{X:List ai}:(a::X).set (k+1) y=a::X.set k y:=rfl
theorem Ks{O X:List ai}:(O++X).take O.length=O:=by simp
end Go.Proofs.YtjdnhamngpafmaaGreat
namespace Go.Av
theorem LF{P:Program}{kb:Nat}{c:Code}{Q:dR->St->Prop}{σ:St}{F:Prop}(hf:∀base a g,Rel base σ a g->F)(h:F->cn P kb c Q σ):cn P kb c Q σ:=fun base a g hb hr=>h (hf base a g hr) base a g hb hr
theorem fh{P:Program}{kb:Nat}{c:Code}{Q:dR->St->Prop}{n:Nat}{bn:List (Nat×ae)}{O:List ai}(s:Nat){sz:Nat}{xs:List ae}{o:nH}(hs:look bn s=some (.aB sz xs o))
  (h:xs.length<=2 ^ 62->cn P kb c Q ⟨n,bn,O⟩):cn P kb c Q ⟨n,bn,O⟩ :=
 LF (fun _ _ _ hr=>by
  obtain⟨u,_,h2⟩:=hr.slot s _ hs;exact h2.Fa) h
theorem ri:∀{l:List (Nat×ae)} {s:Nat} {x:ae},look l s=some x->(s,x)∈l
 | (k,y)::r,s,x,h=>by
  simp only[look]at h;split at h
  ·rename_i e;subst e;simp only[Option.some.injEq]at h;subst h;exact List.mem_cons_self
  exact List.mem_cons_of_mem _ (ri h)
theorem cb{P:Program}{kb:Nat}{c:Code}{Q:dR->St->Prop}{n:Nat}{bn:List (Nat×ae)}{O:List ai}(k:Nat)(cz:List (Nat×ae))(hk:k<=O.length)(Gm:kb<=k)(O':List ai)(IV:O.take k=O')(hb:∀o∈O',o.upto k)
  (hs:iv ⟨n,bn,O⟩ cz) (iY:∀p∈cz,p.2.upto k) (h:cn P kb c Q ⟨n,cz,O'⟩):cn P kb c Q ⟨n,bn,O⟩ :=
 rQ k hk Gm cz (by rw[IV];exact hb) hs (fun s x hx=>iY _ (ri hx)) (by rw[IV];exact h)
theorem dI{α:Type}(l:List α)(x:α):(l++[x])[l.length]?=some x:=by simp
theorem vF{α:Type}(l:List α)(x y:α):(l++[x]).set l.length y=l++[y]:=by simp
theorem yc{α:Type}(l m:List α):(l++m).take l.length=l:=by simp
theorem Ea(cs:List ae):bp cs 0 []=cs:=by simp[bp]
theorem BP(c x:ae)(cs xs:List ae):bp (c::cs) 0 (x::xs)=x::bp cs 0 xs:=by simp[bp]
theorem BQ(c:ae)(cs xs:List ae)(k:Nat):bp (c::cs) (k+1) xs=c::bp cs k xs:=by
 simp only[bp,List.take_succ_cons,List.cons_append,List.cons.injEq,true_and];rw[show k+1+xs.length=(k+xs.length)+1 by omega,List.drop_succ_cons]
theorem zK{α β:Type}(f:α->β)(l:List α):(l.map f).take l.length=l.map f:=List.take_of_length_le (by simp)
mutual
theorem ae.bK{n m:Nat}(h:n<=m):∀x:ae,x.upto n->x.upto m
 | .v _,_=>trivial
 | .agg cs,hx=>gu h cs hx
 | .aB _ xs o,hx=>by
  refine⟨gu h xs hx.1,?_⟩;have:=hx.2;cases o<;>first|trivial|exact Nat.lt_of_lt_of_le this h
 | .ip _ cs,hx=>gu h cs hx
 | .mp _ _,hx=>Nat.lt_of_lt_of_le hx h
 | .ms _ _ _ _,hx=>Nat.lt_of_lt_of_le hx h
 | .os _ _ _,hx=>Nat.lt_of_lt_of_le hx h
 | .raw _ _ _,hx=>Nat.lt_of_lt_of_le hx h
 | .mm _,hx=>Nat.lt_of_lt_of_le hx h
 | .im _ es,hx=>qm h es hx
 | .fn _ fs cs,hx=>⟨gu h fs hx.1,gu h cs hx.2⟩
 | .cx cs,hx=>gu h cs hx
theorem gu{n m:Nat}(h:n<=m):∀l:List ae,av n l->av m l
 | [],_=>trivial
 | x::r,hx=>⟨ae.bK h x hx.1,gu h r hx.2⟩
theorem qm{n m:Nat}(h:n<=m):∀l:List (Value×ae),lC n l->lC m l
 | [],_=>trivial
 | (k,x)::r,hx=>⟨ae.bK h x hx.1,qm h r hx.2⟩
end
theorem ai.bK{n m:Nat}(h:n<=m){o:ai}(ho:o.upto n):o.upto m:=by
 cases o with
 | cells cs=>exact gu h cs ho
 | map kt es=>exact qm h es ho
 | _=>trivial
theorem sub_self(O:List ai)(x:ae):Sub O x x=True:=by simp[Sub.refl]
theorem Sub.int{O:List ai}{k:IntKind}{a b:Int}(h:a=b):Sub O (.v (.int k a)) (.v (.int k b)):=.of_eq (by rw[h])
theorem Sub.aB{O:List ai}{sz:Nat}{xs ys:List ae}{o:nH}(h:xs=ys):Sub O (.aB sz xs o) (.aB sz ys o):=.of_eq (by rw[h])
theorem ao{p:Unit->Prop}{t:Tag p}(h:p ()):w8 p t:=h
theorem LP(x:Value):ae.cells (.v x)=[.v x]:=rfl
theorem PT(x:Value):ae.flat (.v x)=True:=rfl
theorem tX(x:Value):ae.share (.v x)=.v x:=rfl
theorem cF(x:Value):ae.bf (.v x)=.v x:=rfl
theorem FT(sz:Nat)(xs:List ae)(o:nH):ae.cells (.aB sz xs o)=[.aB sz xs o]:=rfl
theorem IN(sz:Nat)(xs:List ae)(o:nH):ae.flat (.aB sz xs o)=True:=rfl
theorem Hi(sz:Nat)(xs:List ae)(o:nH):ae.share (.aB sz xs o)=.aB sz xs .sh:=rfl
theorem b9(sz:Nat)(xs:List ae)(o:nH):ae.bf (.aB sz xs o)=.aB sz xs .sh:=rfl
theorem H6(oa:Option Addr)(cs:List ae):ae.cells (.ip oa cs)=[.ip oa cs]:=rfl
theorem L6(oa:Option Addr)(cs:List ae):ae.flat (.ip oa cs)=True:=rfl
theorem Kg(oa:Option Addr)(cs:List ae):ae.share (.ip oa cs)=.ip oa cs:=rfl
theorem dB(oa:Option Addr)(cs:List ae):ae.bf (.ip oa cs)=.ip oa cs:=rfl
theorem H8(id off:Nat):ae.cells (.mp id off)=[.mp id off]:=rfl
theorem L8(id off:Nat):ae.flat (.mp id off)=True:=rfl
theorem Kj(id off:Nat):ae.share (.mp id off)=.mp id off:=rfl
theorem dD(id off:Nat):ae.bf (.mp id off)=.mp id off:=rfl
theorem FU(sz n id:Nat):ae.cells (.raw sz n id)=[.raw sz n id]:=rfl
theorem IP(sz n id:Nat):ae.flat (.raw sz n id)=True:=rfl
theorem Hj(sz n id:Nat):ae.share (.raw sz n id)=.raw sz n id:=rfl
theorem wZ(sz n id:Nat):ae.bf (.raw sz n id)=.raw sz n id:=rfl
theorem H9(id off len cap:Nat):ae.cells (.ms id off len cap)=[.ms id off len cap]:=rfl
theorem L9(id off len cap:Nat):ae.flat (.ms id off len cap)=True:=rfl
theorem Kk(id off len cap:Nat):ae.share (.ms id off len cap)=.ms id off len cap:=rfl
theorem zD(id off len cap:Nat):ae.bf (.ms id off len cap)=.ms id off len cap:=rfl
theorem H7(id:Nat):ae.cells (.mm id)=[.mm id]:=rfl
theorem L7(id:Nat):ae.flat (.mm id)=True:=rfl
theorem Ki(id:Nat):ae.share (.mm id)=.mm id:=rfl
theorem dC(id:Nat):ae.bf (.mm id)=.mm id:=rfl
theorem H5(kt:KT)(es:List (Value×ae)):ae.cells (.im kt es)=[.im kt es]:=rfl
theorem L5(kt:KT)(es:List (Value×ae)):ae.flat (.im kt es)=True:=rfl
theorem Kf(kt:KT)(es:List (Value×ae)):ae.share (.im kt es)=.im kt es:=rfl
theorem dA(kt:KT)(es:List (Value×ae)):ae.bf (.im kt es)=.im kt es:=rfl
theorem H4(f:Fn)(fs cs:List ae):ae.cells (.fn f fs cs)=[.fn f fs cs]:=rfl
theorem L4(f:Fn)(fs cs:List ae):ae.flat (.fn f fs cs)=True:=rfl
theorem Ke(f:Fn)(fs cs:List ae):ae.share (.fn f fs cs)=.fn f fs cs:=rfl
theorem dz(f:Fn)(fs cs:List ae):ae.bf (.fn f fs cs)=.fn f fs cs:=rfl
theorem FQ(cs:List ae):ae.cells (.agg cs)=cs:=rfl
theorem flat_agg(cs:List ae):ae.flat (.agg cs)=True:=rfl
theorem Hh(cs:List ae):ae.share (.agg cs)=.agg (cs.map ae.bf):=rfl
theorem Hk(cs:List ae):ae.share (.cx cs)=.cx cs:=rfl
def aa:=And.intro @fq.eq_1 <|
 And.intro @fq.eq_2 <|
 And.intro @K7.eq_1 <|
 And.intro @vN.eq_1 <|
 And.intro @y7 <|
 And.intro @AF <|
 And.intro @CU <|
 And.intro @dN <|
 And.intro @dh <|
 And.intro @El.eq_1 <|
 And.intro @oA.eq_1 <|
 And.intro @zP.eq_1 <|
 And.intro @Ek.eq_1 <|
 And.intro @zR.eq_1 <|
 And.intro @oB.eq_1 <|
 And.intro @pE.eq_1 <|
 And.intro @pE.eq_2 <|
 And.intro @pE.eq_3 <|
 And.intro @pE.eq_4 <|
 And.intro @pE.eq_5 <|
 And.intro @pE.eq_6 <|
 And.intro @pE.eq_7 <|
 And.intro @Px.eq_1 <|
 And.intro @G7.eq_1 <|
 And.intro @G7.eq_2 <|
 And.intro @G7.eq_3 <|
 And.intro @FD.eq_1 <|
 And.intro @K9.eq_1 <|
 And.intro @K9.eq_2 <|
 And.intro @K9.eq_3 <|
 And.intro @Hz.eq_1 <|
 And.intro @Hz.eq_2 <|
 And.intro @zQ.eq_1 <|
 And.intro @BW.eq_1 <|
 And.intro @BW.eq_2 <|
 And.intro @zM.eq_1 <|
 And.intro @na.eq_1 <|
 And.intro @oC.eq_1 <|
 And.intro @vM.eq_1 <|
 And.intro @jZ.eq_1 <|
 And.intro @sw.eq_1 <|
 And.intro @K4.eq_1 <|
 And.intro @vK.eq_1 <|
 And.intro @K6.eq_1 <|
 And.intro @K3.eq_1 <|
 And.intro @zO.eq_1 <|
 And.intro @zN.eq_1 <|
 And.intro @zN.eq_2 <|
 And.intro @dQ.eq_1 <|
 And.intro @dQ.eq_2 <|
 And.intro @dQ.eq_3 <|
 And.intro @dQ.eq_4 <|
 And.intro @dQ.eq_5 <|
 And.intro @dQ.eq_6 <|
 And.intro @dQ.eq_7 <|
 And.intro @dQ.eq_8 <|
 And.intro @dQ.eq_9 <|
 And.intro @dQ.eq_10 <|
 And.intro @dQ.eq_11 <|
 And.intro @dQ.eq_12 <|
 And.intro @dQ.eq_13 <|
 And.intro @dQ.eq_14 <|
 And.intro @K8.eq_1 <|
 And.intro @K5.eq_1 <|
 And.intro @kV.eq_1 <|
 And.intro @kV.eq_2 <|
 @kV.eq_3
def Xp:=And.intro @QV <|
 And.intro @rk.eq_1 <|
 And.intro @rk.eq_2 <|
 And.intro @rk.eq_3 <|
 And.intro @rk.eq_4 <|
 And.intro @rk.eq_5 <|
 And.intro @qM.eq_1 <|
 And.intro @qM.eq_2 <|
 And.intro @isNil.eq_1 <|
 And.intro @isNil.eq_2 <|
 And.intro @St.ev.eq_1 <|
 And.intro @St.ev.eq_2 <|
 And.intro @St.ev.eq_3 <|
 And.intro @St.ev.eq_4 <|
 And.intro @St.get.eq_1 <|
 And.intro @iR.eq_1 <|
 And.intro @iR.eq_2 <|
 And.intro @ld.eq_1 <|
 And.intro @ld.eq_2 <|
 And.intro @look.eq_1 <|
 And.intro @look.eq_2 <|
 And.intro @slotsOf.eq_1 <|
 And.intro @slotsOf.eq_2 <|
 And.intro @Ix.eq_1 <|
 And.intro @Ix.eq_2 <|
 And.intro @pq.eq_1 <|
 And.intro @pq.eq_2 <|
 And.intro @bt.eq_1 <|
 And.intro @bc.eq_1 <|
 And.intro @bc.eq_2 <|
 And.intro @qR.eq_1 <|
 And.intro @qR.eq_2 <|
 And.intro @Mode.post.eq_1 <|
 And.intro @Mode.post.eq_2 <|
 And.intro @Mode.post.eq_3 <|
 And.intro @Mode.post.eq_4 <|
 And.intro @Mode.kind.eq_1 <|
 And.intro @Mode.kind.eq_2 <|
 And.intro @Mode.kind.eq_3 <|
 And.intro @Mode.kind.eq_4 <|
 And.intro @Mode.kind.eq_5 <|
 And.intro @Mode.kind.eq_6 <|
 And.intro @LP <|
 And.intro @PT <|
 And.intro @tX <|
 And.intro @cF <|
 And.intro @FT <|
 And.intro @IN <|
 And.intro @Hi <|
 And.intro @b9 <|
 And.intro @H6 <|
 And.intro @L6 <|
 And.intro @Kg <|
 And.intro @dB <|
 And.intro @H8 <|
 And.intro @L8 <|
 And.intro @Kj <|
 And.intro @dD <|
 And.intro @FU <|
 And.intro @IP <|
 And.intro @Hj <|
 And.intro @wZ <|
 And.intro @H9 <|
 And.intro @L9 <|
 And.intro @Kk <|
 And.intro @zD <|
 And.intro @H7 <|
 And.intro @L7 <|
 And.intro @Ki <|
 And.intro @dC <|
 And.intro @H5 <|
 And.intro @L5 <|
 And.intro @Kf <|
 And.intro @dA <|
 And.intro @H4 <|
 And.intro @L4 <|
 And.intro @Ke <|
 And.intro @dz <|
 And.intro @FQ <|
 And.intro @flat_agg <|
 And.intro @Hh <|
 And.intro @Hk <|
 And.intro @rO.eq_1 <|
 And.intro @rO.eq_2 <|
 And.intro @rO.eq_3 <|
 And.intro @rO.eq_4 <|
 And.intro @kI.eq_1 <|
 And.intro @kI.eq_2 <|
 And.intro @kI.eq_3 <|
 And.intro @kI.eq_4 <|
 And.intro @kI.eq_5 <|
 And.intro @kI.eq_6 <|
 And.intro @kI.eq_7 <|
 And.intro @ed.eq_1 <|
 And.intro @ed.eq_2 <|
 And.intro @ed.eq_3 <|
 And.intro @ed.eq_4 <|
 And.intro @ed.eq_5 <|
 And.intro @ed.eq_6 <|
 And.intro @ed.eq_7 <|
 And.intro @ed.eq_8 <|
 And.intro @ed.eq_9 <|
 And.intro @eV.eq_1 <|
 And.intro @dx.eq_1 <|
 And.intro @dx.eq_2 <|
 And.intro @dx.eq_3 <|
 And.intro @dx.eq_4 <|
 And.intro @dx.eq_5 <|
 And.intro @dx.eq_6 <|
 And.intro @dx.eq_7 <|
 And.intro @dx.eq_8 <|
 And.intro @dx.eq_9 <|
 And.intro @dx.eq_10 <|
 And.intro @dx.eq_11 <|
 And.intro @dx.eq_12 <|
 And.intro @dx.eq_13 <|
 And.intro @dx.eq_14 <|
 And.intro @dx.eq_15 <|
 And.intro @dx.eq_16 <|
 And.intro @dx.eq_17 <|
 And.intro @uH.eq_1 <|
 And.intro @uH.eq_2 <|
 And.intro @uH.eq_3 <|
 And.intro @qN.eq_1 <|
 And.intro @qN.eq_2 <|
 And.intro @qN.eq_3 <|
 And.intro @Bool.and_true <|
 And.intro @Bool.true_and <|
 And.intro @Bool.and_false <|
 And.intro @Bool.false_and <|
 And.intro @Bool.and_self <|
 And.intro @DI.eq_1 <|
 And.intro @DI.eq_2 <|
 And.intro @DI.eq_3 <|
 And.intro @DI.eq_4 <|
 And.intro @jC.eq_1 <|
 And.intro @jC.eq_2 <|
 And.intro @jC.eq_3 <|
 And.intro @H0.eq_1 <|
 And.intro @H0.eq_2 <|
 And.intro @St.AM.eq_1 <|
 And.intro @St.AM.eq_2 <|
 And.intro @St.eL.eq_1 <|
 And.intro @St.eL.eq_2 <|
 And.intro @mD.eq_1 <|
 And.intro @mD.eq_2 <|
 And.intro @qB.eq_1 <|
 And.intro @qB.eq_2 <|
 And.intro @iH.eq_1 <|
 And.intro @iH.eq_2 <|
 And.intro @Ea <|
 And.intro @BP <|
 And.intro @BQ <|
 And.intro @gp.eq_1 <|
 And.intro @gp.eq_2 <|
 And.intro @iP.eq_1 <|
 And.intro @iP.eq_2 <|
 And.intro @TD.agg.eq_1 <|
 And.intro @TD.agg.eq_2 <|
 And.intro @TD.agg.eq_3 <|
 And.intro @TD.elem.eq_1 <|
 And.intro @TD.elem.eq_2 <|
 And.intro @GL.eq_1 <|
 And.intro @GL.eq_2 <|
 And.intro @GL.eq_3 <|
 And.intro @ly.eq_1 <|
 And.intro @zeroOf.eq_1 <|
 And.intro @Lr.eq_1 <|
 And.intro @Lr.eq_2 <|
 And.intro @Lr.eq_3 <|
 And.intro @Lr.eq_4 <|
 And.intro @Lr.eq_5 <|
 And.intro @Gk.eq_1 <|
 And.intro @Gk.eq_2 <|
 And.intro @Gk.eq_3 <|
 And.intro @Gk.eq_4 <|
 And.intro @Gk.eq_5 <|
 And.intro @Gk.eq_6 <|
 And.intro @Gk.eq_7 <|
 And.intro @Gk.eq_8 <|
 And.intro @and_self <|
 And.intro @true_and <|
 And.intro @and_true <|
 And.intro @not_false_eq_true <|
 And.intro @List.nil_append.{0} <|
 And.intro @List.cons_append.{0} <|
 And.intro @List.append_nil.{0} <|
 And.intro @List.length_nil.{0} <|
 And.intro @List.length_cons.{0} <|
 And.intro @List.getElem?_cons_zero.{0} <|
 And.intro @List.getElem?_cons_succ.{0} <|
 And.intro @List.getElem?_nil.{0} <|
 And.intro @List.take_succ_cons.{0} <|
 And.intro @List.take_zero.{0} <|
 And.intro @List.take_nil.{0} <|
 And.intro @List.drop_succ_cons.{0} <|
 And.intro @List.drop_zero.{0} <|
 And.intro @List.drop_nil.{0} <|
 And.intro @List.set_cons_zero.{0} <|
 And.intro @List.set_cons_succ.{0} <|
 And.intro @List.map_cons.{0,0} <|
 And.intro @List.map_nil.{0,0} <|
 And.intro @Option.map_none.{0,0} <|
 And.intro @Option.map_some.{0,0} <|
 And.intro @Option.isSome_some.{0} <|
 And.intro @Option.isSome_none.{0} <|
 And.intro @Option.bind_some.{0,0} <|
 And.intro @Bool.false_eq_true <|
 And.intro @Bool.not_true <|
 And.intro @Bool.not_false <|
 And.intro @beq_self_eq_true.{0} <|
 And.intro @List.getElem?_toArray.{0} <|
 And.intro @Nat.zero_add <|
 And.intro @Nat.add_zero <|
 And.intro @decide_true <|
 And.intro @decide_false <|
 And.intro @beq_true <|
 And.intro @beq_false <|
 And.intro @Bool.true_beq <|
 And.intro @Bool.false_beq <|
 And.intro @Bool.not_not <|
 And.intro @decide_eq_true_eq <|
 And.intro @decide_eq_false_iff_not <|
 And.intro @Bool.not_eq_true' <|
 And.intro @Bool.not_eq_false' <|
 And.intro @Bool.not_eq_true <|
 And.intro @Bool.not_eq_false <|
 And.intro @Int.toNat_natCast <|
 And.intro @Int.natCast_zero <|
 And.intro @Int.sub_zero <|
 And.intro @Int.add_zero <|
 And.intro @Int.zero_add <|
 And.intro @Int.toNat_zero <|
 And.intro @List.getElem?_map.{0,0} <|
 And.intro @Int.natCast_nonneg <|
 And.intro @List.length_map.{0,0} <|
 And.intro @List.not_mem_nil.{0} <|
 And.intro @false_implies <|
 And.intro @List.length_append.{0} <|
 And.intro @or_false <|
 And.intro @or_true <|
 And.intro @true_or <|
 And.intro @false_or <|
 And.intro @or_self <|
 And.intro @dI <|
 And.intro @vF <|
 And.intro @zK <|
 @Nat.le_refl
def bF:=And.intro @zB <|
 And.intro @zA <|
 And.intro @gq <|
 And.intro @um <|
 And.intro @eY <|
 And.intro @uo <|
 And.intro @th <|
 And.intro @wR <|
 And.intro @fH <|
 And.intro @wQ <|
 @not_false_eq_true
def G.cut(g:G)(n:Nat):G:=⟨g.w,fun b off=>g.fr b off∨∃(id:Nat) (l:Loc) (o:ai),n<=id∧g.env[id]?=some (some l)∧g.objs[id]?=some o∧o.live∧l.block=b∧l.lo<=off,g.env.take n,g.objs.take n⟩
theorem bu{α:Type}{l:List α}{n i:Nat}{x:α}:(l.take n)[i]?=some x↔i<n∧l[i]?=some x:=by
 rw[List.getElem?_take];split
 ·rename_i h;simp[h]
 rename_i h;simp[h]
theorem yA{g:G}{n b off:Nat}:j5 (g.cut n) b off↔j5 g b off:=by
 constructor
 ·rintro((h|⟨id,l,o,_,h1,h2,h3,h4,h5⟩)|⟨id,l,o,h1,h2,h3,h4,h5⟩)
  ·exact .inl h
  ·exact .inr ⟨id,l,o,h1,h2,h3,h4,h5⟩
  exact .inr ⟨id,l,o,(bu.1 h1).2,(bu.1 h2).2,h3,h4,h5⟩
 rintro(h|⟨id,l,o,h1,h2,h3,h4,h5⟩)
 ·exact .inl (.inl h)
 rcases Nat.lt_or_ge id n with a8|pY
 ·exact .inr ⟨id,l,o,bu.2 ⟨a8,h1⟩,bu.2 ⟨a8,h2⟩,h3,h4,h5⟩
 exact .inl (.inr ⟨id,l,o,pY,h1,h2,h3,h4,h5⟩)
theorem RV.cut{g:G}{n:Nat}(z6:n<=g.objs.length){x:ae}{u:Value}(h:RV g x u)(hb:x.upto n):RV (g.cut n) x u:=by
 induction h with
 | v hx=>exact .v hx
 | agg hl dk _ ih =>
  simp only[ae.upto,aQ]at hb;exact .agg hl dk fun i c u a b=>ih i c u a b (hb c (List.mem_of_getElem? a))
 | nil ho uX =>
  simp only[ae.upto]at hb;refine .nil (fun id e=>?_) uX;subst e;have:=hb.2;simp only at this;simp only[G.cut,List.length_take];omega
 | aB cM dk cL cv hs f hm hr ho ih =>
  rename_i sz xs o a cap;simp only[ae.upto,aQ]at hb;refine .aB cM dk cL cv hs f (fun j c hj=>⟨(hm j c hj).1,fun q=>(hm j c hj).2 (yA.1 q)⟩) (fun j c hj=>ih j c hj ?_) ?_
  ·have hc:=List.mem_of_getElem? hj;simp only[al,List.mem_flatMap]at hc;obtain⟨x,hx,hc⟩:=hc;have:=hb.1 x hx;cases x with
   | agg cs =>
    simp only[ae.upto,aQ]at this;exact this c hc
   | _=>simp only[ae.cells,List.mem_singleton]at hc;subst hc;exact this
  cases o with
  | sh=>trivial
  | nn=>trivial
  | ex=>exact ho
  | loc a=>exact ho
  | tok id =>
   have gC:=hb.2;simp only at gC;refine⟨by simp only[G.cut,List.length_take];omega,fun m fa=>?_⟩;obtain⟨h1,h2⟩:=ho.2 m (bu.1 fa).2;refine⟨h1,fun e=>?_⟩;rcases h2 e with q|⟨l,arr,t,q1,q2⟩
   ·exact .inl q
   exact .inr ⟨l,arr,t,bu.2 ⟨gC,q1⟩,q2⟩
 | ip ha dk f hm hr ih =>
  simp only[ae.upto,aQ]at hb;exact .ip ha dk f (fun j c hj=>⟨(hm j c hj).1,fun q=>(hm j c hj).2 (yA.1 q)⟩) fun j c hj=>ih j c hj (hb c (List.mem_of_getElem? hj))
 | mp he ho ko =>
  simp only[ae.upto]at hb;exact .mp (bu.2 ⟨hb,he⟩) (bu.2 ⟨hb,ho⟩) ko
 | ms he ho ko hc oV cv =>
  simp only[ae.upto]at hb;exact .ms (bu.2 ⟨hb,he⟩) (bu.2 ⟨hb,ho⟩) ko hc oV cv
 | os he ho ko hc oV cv =>
  simp only[ae.upto]at hb;exact .os (bu.2 ⟨hb,he⟩) (bu.2 ⟨hb,ho⟩) ko hc oV cv
 | raw uX ho =>
  rename_i sz n0 id a cap;have gC:id<n:=hb;refine .raw uX ⟨by simp only[G.cut,List.length_take];omega,fun m fa=>?_⟩;obtain⟨h1,h2⟩:=ho.2 m (bu.1 fa).2;refine⟨h1,fun e=>?_⟩;rcases h2 e with q|⟨l,arr,t,q1,q2⟩
  ·exact .inl q
  exact .inr ⟨l,arr,t,bu.2 ⟨gC,q1⟩,q2⟩
 | mm he ho ko =>
  simp only[ae.upto]at hb;exact .mm (bu.2 ⟨hb,he⟩) (bu.2 ⟨hb,ho⟩) ko
 | im hh ko hl hk wF _ ih =>
  simp only[ae.upto,mz]at hb;exact .im hh (fun off q=>ko off (yA.1 q)) hl hk wF fun i e kx a b=>ih i e kx a b (hb kx (List.mem_of_getElem? b))
 | fn hl zZ _ _ ih E4 =>
  simp only[ae.upto,aQ]at hb;exact .fn hl zZ (fun i c u a b=>ih i c u a b (hb.1 c (List.mem_of_getElem? a))) fun i c u a b=>E4 i c u a b (hb.2 c (List.mem_of_getElem? a))
 | cx hl _ ih =>
  simp only[ae.upto,aQ]at hb;exact .cx hl fun i c u a b=>ih i c u a b (hb c (List.mem_of_getElem? a))
theorem Good.cut{g:G}(hg:Good g){n:Nat}(hn:n<=g.objs.length)(hb:∀o∈g.objs.take n,o.upto n):Good (g.cut n) where
 frlt:=fun b off h=>by
  rcases h with h|⟨id,l,o,_,h1,h2,h3,h4,_⟩
  ·exact hg.frlt b off h
  exact h4 ▸ hg.loc id l o h1 h2 h3
 frown:=fun id l o h1 h2 h3 off h=>by
  obtain⟨q1,h1⟩:=bu.1 h1;obtain⟨_,h2⟩:=bu.1 h2;rcases h with h|⟨ny,l',o',k0,k1,k2,k3,k4,_⟩
  ·exact hg.frown id l o h1 h2 h3 off h
  have:=hg.apart id ny l l' o o' h1 h2 h3 k1 k2 k3 k4.symm;omega
 len:=by simp[G.cut,hg.len]
 loc:=fun id l o h1 h2 h3=>hg.loc id l o (bu.1 h1).2 (bu.1 h2).2 h3
 apart:=fun id ny l l' o o' h1 h2 h3 k1 k2 k3=>hg.apart id ny l l' o o' (bu.1 h1).2 (bu.1 h2).2 h3 (bu.1 k1).2 (bu.1 k2).2 k3
 cells:=fun id cs h1=>by
  have Db:=hb _ (List.mem_of_getElem? h1);obtain⟨q,h1⟩:=bu.1 h1;obtain⟨l,arr,t,e1,e0,e2,e3,e4,e5⟩:=hg.cells id cs h1;simp only[ai.upto,aQ]at Db;exact⟨l,arr,t,bu.2 ⟨q,e1⟩,e0,e2,e3,fun j c u a b=>(e4 j c u a b).cut hn (Db c (List.mem_of_getElem? a)),e5⟩
 spare:=fun id m l h1 h2=>hg.spare id m l (bu.1 h1).2 (bu.1 h2).2
 map:=fun id kt es h1=>by
  have Db:=hb _ (List.mem_of_getElem? h1);obtain⟨q,h1⟩:=bu.1 h1;obtain⟨l,arr,clk,e1,e0,e2,e3,e6,e4⟩:=hg.map id kt es h1;simp only[ai.upto,mz]at Db;exact⟨l,arr,clk,bu.2 ⟨q,e1⟩,e0,e2,e3,e6,fun i e kx a b=>⟨(e4 i e kx a b).1,(e4 i e kx a b).2.1,(e4 i e kx a b).2.2.cut hn (Db kx (List.mem_of_getElem? b))⟩⟩
def G.fV(g:G)(n:Nat)(g':G):G:=⟨g'.w,g.fr,g'.env++g.env.drop n,g'.objs++g.objs.drop n⟩
theorem aJ{α:Type}{a l:List α}{n i:Nat}{x:α}(ha:a.length=n):(a++l.drop n)[i]?=some x↔(i<n∧a[i]?=some x)∨(n<=i∧l[i]?=some x):=by
 rw[List.getElem?_append];split
 ·rename_i h;constructor
  ·intro e;exact .inl ⟨by omega,e⟩
  rintro(⟨_,e⟩|⟨q,_⟩)
  ·exact e
  omega
 rename_i h;rw[List.getElem?_drop,show n+(i-a.length)=i by omega];constructor
 ·intro e;exact .inr ⟨by omega,e⟩
 rintro(⟨q,_⟩|⟨_,e⟩)
 ·omega
 exact e
structure qy(g:G)(n:Nat)(g':G):Prop where
 good:Good g
 le:Le (g.cut n) g'
 qW:Good g'
 lt:n<=g.objs.length
 same:g'.objs.length=n
theorem qy.env{g g':G}{n:Nat}(h:qy g n g'):g'.env.length=n:=h.qW.len.trans h.same
theorem qy.Xj{g g':G}{n b:Nat}(h:qy g n g')(hn:fO (g.fV n g') b):fO g' b∨∃(id:Nat) (l:Loc) (o:ai),n<=id∧g.env[id]?=some (some l)∧g.objs[id]?=some o∧o.live∧l.block=b:=by
 obtain⟨id,l,o,h1,h2,h3,h4⟩:=hn;rcases(aJ h.env).1 h1 with⟨q1,h1⟩|⟨q1,h1⟩
 ·rcases(aJ h.same).1 h2 with⟨q2,h2⟩|⟨q2,h2⟩
  ·exact .inl ⟨id,l,o,h1,h2,h3,h4⟩
  omega
 rcases(aJ h.same).1 h2 with⟨q2,h2⟩|⟨q2,h2⟩
 ·omega
 exact .inr ⟨id,l,o,q1,h1,h2,h3,h4⟩
theorem qy.own{g g':G}{n b off:Nat}(h:qy g n g'):j5 (g.fV n g') b off->j5 g' b off:=by
 rintro(hf|⟨id,l,o,h1,h2,h3,h4,h5⟩)
 ·refine .inl ?_;rw[h.le.fr];exact .inl hf
 rcases(aJ h.env).1 h1 with⟨q1,h1⟩|⟨q1,h1⟩
 ·rcases(aJ h.same).1 h2 with⟨q2,h2⟩|⟨q2,h2⟩
  ·exact .inr ⟨id,l,o,h1,h2,h3,h4,h5⟩
  omega
 rcases(aJ h.same).1 h2 with⟨q2,h2⟩|⟨q2,h2⟩
 ·omega
 refine .inl ?_;rw[h.le.fr];exact .inr ⟨id,l,o,q1,h1,h2,h3,h4,h5⟩
theorem Il{g:G}{n b:Nat}(h:fO (g.cut n) b):fO g b:=by
 obtain⟨id,l,o,h1,h2,h3,h4⟩:=h;exact⟨id,l,o,(bu.1 h1).2,(bu.1 h2).2,h3,h4⟩
theorem Im{g:G}{n b off:Nat}(h:jE (g.cut n) b off):jE g b off:=by
 obtain⟨id,l,o,h1,h2,h3,h4,h5⟩:=h;exact⟨id,l,o,(bu.1 h1).2,(bu.1 h2).2,h3,h4,h5⟩
theorem qy.block{g g':G}{n:Nat}(h:qy g n g'){id:Nat}{l:Loc}{o:ai}(gC:n<=id)(h1:g.env[id]?=some (some l))(h2:g.objs[id]?=some o)(h3:o.live):g'.w.heap[l.block]?=g.w.heap[l.block]?:=by
 refine(h.le.block l.block (h.good.loc id l o h1 h2 h3) ?_).1;rintro⟨ny,l',o',k1,k2,k3,k4⟩;obtain⟨q,k1⟩:=bu.1 k1;have:=h.good.apart ny id l' l o' o k1 (bu.1 k2).2 k3 h1 h2 h3 k4;omega
theorem qy.Xh{g g':G}{n:Nat}(h:qy g n g'):Le g (g.fV n g') where
 os:=h.le.os
 tape:=h.le.tape
 output:=h.le.output
 fr:=rfl
 size:=h.le.size
 block:=fun k hk hh=>by
  obtain⟨q1,q2⟩:=h.le.block k hk (fun q=>hh (Il q));refine⟨q1,fun q=>?_⟩;rcases h.Xj q with q|⟨id,l,o,_,q⟩
  ·exact q2 q
  exact hh ⟨id,l,o,q⟩
 cell:=fun b off x hx hh=>by
  obtain⟨q1,q2⟩:=h.le.cell b off x hx (fun q=>hh (Im q));refine⟨q1,fun q=>?_⟩;obtain⟨id,l,o,h1,h2,h3,h4,h5⟩:=q;rcases(aJ h.env).1 h1 with⟨e1,h1⟩|⟨e1,h1⟩
  ·rcases(aJ h.same).1 h2 with⟨e2,h2⟩|⟨e2,h2⟩
   ·exact q2 ⟨id,l,o,h1,h2,h3,h4,h5⟩
   omega
  rcases(aJ h.same).1 h2 with⟨e2,h2⟩|⟨e2,h2⟩
  ·omega
  exact hh ⟨id,l,o,h1,h2,h3,h4,h5⟩
 len:=by
  simp only[G.fV,List.length_append,List.length_drop,h.same];omega
 spare:=fun id m hm=>by
  rcases Nat.lt_or_ge id n with q|q
  ·rcases h.le.spare id m (bu.2 ⟨q,hm⟩)with⟨m',k1,k2⟩|⟨o',k1,k2⟩
   ·exact .inl ⟨m',(aJ h.same).2 (.inl ⟨q,k1⟩),k2⟩
   exact .inr ⟨o',(aJ h.same).2 (.inl ⟨q,k1⟩),k2⟩
  exact .inl ⟨m,(aJ h.same).2 (.inr ⟨q,hm⟩),Nat.le_refl _⟩
 plain:=fun id o ho hs=>by
  have a8:=I ho;have he:g.env[id]?=some (g.env[id]'(by rw[h.good.len];exact a8)):=List.getElem?_eq_getElem _;rcases Nat.lt_or_ge id n with q|q
  ·obtain⟨⟨o',k1,k2⟩,k3⟩:=h.le.plain id o (bu.2 ⟨q,ho⟩) hs;refine⟨⟨o',(aJ h.same).2 (.inl ⟨q,k1⟩),k2⟩,?_⟩;rw[he];refine(aJ h.env).2 (.inl ⟨q,?_⟩);rw[k3];exact bu.2 ⟨q,he⟩
  refine⟨⟨o,(aJ h.same).2 (.inr ⟨q,ho⟩),hs⟩,?_⟩;rw[he];exact(aJ h.env).2 (.inr ⟨q,he⟩)
 gone:=fun id ho=>by
  rcases Nat.lt_or_ge id n with q|q
  ·exact(aJ h.same).2 (.inl ⟨q,h.le.gone id (bu.2 ⟨q,ho⟩)⟩)
  exact(aJ h.same).2 (.inr ⟨q,ho⟩)
 tok:=fun id m hm fa=>by
  have a8:=I hm;have he:g.env[id]?=some (g.env[id]'(by rw[h.good.len];exact a8)):=List.getElem?_eq_getElem _;rcases(aJ h.same).1 fa with⟨q,fa⟩|⟨q,fa⟩
  ·obtain⟨k1,k2⟩:=h.le.tok id m (bu.2 ⟨q,hm⟩) fa;refine⟨?_,fun l hl=>k2 l (bu.2 ⟨q,hl⟩)⟩;rw[he];refine(aJ h.env).2 (.inl ⟨q,?_⟩);rw[k1];exact bu.2 ⟨q,he⟩
  refine⟨?_,fun l hl=>h.block q hl hm trivial⟩;rw[he];exact(aJ h.env).2 (.inr ⟨q,he⟩)
theorem RV.fV{g g':G}{n:Nat}(hc:qy g n g'){x:ae}{u:Value}(h:RV g' x u):RV (g.fV n g') x u:=by
 have a8:∀{id:Nat} {o:ai},g'.objs[id]?=some o->id<n:=fun ho=>by
  have:=I ho;rw[hc.same]at this;exact this
 induction h with
 | v hx=>exact .v hx
 | agg hl dk _ ih=>exact .agg hl dk ih
 | nil ho uX =>
  refine .nil (fun id e=>?_) uX;have:=ho id e;simp only[G.fV,List.length_append];omega
 | aB cM dk cL cv hs f hm hr ho ih =>
  rename_i sz xs o a cap;refine .aB cM dk cL cv hs f (fun j c hj=>⟨(hm j c hj).1,fun q=>(hm j c hj).2 (hc.own q)⟩) ih ?_;cases o with
  | sh=>trivial
  | nn=>trivial
  | ex=>exact ho
  | loc a=>exact ho
  | tok id =>
   have gC:=ho.1;rw[hc.same]at gC;refine⟨by simp only[G.fV,List.length_append,hc.same];omega,fun m fa=>?_⟩;rcases(aJ hc.same).1 fa with⟨q,fa⟩|⟨q,_⟩
   ·obtain⟨h1,h2⟩:=ho.2 m fa;refine⟨h1,fun e=>?_⟩;rcases h2 e with k|⟨l,arr,t,k1,k2⟩
    ·exact .inl k
    exact .inr ⟨l,arr,t,(aJ hc.env).2 (.inl ⟨q,k1⟩),k2⟩
   omega
 | ip ha dk f hm hr ih=>exact .ip ha dk f (fun j c hj=>⟨(hm j c hj).1,fun q=>(hm j c hj).2 (hc.own q)⟩) ih
 | mp he ho ko=>exact .mp ((aJ hc.env).2 (.inl ⟨a8 ho,he⟩)) ((aJ hc.same).2 (.inl ⟨a8 ho,ho⟩)) ko
 | ms he ho ko q9 oV cv=>exact .ms ((aJ hc.env).2 (.inl ⟨a8 ho,he⟩)) ((aJ hc.same).2 (.inl ⟨a8 ho,ho⟩)) ko q9 oV cv
 | os he ho ko q9 oV cv=>exact .os ((aJ hc.env).2 (.inl ⟨a8 ho,he⟩)) ((aJ hc.same).2 (.inl ⟨a8 ho,ho⟩)) ko q9 oV cv
 | raw uX ho =>
  rename_i sz n0 id a cap;have gC:=ho.1;rw[hc.same]at gC;refine .raw uX ⟨by simp only[G.fV,List.length_append,hc.same];omega,fun m fa=>?_⟩;rcases(aJ hc.same).1 fa with⟨q,fa⟩|⟨q,_⟩
  ·obtain⟨h1,h2⟩:=ho.2 m fa;refine⟨h1,fun e=>?_⟩;rcases h2 e with k|⟨l,arr,t,k1,k2⟩
   ·exact .inl k
   exact .inr ⟨l,arr,t,(aJ hc.env).2 (.inl ⟨q,k1⟩),k2⟩
  omega
 | mm he ho ko=>exact .mm ((aJ hc.env).2 (.inl ⟨a8 ho,he⟩)) ((aJ hc.same).2 (.inl ⟨a8 ho,ho⟩)) ko
 | im hh ko hl hk wF _ ih=>exact .im hh (fun off q=>ko off (hc.own q)) hl hk wF ih
 | fn hl zZ _ _ ih E4=>exact .fn hl zZ ih E4
 | cx hl _ ih=>exact .cx hl ih
theorem qy.PV{g g':G}{n:Nat}(h:qy g n g'):Good (g.fV n g') where
 frlt:=fun b off hf=>Nat.lt_of_lt_of_le (h.good.frlt b off hf) h.le.size
 frown:=fun id l o h1 h2 h3 off hf=>by
  rcases(aJ h.env).1 h1 with⟨q,h1⟩|⟨q,h1⟩
  ·rcases(aJ h.same).1 h2 with⟨_,h2⟩|⟨q2,_⟩
   ·refine h.qW.frown id l o h1 h2 h3 off ?_;rw[h.le.fr];exact .inl hf
   omega
  rcases(aJ h.same).1 h2 with⟨q2,_⟩|⟨_,h2⟩
  ·omega
  exact h.good.frown id l o h1 h2 h3 off hf
 len:=by simp[G.fV,h.env,h.same,h.good.len]
 loc:=fun id l o h1 h2 h3=>by
  rcases(aJ h.env).1 h1 with⟨q,h1⟩|⟨q,h1⟩
  ·rcases(aJ h.same).1 h2 with⟨_,h2⟩|⟨q2,_⟩
   ·exact h.qW.loc id l o h1 h2 h3
   omega
  rcases(aJ h.same).1 h2 with⟨q2,_⟩|⟨_,h2⟩
  ·omega
  exact Nat.lt_of_lt_of_le (h.good.loc id l o h1 h2 h3) h.le.size
 apart:=fun id ny l l' o o' h1 h2 h3 k1 k2 k3 q8=>by
  have hx:∀{i:Nat} {l:Loc} {o:ai},(g.fV n g').env[i]?=some (some l)->(g.fV n g').objs[i]?=some o->(i<n∧g'.env[i]?=some (some l)∧g'.objs[i]?=some o)∨(n<=i∧g.env[i]?=some (some l)∧g.objs[i]?=some o):=by
   intro i l o h1 h2;rcases(aJ h.env).1 h1 with⟨q,h1⟩|⟨q,h1⟩
   ·rcases(aJ h.same).1 h2 with⟨_,h2⟩|⟨q2,_⟩
    ·exact .inl ⟨q,h1,h2⟩
    omega
   rcases(aJ h.same).1 h2 with⟨q2,_⟩|⟨_,h2⟩
   ·omega
   exact .inr ⟨q,h1,h2⟩
  rcases hx h1 h2 with⟨q,e1,e2⟩|⟨q,e1,e2⟩
  ·rcases hx k1 k2 with⟨q',f1,f2⟩|⟨q',f1,f2⟩
   ·exact h.qW.apart id ny l l' o o' e1 e2 h3 f1 f2 k3 q8
   refine absurd ?_ (h.qW.frown id l o e1 e2 h3 l'.lo);rw[h.le.fr];exact .inr ⟨ny,l',o',q',f1,f2,k3,q8.symm,Nat.le_refl _⟩
  rcases hx k1 k2 with⟨q',f1,f2⟩|⟨q',f1,f2⟩
  ·refine absurd ?_ (h.qW.frown ny l' o' f1 f2 k3 l.lo);rw[h.le.fr];exact .inr ⟨id,l,o,q,e1,e2,h3,q8,Nat.le_refl _⟩
  exact h.good.apart id ny l l' o o' e1 e2 h3 f1 f2 k3 q8
 cells:=fun id cs h1=>by
  rcases(aJ h.same).1 h1 with⟨q,h1⟩|⟨q,h1⟩
  ·obtain⟨l,arr,t,e1,e0,e2,e3,e4,e5⟩:=h.qW.cells id cs h1;exact⟨l,arr,t,(aJ h.env).2 (.inl ⟨q,e1⟩),e0,e2,e3,fun j c u a b=>(e4 j c u a b).fV h,e5⟩
  obtain⟨l,arr,t,e1,e0,e2,e3,e4,e5⟩:=h.good.cells id cs h1;exact⟨l,arr,t,(aJ h.env).2 (.inr ⟨q,e1⟩),e0,(h.block q e1 h1 trivial).trans e2,e3,fun j c u a b=>(e4 j c u a b).mono h.Xh,e5⟩
 spare:=fun id m l h1 h2=>by
  rcases(aJ h.same).1 h1 with⟨q,h1⟩|⟨q,h1⟩
  ·rcases(aJ h.env).1 h2 with⟨_,h2⟩|⟨q2,_⟩
   ·exact h.qW.spare id m l h1 h2
   omega
  rcases(aJ h.env).1 h2 with⟨q2,_⟩|⟨_,h2⟩
  ·omega
  obtain⟨arr,t,e⟩:=h.good.spare id m l h1 h2;exact⟨arr,t,(h.block q h2 h1 trivial).trans e⟩
 map:=fun id kt es h1=>by
  rcases(aJ h.same).1 h1 with⟨q,h1⟩|⟨q,h1⟩
  ·obtain⟨l,arr,clk,e1,e0,e2,e3,e6,e4⟩:=h.qW.map id kt es h1;exact⟨l,arr,clk,(aJ h.env).2 (.inl ⟨q,e1⟩),e0,e2,e3,e6,fun i e kx a b=>⟨(e4 i e kx a b).1,(e4 i e kx a b).2.1,(e4 i e kx a b).2.2.fV h⟩⟩
  obtain⟨l,arr,clk,e1,e0,e2,e3,e6,e4⟩:=h.good.map id kt es h1;exact⟨l,arr,clk,(aJ h.env).2 (.inr ⟨q,e1⟩),e0,(h.block q e1 h1 trivial).trans e2,e3,e6,fun i e kx a b=>⟨(e4 i e kx a b).1,(e4 i e kx a b).2.1,(e4 i e kx a b).2.2.mono h.Xh⟩⟩
theorem bh.frame{P:Program}{f:FuncId}{O O':List ai}{args:List ae}{r:ae}(h:bh P f O args fun r' O1=>r'=r∧O1=O')(hlen:O'.length=O.length)(hb:av O.length args)(hO:∀o∈O,o.upto O.length)(X:List ai) :
  bh P f (O++X) args fun r' O1=>r'=r∧O1=O'++X:=by
 refine⟨h.1,?_⟩;intro g vs hg ho ha;have hn:O.length<=g.objs.length:=by simp[ho]
 have gD:g.objs.take O.length=O:=by simp[ho]
 have EM:iW (g.cut O.length) args vs:=⟨ha.1,fun j c u a b=>(ha.2 j c u a b).cut hn (aQ.1 hb c (List.mem_of_getElem? a))⟩
 refine(h.2 (g.cut O.length) vs (hg.cut hn (by rw[gD];exact hO)) gD EM).mono ?_;rintro e w' ⟨g',v,r',h1,h2,h3,h4,h5,h6,h7⟩;subst h6;have hc:qy g O.length g':=⟨hg,h3,h4,hn,by rw[h7,hlen]⟩
 exact⟨g.fV O.length g',v,r',h1,h2,hc.Xh,hc.PV,h5.fV hc,rfl,by simp[G.fV,h7,ho]⟩
end Go.Av
namespace Go.Av
open Go.ChangeShapes Go.WideShapes Go.RowKit
def g0(w:World):G:=⟨w,fun _ _=>False,[],[]⟩
theorem PU{w:World}{b off:Nat}:¬j5 (g0 w) b off:=by
 rintro(h|⟨id,l,o,h1,_⟩)
 ·exact h
 simp[g0]at h1
theorem IS{w:World}{b:Nat}:¬fO (g0 w) b:=by
 rintro⟨id,l,o,h1,_⟩;simp[g0]at h1
theorem Mb(w:World):Good (g0 w) where
 frlt:=fun _ _ h=>h.elim
 frown:=fun _ _ _ h=>by simp[g0]at h
 len:=rfl
 loc:=fun _ _ _ h=>by simp[g0]at h
 apart:=fun _ _ _ _ _ _ h=>by simp[g0]at h
 cells:=fun _ _ h=>by simp[g0]at h
 spare:=fun _ _ _ h=>by simp[g0]at h
 map:=fun _ _ _ h=>by simp[g0]at h
def Ck(P:Program)(t:TypeId):Bool :=
 match P.underlying t with
 | some (.struct _)=>true
 | some (.array _ _)=>true
 | _=>false
def GS(P:Program)(e:TypeId)(cs:List ae):ae:=if Ck P e then .agg cs else cs.getD 0 (.v (.bool false))
def Lx(S:TypeId->List ae->Prop):List TypeId->List ae->Prop
 | [],cs=>cs=[]
 | t::ts,cs=>∃a b,cs=a++b∧S t a∧Lx S ts b
def nC(P:Program):Nat->TypeId->List ae->Prop
 | 0,_,_=>False
 | n+1,t,cs=>match P.underlying t with
  | some .bool=>∃b,cs=[.v (.bool b)]
  | some (.int k)=>∃m:Int,cs=[.v (.int k m)]∧k.min<=m∧m<=k.max
  | some .string=>∃s:ByteArray,cs=[.v (.string s)]∧s.size<=reachBytes
  | some (.slice e)=>∃xs:List (List ae),cs=[.aB (P.cellsOf e) (xs.map (GS P e)) .sh]∧(∀x∈xs,nC P n e x)∧xs.length*P.bytesOf e<=reachBytes
  | some (.struct fs)=>Lx (nC P n) (fs.toList.map (·.type)) cs
  | _=>False
def PI(P:Program)(ts:List TypeId):Bool :=
 ts.all fun t=>decide (t<P.types.size)&&match P.underlying t with
  | some .bool=>true
  | some (.int _)=>true
  | some .string=>true
  | some (.slice e)=>ts.contains e&&decide (0<P.bytesOf e)&&decide (0<P.cellsOf e)&&(Ck P e || decide (P.cellsOf e=1))
  | some (.struct fs)=>fs.toList.all fun f=>ts.contains f.type
  | _=>false
def Hx(g:G)(dE:List ae)(us:List Value):Prop:=dE.length=us.length∧(∀c∈dE,c.scalar)∧∀(i:Nat) c u,dE[i]?=some c->us[i]?=some u->RV g c u
theorem Hx.append{g:G}{dE bs:List ae}{us vs:List Value}(h:Hx g dE us)(k:Hx g bs vs):Hx g (dE++bs) (us++vs):=by
 obtain⟨h1,h2,h3⟩:=h;obtain⟨k1,k2,k3⟩:=k;refine⟨by simp[h1,k1],fun c hc=>(List.mem_append.1 hc).elim (h2 c) (k2 c),fun i c u hc hu=>?_⟩;rw[List.getElem?_append]at hc hu;by_cases hi:i<dE.length
 ·rw[if_pos hi]at hc;rw[if_pos (by omega)]at hu;exact h3 i c u hc hu
 rw[if_neg hi]at hc;rw[if_neg (by omega),<-h1]at hu;exact k3 _ c u hc hu
theorem Hx.one{g:G}{a:ae}{u:Value}(hs:a.scalar)(h:RV g a u):Hx g [a] [u]:=by
 refine⟨rfl,by simpa using hs,fun i c u' hc hu=>?_⟩;cases i with
 | zero =>
  simp at hc hu;subst hc;subst hu;exact h
 | succ i=>simp at hc
section
variable {H:Type} {enc:TypeId×Value->H} {P:Program} {w:World} {sp:Nat->Bool} {held:Bool}
theorem ta{e:TypeId}:∀{ds:List (DataW H)} {d:DataW H},d∈ds->∀n∈d.weights P e,n∈DataW.weightsAll P e ds
 | d0::ds,d,hd,n,hn=>by
  simp only[DataW.weightsAll,List.mem_append];rcases List.mem_cons.1 hd with rfl|hd
  ·exact .inl hn
  exact .inr (ta hd n hn)
theorem Bh{α β:Type}{f:α->Option β}:∀{l:List α} {r:List β},l.mapM f=some r->r.length=l.length∧∀(i:Nat) x y,l[i]?=some x->r[i]?=some y->f x=some y
 | [],r,h=>by
  simp at h;subst h;exact⟨rfl,fun i x y hx=>by simp at hx⟩
 | a::l,r,h=>by
  rw[List.mapM_cons]at h;obtain⟨b,hb,h⟩:=Option.bind_eq_some_iff.1 h;obtain⟨r',hr,h⟩:=Option.bind_eq_some_iff.1 h;cases h;obtain⟨h1,h2⟩:=Bh hr;refine⟨by simp[h1],fun i x y hx hy=>?_⟩;cases i with
  | zero =>
   simp at hx hy;subst hx;subst hy;exact hb
  | succ i=>exact h2 i x y (by simpa using hx) (by simpa using hy)
theorem rS{base:Nat}{a:Addr}{n:Nat}{cs:List Value}(h:w.cells? base a n=some cs):cs.length=n∧∀(i:Nat) u,cs[i]?=some u->w.cell? (a.add i)=some u:=by
 unfold World.cells? at h;split at h
 ·obtain⟨h1,h2⟩:=Bh h;have hl:cs.length=n:=by simpa using h1
  refine⟨hl,fun i u hu=>?_⟩;have hi:=I hu;exact h2 i i u (by simp[List.getElem?_range (show i<n by omega)]) hu
 cases h
theorem sU{α β:Type}{p:α->β->Prop}:∀n:Nat,∀f:Nat->α,(∀i,i<n->∃b,p (f i) b)->∃bs:List β,bs.length=n∧∀i b,bs[i]?=some b->p (f i) b
 | 0,_,_=>⟨[],rfl,fun i b h=>by simp at h⟩
 | n+1,f,h=>by
  obtain⟨bs,h1,h2⟩:=sU n f (fun i hi=>h i (by omega));obtain⟨b,hb⟩:=h n (by omega);refine⟨bs++[b],by simp[h1],fun i c hc=>?_⟩;rcases aO hc with hc|⟨rfl,rfl⟩
  ·exact h2 i c hc
  rw[h1];exact hb
theorem Aq{e:TypeId}(eH:Ck P e=true∨P.cellsOf e=1){xs:List (List ae)}(hx:∀x∈xs,x.length=P.cellsOf e∧∀c∈x,c.scalar):al (xs.map (GS P e))=xs.flatten∧∀x∈xs,(GS P e x).cells=x:=by
 have key:∀x∈xs,(GS P e x).cells=x:=fun x Pm=>by
  unfold GS;split
  ·rfl
  rename_i hn;rcases eH with h|h
  ·exact absurd h hn
  obtain⟨h1,h2⟩:=hx x Pm;rw[h]at h1
  match x,h1 with
  | [c],_ =>
   have:=h2 c (by simp);cases c<;>first|rfl|exact this.elim
 refine⟨?_,key⟩;clear hx;induction xs with
 | nil=>rfl
 | cons x xs ih =>
  simp only[List.map_cons,al,List.flatMap_cons,List.flatten_cons];rw[key x (by simp)];congr 1;exact ih fun y hy=>key y (by simp[hy])
theorem sJ{n:Nat}:∀{xs:List (List ae)} (_:∀x∈xs,x.length=n) {j:Nat} {c:ae},xs.flatten[j]?=some c->∃i k x,j=i*n+k∧k<n∧xs[i]?=some x∧x[k]?=some c
 | [],_,j,c,h=>by simp at h
 | x::xs,hx,j,c,h=>by
  have hl:=hx x (by simp);rw[List.flatten_cons,List.getElem?_append]at h;split at h
  ·rename_i hj;exact⟨0,j,x,by omega,by omega,by simp,h⟩
  rename_i hj;obtain⟨i,k,y,h1,h2,h3,h4⟩:=sJ (fun y hy=>hx y (by simp[hy])) h;refine⟨i+1,k,y,?_,h2,by simpa using h3,h4⟩;rw[Nat.add_mul,Nat.one_mul];omega
theorem vD{n:Nat}{cs:List Value}{S:TypeId->List ae->Prop}{ts:List TypeId}
  (ih:∀t cs' (x:DataW H×List MemPlace),t∈ts->DataW.trod enc P w 0 sp held n t cs'=some x->(∀m∈x.1.weights P t,m<=reachBytes)->∃dE,S t dE∧Hx (g0 w) dE cs') :
  ∀(fl:List Field) (o:Nat) (xs:List (DataW H×List MemPlace)),(∀f∈fl,f.type∈ts)->(∀(j:Nat) f,fl[j]?=some f->f.offset=o+((fl.take j).map fun f=>P.cellsOf f.type).sum) ->
   o+(fl.map fun f=>P.cellsOf f.type).sum<=cs.length->xs.length=fl.length ->
   (∀(i:Nat) f,fl[i]?=some f->DataW.trod enc P w 0 sp held n f.type ((cs.drop f.offset).take (P.cellsOf f.type))=xs[i]?) ->
   (∀m∈DataW.weightsEach P (fl.map (·.type)) (xs.map (·.1)),m<=reachBytes) ->
   ∃dE,Lx S (fl.map (·.type)) dE∧Hx (g0 w) dE ((cs.drop o).take (fl.map fun f=>P.cellsOf f.type).sum)
 | [],o,xs,_,_,_,_,_,_=>⟨[],rfl,by simp[Hx]⟩
 | f::fl,o,[],_,_,_,hx,_,_=>by simp at hx
 | f::fl,o,y::ys,Um,TV,hlen,hx,hm,hw=>by
  have ho:f.offset=o:=by simpa using TV 0 f rfl
  simp only[List.map_cons,DataW.weightsEach,List.mem_append]at hw;simp only[List.map_cons,List.sum_cons]at hlen ⊢;obtain⟨dE,h1,h2⟩:=ih f.type _ y (Um f (by simp)) (by simpa using hm 0 f rfl) (fun m hm=>hw m (.inl hm));obtain⟨bs,k1,k2⟩:=vD ih fl (o+P.cellsOf f.type) ys (fun g hg=>Um g (by simp[hg])) (fun j g hg=>by
   have:=TV (j+1) g (by simpa using hg);simp only[List.take_succ_cons,List.map_cons,List.sum_cons]at this;omega) (cs:=cs) (by omega) (by simpa using hx) (fun i g hg=>by simpa using hm (i+1) g (by simpa using hg)) (fun m hm=>hw m (.inr hm))
  refine⟨dE++bs,⟨dE,bs,rfl,h1,k1⟩,?_⟩;rw[List.take_add,List.drop_drop];rw[ho]at h2;exact h2.append k2
theorem add_add{a:Addr}(hs:a.spot=none)(m k:Nat):(a.add m).add k=⟨a.block,a.off+(m+k),none⟩:=by
 cases a with
 | mk b off spot =>
  subst hs;unfold Addr.add;by_cases hm:m=0<;>by_cases hk:k=0<;>simp[hm,hk,Nat.add_assoc]
theorem zG{a:Addr}{u:Value}(h:w.cell? a=some u):a.spot=none:=by
 unfold World.cell? at h;split at h
 ·split at h
  ·cases h
  rename_i hs;simpa using hs
 cases h
theorem BI(hl:laidOutB P=true){ts:List TypeId}(hc:PI P ts=true)(n:Nat):∀(t:TypeId) (cs:List Value) (x:DataW H×List MemPlace),t∈ts ->
  DataW.trod enc P w 0 sp held n t cs=some x->(∀m∈x.1.weights P t,m<=reachBytes)->∃dE,nC P n t dE∧Hx (g0 w) dE cs:=by
 induction n with
 | zero=>intro _ _ _ _ h;simp[DataW.trod]at h
 | succ n ih =>
  intro t cs x ht h hw;have xz:=List.all_eq_true.1 hc t ht;simp only[Bool.and_eq_true,decide_eq_true_eq]at xz;obtain⟨cM,xz⟩:=xz;cases hu:P.underlying t with
  | none=>rw[hu]at xz;cases xz
  | some d =>
   rw[hu]at xz;cases d with
   | bool =>
    obtain⟨b,rfl,rfl⟩:=DataW.trod_bool hu h;exact⟨[.v (.bool b)],by simp only[nC,hu];exact⟨b,rfl⟩,.one trivial (.v trivial)⟩
   | int k =>
    obtain⟨m,rfl,rfl,W5⟩:=DataW.trod_int hu h;simp only[Lit.wf,Bool.and_eq_true,decide_eq_true_eq]at W5;exact⟨[.v (.int k m)],by simp only[nC,hu];exact⟨m,rfl,W5⟩,.one trivial (.v W5)⟩
   | string =>
    obtain⟨s,rfl,rfl,hs⟩:=DataW.trod_string hu h;have hb:s.size<=reachBytes:=by
     have:=hw s.data.toList.length (by simp[DataW.weights]);simpa using this
    exact⟨[.v (.string s)],by simp only[nC,hu];exact⟨s,rfl,hb⟩,.one trivial (.v trivial)⟩
   | slice e =>
    simp only[Bool.and_eq_true,decide_eq_true_eq,Bool.or_eq_true,List.contains_iff_mem]at xz;obtain⟨⟨⟨he,hb⟩,IZ⟩,eH⟩:=xz;rcases DataW.trod_slice hu h with⟨rfl,rfl⟩|⟨a,len,cap,elems,rest,n',ko,rfl,rfl,_,Jb,Mo,EO,cB,_,_⟩
    ·exact⟨[.aB (P.cellsOf e) [] .sh],by simp only[nC,hu];exact⟨[],rfl,by simp,by simp[reachBytes]⟩,.one trivial (.nil (fun id h=>by cases h) (by simp))⟩
    cases ko;simp only[DataW.weights,hu,List.mem_cons,List.mem_append]at hw;have hlen:(len+rest.length)*P.bytesOf e<=reachBytes:=by
     have:=hw _ (.inl rfl);simpa[EO]using this
    have OU:len*P.bytesOf e<=reachBytes:=Nat.le_trans (Nat.mul_le_mul_right _ (by omega)) hlen;have hle:len<=reachBytes:=Nat.le_trans (Nat.le_mul_of_pos_right _ hb) OU;have Jk:∀i,i<len->∃dE:List ae,nC P n e dE∧∃us,Hx (g0 w) dE us∧w.cells? 0 (a.add (i*P.cellsOf e)) (P.cellsOf e)=some us:=fun i hi=>by
     have hy:elems[i]?=some elems[i]:=List.getElem?_eq_getElem (by omega);have h2:=cB i hi;rw[hy]at h2;obtain⟨us,h3,h4⟩:=Option.bind_eq_some_iff.1 h2;obtain⟨dE,k1,k2⟩:=ih e us elems[i] he h4 (fun m hm=>hw m (.inr (.inl (ta (List.mem_map.2 ⟨elems[i],List.getElem_mem _,rfl⟩) m hm))));exact⟨dE,k1,us,k2,h3⟩
    obtain⟨xs,QM,GA⟩:=sU (p:=fun(i:Nat) (dE:List ae)=>nC P n e dE∧∃us,Hx (g0 w) dE us∧w.cells? 0 (a.add (i*P.cellsOf e)) (P.cellsOf e)=some us) len id Jk;have Sc:∀y∈xs,y.length=P.cellsOf e∧∀c∈y,c.scalar:=fun y hy=>by
     obtain⟨i,hi⟩:=List.mem_iff_getElem?.1 hy;obtain⟨_,us,h2,h3⟩:=GA i y hi;exact⟨h2.1.trans (rS h3).1,h2.2.1⟩
    obtain⟨S6,P9⟩:=Aq (P:=P) (by simpa using eH) Sc;have pA:xs≠[]->a.spot=none:=fun bD=>by
     match xs,bD,GA,Sc with
     | y::ys,_,GA,Sc =>
      obtain⟨_,us,h2,h3⟩:=GA 0 y rfl;obtain⟨h4,h5⟩:=rS h3;have h6:=h5 0 (us[0]'(by omega)) (List.getElem?_eq_getElem _);have:=zG h6;simpa[Addr.add]using this
    refine⟨[.aB (P.cellsOf e) (xs.map (GS P e)) .sh],?_,.one trivial ?_⟩
    ·simp only[nC,hu];refine⟨xs,rfl,fun y hy=>?_,by rw[QM];exact OU⟩;obtain⟨i,hi⟩:=List.mem_iff_getElem?.1 hy;exact(GA i y hi).1
    have e9:∀(j:Nat) (c:ae),xs.flatten[j]?=some c->∃u,w.cell? ⟨a.block,a.off+j,none⟩=some u∧RV (g0 w) c u:=fun j c hj=>by
     obtain⟨i,k,y,h1,h2,h3,h4⟩:=sJ (n:=P.cellsOf e) (fun y hy=>(Sc y hy).1) hj;obtain⟨_,us,h5,h6⟩:=GA i y h3;obtain⟨h7,h8⟩:=rS h6;have hk:us[k]?=some (us[k]'(by omega)):=List.getElem?_eq_getElem _;have h9:=h8 k _ hk;have bD:xs≠[]:=fun e=>by rw[e]at h3;simp at h3
     have P0:(a.add (id i*P.cellsOf e)).add k=⟨a.block,a.off+(i*P.cellsOf e+k),none⟩:=add_add (pA bD) _ _;rw[P0,<-h1]at h9;exact⟨_,h9,h5.2.2 k c _ h4 hk⟩
    have key:=@RV.aB (g0 w) (P.cellsOf e) (xs.map (GS P e)) .sh a cap (fun x hx=>by
     obtain⟨y,hy,rfl⟩:=List.mem_map.1 hx;rw[P9 y hy];exact(Sc y hy).1) (fun x hx c hc=>by
     obtain⟨y,hy,rfl⟩:=List.mem_map.1 hx;rw[P9 y hy]at hc;exact(Sc y hy).2 c hc) (by simp[QM];exact Jb) (by simp[QM];unfold reachBytes at hle;omega) (fun bD=>pA (fun e=>bD (by rw[e];rfl)))
     (fun j=>(w.cell? ⟨a.block,a.off+j,none⟩).getD (.bool false)) (fun j c hj=>by
      rw[S6]at hj;obtain⟨u,h1,_⟩:=e9 j c hj;refine⟨?_,PU⟩;show w.cell? _=_;rw[h1];rfl) (fun j c hj=>by
      rw[S6]at hj;obtain⟨u,h1,h2⟩:=e9 j c hj;rw[h1];exact h2) trivial
    rw[List.length_map,QM]at key;exact key
   | struct fs =>
    simp only[List.all_eq_true,List.contains_iff_mem]at xz;obtain⟨xs,n',ko,rfl,hZ,QM,cB⟩:=DataW.trod_struct hu h;cases ko;obtain⟨k1,k2,k3⟩:=kid_struct hl cM hu;simp only[DataW.weights,hu]at hw;obtain⟨dE,h1,h2⟩:=vD ih fs.toList 0 xs xz (fun j f hj=>by rw[k3 j f hj];omega) (by rw[hZ,k2];omega) (by simpa using QM) (fun i f hf=>cB i f (by simpa using hf)) hw;refine⟨dE,by simp only[nC,hu];exact h1,?_⟩;rw[List.drop_zero,<-k2,<-hZ,List.take_length]at h2;exact h2
   | _=>cases xz
theorem pD(hl:laidOutB P=true){W W':World}{YL:Nat->Bool}:∀{ts:List TypeId} {vs:List Value} {ds:List (DataW H)} {ps:List MemPlace},(∀t∈ts,P.readableRec t=true∧t<P.types.size) ->
  DataW.TrodAll enc P W 0 (fun _=>true) true ts vs ds ps->(∀p∈ps,W.sameAt W' p)->(∀p∈ps,YL p.block=true)->DataW.TrodAll enc P W' 0 YL true ts vs ds ps
 | [],vs,ds,ps,_,h,_,_=>by
  obtain⟨rfl,rfl,rfl⟩:=trodAll_nil h;rfl
 | t::ts,vs,ds,ps,Um,h,h1,h2=>by
  obtain⟨v,vs',d,ds',p,q,rfl,rfl,rfl,hd,hr⟩:=trodAll_cons h;obtain⟨k1,k2⟩:=Um t (by simp);exact⟨p,q,WideElems.Trod_stays hl k1 k2 hd (fun x hx=>h1 x (List.mem_append.2 (.inl hx))) (fun x hx=>h2 x (List.mem_append.2 (.inl hx))),
   pD hl (fun t ht=>Um t (by simp[ht])) hr (fun x hx=>h1 x (List.mem_append.2 (.inr hx))) (fun x hx=>h2 x (List.mem_append.2 (.inr hx))),rfl⟩
theorem zg(hl:laidOutB P=true){fn:Func}{s:ChangeSpec}{apart fresh handsOn again:Bool}{W:World}{args:Array Value}{ds gs:List (DataW H)}{before:List MemPlace}{f:FuncId}{xs:List ae}{tb:TypeId}
  (nu:∀t∈fn.params.toList,P.readableRec t=true∧t<P.types.size) (Pj:s.vars=[]) (dZ:fn.resultTypes = #[tb]) (YA:P.underlying tb=some .bool)
  (hW:DataW.Whole enc P fn.params.toList s.vars apart W args.toList ds gs before)
  (rf:s.fn H (ds++gs) = { results:=[.lit (.bool true)],args:=ds })
  (WC:bq P f xs (.v (.bool true))) (Zp:iW (g0 W) xs args) :
  Calls P f args W fun e W'=>∃v,e=.returned v∧s.post enc P fn apart fresh handsOn again W args v W':=by
 refine(WC.2 (g0 W) args (Mb W) rfl Zp).mono fun e W' ⟨g',v,r,h1,h2,h3,_,h5,h6,_⟩=>?_;subst h6;cases h5;subst h2;have Dc:Below W.heap.size W g'.w:=⟨h3.os,h3.tape,h3.output,h3.size,fun k hk=>(h3.block k hk IS).1⟩
 have a8:=hW.lt;obtain⟨p,q,hA,hV,rfl,X9,vV⟩:=id hW;have hq:gs=[]∧q=[]:=trodVars_none (by rw[Pj]at hV;exact hV);obtain⟨rfl,rfl⟩:=hq;simp only[List.append_nil]at a8 X9 vV rf;have eE:∀x∈p,W.sameAt g'.w x:=fun x hx=>Dc.same (a8 x hx);have fc:∀sp:Nat->Bool,(∀x∈p,sp x.block=true)->DataW.TrodAll enc P g'.w 0 sp true fn.params.toList args.toList ds p:=fun sp nv=>pD hl nu hA eE nv;have hR:∀(b:Nat) (sp:Nat->Bool) (hd:Bool),DataW.TrodAll enc P g'.w b sp hd fn.resultTypes.toList ((Value.bool true).resultList fn.resultTypes.size) [.lit (.bool true)] []:=fun b sp hd=>by
  rw[dZ];exact trodAll_mk1 (shut_bool YA true)
 have YD:∀sp:Nat->Bool,DataW.TrodVars enc P g'.w sp s.vars [] []:=fun sp=>by
  rw[Pj];rfl
 refine⟨_,h1,ds,[],p++[],[],p,[],hW,?_,?_,?_,Dc.frame _,fun _=>⟨?_,[.lit (.bool true)]++ds,[],([]++p)++[],⟨[]++p,[],?_,YD _,rfl,?_,?_⟩,?_⟩⟩
 ·rw[List.append_nil,rf];exact hR _ _ _
 ·rw[List.append_nil,rf];exact fc _ fun x hx=>by simpa using a8 x hx
 ·rw[List.append_nil,rf];exact YD _
 ·exact ok_one dZ rfl (okWide_bool_mk YA true)
 ·exact trodAll_append (fc (fun _=>true) fun _ _=>rfl) (hR _ _ _)
 ·intro b off hx;simp only[List.nil_append,List.append_nil]at hx;rw[Dc.frozen (p:=⟨b,off,none⟩) (a8 _ hx)];exact X9 b off hx
 ·intro ha;simpa using vV ha
 intro x hx _;simpa using hx
end
section
variable {P:Program} {n:Nat} {t:TypeId} {cs:List ae}
theorem nC.int{k:IntKind}(hu:P.underlying t=some (.int k))(h:nC P n t cs):∃m:Int,cs=[.v (.int k m)]∧k.min<=m∧m<=k.max:=by
 cases n with
 | zero=>exact h.elim
 | succ n =>
  simp only[nC,hu]at h;exact h
theorem nC.struct{fs:Array Field}(hu:P.underlying t=some (.struct fs))(h:nC P n t cs):∃m,n=m+1∧Lx (nC P m) (fs.toList.map (·.type)) cs:=by
 cases n with
 | zero=>exact h.elim
 | succ n =>
  simp only[nC,hu]at h;exact⟨n,rfl,h⟩
theorem nC.slice{e:TypeId}(hu:P.underlying t=some (.slice e))(h:nC P n t cs):∃m,n=m+1∧∃xs:List (List ae),cs=[.aB (P.cellsOf e) (xs.map (GS P e)) .sh]∧(∀x∈xs,nC P m e x)∧xs.length*P.bytesOf e<=reachBytes:=by
 cases n with
 | zero=>exact h.elim
 | succ n =>
  simp only[nC,hu]at h;exact⟨n,rfl,h⟩
theorem Bi{α:Type}{f:α->ae}{Q:α->Prop}{g:List ae->ae}:∀{xs:List (List ae)},(∀x∈xs,∃a,g x=f a∧Q a)->∃l:List α,xs.map g=l.map f∧∀a∈l,Q a
 | [],_=>⟨[],rfl,by simp⟩
 | x::xs,h=>by
  obtain⟨a,ha,hq⟩:=h x (by simp);obtain⟨l,hl,hql⟩:=Bi (xs:=xs) fun y hy=>h y (by simp[hy]);exact⟨a::l,by simp[ha,hl],by simpa using⟨hq,hql⟩⟩
theorem nC.E9{α:Type}{f:α->ae}{Q:α->Prop}{e:TypeId}(hu:P.underlying t=some (.slice e))(h:nC P n t cs)(hd:∀m,m<n->∀x,nC P m e x->∃a,GS P e x=f a∧Q a) :
  ∃l:List α,cs=[.aB (P.cellsOf e) (l.map f) .sh]∧l.length*P.bytesOf e<=reachBytes∧∀a∈l,Q a:=by
 obtain⟨m,rfl,xs,rfl,h1,h2⟩:=h.slice hu;obtain⟨l,hl,hq⟩:=Bi (f:=f) (Q:=Q) fun x hx=>hd m (by omega) x (h1 x hx);refine⟨l,by rw[hl],?_,hq⟩;have:xs.length=l.length:=by
  have:=congrArg List.length hl;simpa using this
 rw[<-this];exact h2
end
end Go.Av
namespace Go.Av
theorem jH{P:Program}{kb:Nat}{c:Code}{Q:dR->St->Prop}{n:Nat}{bn:List (Nat×ae)}{O:List ai}(k off:Nat){sz:Nat}{cs xs:List ae}(ka:O[k]?=some (.cells cs))(MF:cs[off]?=some (.aB sz xs .ex))
  (h:cn P kb c Q ⟨n,bn,(O++[ai.spare xs.length]).set k (.cells (cs.set off (.aB sz xs (.tok O.length))))⟩):cn P kb c Q ⟨n,bn,O⟩ :=
 h.weaken fun base a g hb hr=>by
  have hO:g.objs=O:=hr.objs;have TB:=Le.mark hr.good (ai.spare xs.length);have Tu:=Good.mark hr.good xs.length;have Z3:g.objs[k]?=some (.cells cs):=by rw[hO];exact ka
  have MG:(g.mark (ai.spare xs.length)).objs[k]?=some (.cells cs):=da Z3;obtain⟨l,arr,t,e1,e2,e3,e4,e5,e6⟩:=Tu.cells k cs MG;have Uj:lb (g.mark (ai.spare xs.length)) k (.cells cs) (some l) (.cells (cs.set off (.aB sz xs (.tok O.length)))) g.w:={
   obj:=MG
   os:=rfl
   tape:=rfl
   output:=rfl
   size:=Nat.le_refl _
   block:=fun _ _ _=>rfl
   cell:=fun b off x hx _=>hx
   place:=fun l1 h1 _=>by
    simp only[Option.some.injEq]at h1;subst h1;exact .inr ⟨l,e1,trivial,rfl,Nat.le_refl _⟩
   spare:=fun m h=>by cases h
   plain:=fun _=>⟨by simp[ai.aD],e1⟩
   gone:=by simp }
  have A5:=Le.bw Tu Uj;have Dg:=Good.bw Tu Uj ⟨l,arr,t,rfl,e2,e3,by simpa using e4,fun j d u hd hu=>by
   rw[List.getElem?_set]at hd;split at hd
   ·rename_i hj;subst hj;split at hd
    ·simp only[Option.some.injEq]at hd;subst hd;have hv:=(e5 off _ u MF hu).mono A5;cases hv with
     | nil=>exact .nil (fun id e=>by
      simp only[nH.tok.injEq]at e;subst e;simp[G.bw,G.mark,hO]) (by simp)
     | aB cM dk cL cv hs f hm hr ho =>
      refine .aB cM dk cL cv hs f hm hr ⟨by simp[G.bw,G.mark,hO],fun m fa=>?_⟩;have bD:k≠O.length:=by
       have:=I ka;omega
      have:((g.mark (ai.spare xs.length)).bw k (some l) (.cells (cs.set off (.aB sz xs (.tok O.length)))) g.w).objs[O.length]?=some (.spare xs.length):=by
       simp only[G.bw];rw[List.getElem?_set_ne bD,<-hO];exact eS
      rw[this]at fa;simp only[Option.some.injEq,ai.spare.injEq]at fa;exact⟨by omega,fun _=>.inl ho⟩
    cases hd
   ·exact(e5 j d u hd hu).mono A5,fun d hd=>by
   rcases List.mem_or_eq_of_mem_set hd with q|q
   ·exact e6.1 d q
   subst q;trivial,e6.2⟩ (fun l1 h1 _=>by
   simp only[Option.some.injEq]at h1;subst h1;exact aX e3)
  exact⟨(g.mark (ai.spare xs.length)).bw k (some l) (.cells (cs.set off (.aB sz xs (.tok O.length)))) g.w,rfl,{ le:=(hr.le.trans TB).trans A5,good:=Dg,objs:=by simp[G.mark,G.bw,hO],size:=hr.size,defers:=hr.defers,slot:=fun s y hy=>(hr.slot s y hy).imp fun u hu=>⟨hu.1,(hu.2.mono TB).mono A5⟩ }⟩
def y4(τ:St)(Q:dR->St->Prop):dR->St->Prop
 | .norm,σ=>bj σ τ
 | e,σ=>Q e σ
theorem km{P:Program}{kb:Nat}{x y:Code}{Q:dR->St->Prop}{σ:St}(τ:St)(h1:cn P kb x (y4 τ Q) σ)(h2:cn P kb y Q τ):cn P kb (.seq x y) Q σ :=
 aG (h1.mono fun e fN h=>by cases e<;>first|exact h2.cover h|exact h)
theorem Sy{P:Program}{kb:Nat}{x y z:Code}{Q:dR->St->Prop}{σ:St}(τ:St)(h1:cn P kb x (y4 τ (bM P kb z Q)) σ)(h2:cn P kb y (bM P kb z Q) τ):cn P kb (.seq (.seq x y) z) Q σ :=
 aG (km τ h1 h2)
theorem iz{P:Program}{kb:Nat}{x y:Code}{Q:dR->St->Prop}{σ:St}(τ:St)(h1:cn P kb x (y4 τ Q) σ)(h2:cn P kb y Q τ):cn P kb x (bM P kb y Q) σ :=
 h1.mono fun e fN h=>by cases e<;>first|exact h2.cover h|exact h

def rz(A:List Nat)(N k:Nat):Nat:=if k<A.length then A.getD k 0 else N+(k-A.length)
def Kind.mY(A:List Nat)(N:Nat):Kind->Kind
 | .rd id=>.rd (rz A N id)
 | .wr n l=>.wr (rz A N n) (l.map (rz A N))
 | .new id=>.new (rz A N id)
 | k=>k
def Kind.fresh(m:Nat):Kind->Bool
 | .wr n _=>decide (m<=n)
 | _=>true
theorem BD{A:List Nat}{N:Nat}(hn:A.Nodup)(hA:∀a∈A,a<N){i j:Nat}(h:rz A N i=rz A N j):i=j:=by
 unfold rz at h;have e9:∀k,k<A.length->A.getD k 0∈A:=fun k hk=>by
  rw[List.getD_eq_getElem?_getD,List.getElem?_eq_getElem hk];exact List.getElem_mem hk
 split at h<;>split at h
 ·rename_i h1 h2;rw[List.getD_eq_getElem?_getD,List.getElem?_eq_getElem h1,List.getD_eq_getElem?_getD,List.getElem?_eq_getElem h2]at h;exact(List.getElem_inj hn).1 h
 ·rename_i h1 h2;have:=hA _ (e9 i h1);omega
 ·rename_i h1 h2;have:=hA _ (e9 j h2);omega
 omega
theorem M7{A:List Nat}{N:Nat}(hA:∀a∈A,a<N){i n:Nat}(hn:A.length<=n)(h:i<n):rz A N i<rz A N n:=by
 unfold rz;have e9:∀k,k<A.length->A.getD k 0∈A:=fun k hk=>by
  rw[List.getD_eq_getElem?_getD,List.getElem?_eq_getElem hk];exact List.getElem_mem hk
 rw[if_neg (show ¬n<A.length by omega)];split
 ·rename_i h1;have:=hA _ (e9 i h1);omega
 omega
theorem uZ{A:List Nat}{N:Nat}(hn:A.Nodup)(hA:∀a∈A,a<N){k l:Kind}(hk:k.fresh A.length=true)(hl:l.fresh A.length=true)(h:bO k l=true):bO (k.mY A N) (l.mY A N)=true:=by
 have key:∀{id n:Nat} {L:List Nat},A.length<=n->id<n->id ∉ L->rz A N id<rz A N n∧rz A N id ∉ L.map (rz A N):=fun h1 h2 h3 =>
  ⟨M7 hA h1 h2,fun hm=>by
   obtain⟨x,hx,e⟩:=List.mem_map.1 hm;have:=BD hn hA e;subst this;exact h3 hx⟩
 cases k<;>cases l<;>first
  | exact h
  | (simp only[bO]at h;cases h)
  | (simp only[Kind.mY,bO,Bool.not_eq_true',decide_eq_false_iff_not]at h ⊢;exact fun e=>h (BD hn hA e))
  | (simp only[Kind.fresh,decide_eq_true_eq]at hk hl
     simp only[Kind.mY,bO,Bool.and_eq_true,decide_eq_true_eq,Bool.not_eq_true',List.contains_eq_mem,decide_eq_false_iff_not]at h ⊢;exact key (by assumption) h.1 h.2)
theorem bP{ops:Array Oper}{ks:List Kind}(A:List Nat)(N:Nat)(sT:List Kind)(hn:A.Nodup)(hA:∀a∈A,a<N)(e:sT.map (Kind.mY A N)=ks)(hf:sT.all (Kind.fresh A.length)=true)(h:oh ops sT=true):oh ops ks=true:=by
 subst e;simp only[oh,Bool.and_eq_true,List.all_eq_true,Bool.or_eq_true,List.length_map]at h ⊢;refine⟨h.1,fun i hi j hj=>?_⟩;rcases h.2 i hi j hj with q|q
 ·exact .inl q
 refine .inr ?_;have nE:∀i,(sT.map (Kind.mY A N)).getD i .write=(sT.getD i .write).mY A N:=fun i=>by
  rw[List.getD_eq_getElem?_getD,List.getD_eq_getElem?_getD,List.getElem?_map];cases sT[i]?<;>rfl
 have ef:∀i,(sT.getD i .write).fresh A.length=true:=fun i=>by
  rw[List.getD_eq_getElem?_getD];cases hi:sT[i]? with
  | none=>rfl
  | some x=>exact List.all_eq_true.1 hf x (List.mem_of_getElem? hi)
 rw[nE,nE];unfold indep at q ⊢;split at q
 ·rename_i oj oi h1 h2;simp only[Bool.and_eq_true]at q ⊢;exact⟨q.1,uZ hn hA (ef j) (ef i) q.2⟩
 cases q
theorem zz{σ:St}:∀{l:List (Nat×ae)},(∀p∈l,∃x,σ.get p.1=some x∧Sub σ.objs x p.2)->iv σ l
 | [],_=>trivial
 | (s,y)::r,h=>⟨h (s,y) (by simp),zz fun p hp=>h p (by simp[hp])⟩
theorem uf{P:Program}{kb:Nat}{c:Code}{Q:dR->St->Prop}{n:Nat}{bn:List (Nat×ae)}{O:List ai}{o:ai}(s:Nat){x:ae}(y:ae)(cz:List (Nat×ae))(hx:look bn s=some x)
  (hp:¬o.aD) (hl:o.live) (hf:bY (O++[o]) O.length x y) (Gm:kb<=O.length) (hs:∀p∈cz,look (bt s y bn) p.1=some p.2) (br:∀o∈O,o.upto O.length) (iY:∀p∈cz,p.2.upto O.length)
  (h:cn P kb c Q ⟨n,cz,O⟩):cn P kb c Q ⟨n,bn,O++[o]⟩:=by
 refine aC s O.length (o:=o) y (dI _ _) hp hl hx hf ?_;rw[vF];have iw:∀s x,look cz s=some x->(s,x)∈cz:=fun s x hl=>ri hl;exact rQ O.length (by simp) Gm cz (by rw[yc];exact br) (zz fun p hp=>⟨p.2,hs p hp,Sub.refl _⟩) (fun k x hk=>iY (k,x) (iw k x hk)) (by rw[yc];exact h)
theorem aK{P:Program}{kb:Nat}{c:Code}{Q:dR->St->Prop}{n:Nat}{bn:List (Nat×ae)}{O:List ai}{cs:List ae}(s:Nat)(ds:List ae)(cz:List (Nat×ae))(hx:look bn s=some (.mp O.length 0))
  (tO:cs.map ae.bf=ds) (Gm:kb<=O.length) (hs:∀p∈cz,look (bt s (.ip none ds) bn) p.1=some p.2) (br:∀o∈O,o.upto O.length) (iY:∀p∈cz,p.2.upto O.length)
  (h:cn P kb c Q ⟨n,cz,O⟩):cn P kb c Q ⟨n,bn,O++[.cells cs]⟩ :=
 uf s (.ip none ds) cz hx (by simp[ai.aD]) trivial (bY.mp (cs:=cs) (dI _ _) (by rw[List.drop_zero,tO])) Gm hs br iY h
theorem Cr{P:Program}{kb:Nat}{c:Code}{Q:dR->St->Prop}{n:Nat}{bn:List (Nat×ae)}{O:List ai}{cs:List ae}(s:Nat){len cap sz:Nat}(xs:List ae)(cz:List (Nat×ae))(hx:look bn s=some (.ms O.length 0 len cap))
  (cM:∀x∈xs,x.cells.length=sz) (hlen:xs.length=len) (hd:(cs.take (len*sz)).map ae.bf=al xs) (Gm:kb<=O.length) (hs:∀p∈cz,look (bt s (.aB sz xs .sh) bn) p.1=some p.2) (br:∀o∈O,o.upto O.length) (iY:∀p∈cz,p.2.upto O.length)
  (h:cn P kb c Q ⟨n,cz,O⟩):cn P kb c Q ⟨n,bn,O++[.cells cs]⟩ :=
 uf s (.aB sz xs .sh) cz hx (by simp[ai.aD]) trivial (bY.ms (cs:=cs) (dI _ _) cM hlen (by rw[List.drop_zero,hd])) Gm hs br iY h
theorem bZ{P:Program}{kb:Nat}{c:Code}{Q:dR->St->Prop}{n:Nat}{bn:List (Nat×ae)}{O X:List ai}{cs:List ae}(s k:Nat)(ds:List ae)(hX:X[k]?=some (.cells cs))(hx:look bn s=some (.mp (O.length+k) 0))
  (tO:cs.map ae.bf=ds) (h:cn P kb c Q ⟨n,bt s (.ip none ds) bn,O++X.set k .gone⟩):cn P kb c Q ⟨n,bn,O++X⟩:=by
 have gC:(O++X)[O.length+k]?=some (.cells cs):=by
  rw[List.getElem?_append_right (by omega),Nat.add_sub_cancel_left,hX]
 refine aC s (O.length+k) (o:=.cells cs) (.ip none ds) gC (by simp[ai.aD]) trivial hx (bY.mp (cs:=cs) gC (by rw[List.drop_zero,tO])) ?_;rw[List.set_append_right _ _ (by omega),Nat.add_sub_cancel_left];exact h
theorem Eu{P:Program}{kb:Nat}{c:Code}{Q:dR->St->Prop}{n:Nat}{bn:List (Nat×ae)}{O X:List ai}(j:Nat)(Y:List ai)(cz:List (Nat×ae))(hY:X.take j=Y)(hj:j<=X.length)(Gm:kb<=O.length)(hs:∀p∈cz,look bn p.1=some p.2)
  (hO:∀o∈O,o.upto (O.length+j)) (hX:∀o∈Y,o.upto (O.length+j)) (iY:∀p∈cz,p.2.upto (O.length+j)) (h:cn P kb c Q ⟨n,cz,O++Y⟩):cn P kb c Q ⟨n,bn,O++X⟩:=by
 have e:(O++X).take (O.length+j)=O++Y:=by
  rw[List.take_append,List.take_of_length_le (by omega),Nat.add_sub_cancel_left,hY]
 refine rQ (O.length+j) (by simp;omega) (by omega) cz ?_ (zz fun p hp=>⟨p.2,hs p hp,Sub.refl _⟩) (fun k x hk=>iY (k,x) (ri hk)) (by rw[e];exact h);rw[e];intro o ho;rcases List.mem_append.1 ho with q|q
 ·exact hO o q
 exact hX o q
end Go.Av
namespace Go.Proofs.YtjdnhamngpafmaaGreat
open Go.Av
def Xq:=And.intro @UB <|
 And.intro @UC <|
 And.intro @Kr <|
 And.intro @UD <|
 And.intro @UE <|
 And.intro @UF <|
 And.intro @Q5 <|
 And.intro @Q6 <|
 And.intro @Q7 <|
 And.intro @Q8 <|
 And.intro @Q9 <|
 And.intro @Ra <|
 And.intro @Rb <|
 And.intro @Ed <|
 And.intro @Rc <|
 And.intro @Re <|
 And.intro @Rf <|
 And.intro @Rg <|
 And.intro @Rh <|
 And.intro @Ri <|
 And.intro @Rj <|
 And.intro @Rl <|
 And.intro @Rm <|
 And.intro @Rn <|
 And.intro @Ro <|
 And.intro @Rp <|
 And.intro @Rq <|
 And.intro @Rr <|
 And.intro @Np <|
 And.intro @Nq <|
 And.intro @Nr <|
 And.intro @Ns <|
 And.intro @Nt <|
 And.intro @Nu <|
 And.intro @Nv <|
 And.intro @Nw <|
 And.intro @Nx <|
 And.intro @Ny <|
 And.intro @Nz <|
 And.intro @NA <|
 And.intro @NB <|
 And.intro @NC <|
 And.intro @ND <|
 And.intro @FB <|
 And.intro @NF <|
 And.intro @FC <|
 And.intro @NG <|
 And.intro @NH <|
 And.intro @NI <|
 And.intro @NJ <|
 And.intro @NK <|
 And.intro @NL <|
 And.intro @NM <|
 And.intro @NN <|
 And.intro @NO <|
 And.intro @NP <|
 And.intro @NQ <|
 And.intro @NR <|
 And.intro @NS <|
 And.intro @NT <|
 And.intro @NU <|
 And.intro @Ins.aj <|
 And.intro @Ins.fold <|
 And.intro @Ins.an <|
 And.intro @Ins.dj <|
 And.intro @Ins.aL <|
 And.intro @Ins.ak <|
 And.intro @Ins.au <|
 And.intro @Edge.aj <|
 And.intro @Edge.fold <|
 And.intro @Edge.an <|
 And.intro @Edge.dj <|
 And.intro @Edge.aL <|
 And.intro @Edge.ak <|
 And.intro @Edge.au <|
 And.intro @Term.aj <|
 And.intro @Term.fold <|
 And.intro @Term.an <|
 And.intro @Term.dj <|
 And.intro @Term.aL <|
 And.intro @Term.ak <|
 And.intro @Term.au <|
 And.intro @Block.aj <|
 And.intro @Block.fold <|
 And.intro @Block.an <|
 And.intro @Block.dj <|
 And.intro @Block.aL <|
 And.intro @Block.ak <|
 And.intro @Block.au <|
 And.intro @Func.aj <|
 And.intro @Func.fold <|
 And.intro @Func.an <|
 And.intro @Func.dj <|
 And.intro @Func.aL <|
 And.intro @Func.ak <|
 And.intro @Func.au <|
 And.intro @cu.aj <|
 And.intro @cu.fold <|
 And.intro @cu.an <|
 And.intro @cu.dj <|
 And.intro @cu.aL <|
 And.intro @cu.ak <|
 And.intro @cu.au <|
 And.intro @SV.jd <|
 And.intro @SV.aj <|
 And.intro @SV.fold <|
 And.intro @SV.an <|
 And.intro @SV.dj <|
 And.intro @SV.au <|
 And.intro @SV.FJ <|
 And.intro @cg <|
 And.intro @F1 <|
 And.intro @HO <|
 And.intro @ax <|
 And.intro @Xf <|
 And.intro @JC <|
 And.intro @lf <|
 And.intro @tI <|
 And.intro @BK <|
 And.intro @BL <|
 And.intro @Kd <|
 And.intro @Kc <|
 And.intro @Ks <|
 And.intro @List.take_length.{0} <|
 And.intro @List.append_assoc.{0} <|
 And.intro @List.cons_append.{0} <|
 @List.nil_append.{0}
def zp:=And.intro Xp <|And.intro @ne_eq.{1} <|And.intro @implies_true.{0} <|And.intro @implies_true.{1} <|Xq
def zt:=And.intro and_true <|And.intro true_and and_self
def zu:=And.intro @Ins.aL <|And.intro @Ins.ak <|And.intro @Edge.aL <|And.intro @Edge.ak <|And.intro @Term.aL <|And.intro @Term.ak <|And.intro @Block.aL <|And.intro @Block.ak <|And.intro @Func.aL <|And.intro @Func.ak <|And.intro @cu.aL <|And.intro @cu.ak <| @ax
theorem jD{kb:Nat}{id:Nat}{l:List Oper}{draw:Bool}{Q:dR->St->Prop}{σ:St}(h:fq Tryz.prog aT ⟨false,false⟩ l 0 [] σ [] fun τ ks=>iV draw (fun _=>fC l.toArray ks.reverse)∧At τ (Q .norm)):cn Tryz.prog kb (.region id l.toArray draw) Q σ:=kE _ hT hm h
theorem aU{kb:Nat}{id:Nat}{l:List Oper}{draw:Bool}{Q:dR->St->Prop}{σ:St}{x:Code}(h:fq Tryz.prog aT ⟨false,false⟩ l 0 [] σ [] fun τ ks=>iV draw (fun _=>fC l.toArray ks.reverse)∧At τ (bM Tryz.prog kb x Q .norm)):cn Tryz.prog kb (.seq (.region id l.toArray draw) x) Q σ:=aG (jD h)
theorem cK{kb:Nat}{id:Nat}{l:List Oper}{draw:Bool}{Q:dR->St->Prop}{σ:St}{x y:Code}(h:fq Tryz.prog aT ⟨false,false⟩ l 0 [] σ [] fun τ ks=>iV draw (fun _=>fC l.toArray ks.reverse)∧At τ (bM Tryz.prog kb x (bM Tryz.prog kb y Q) .norm)):cn Tryz.prog kb (.seq (.seq (.region id l.toArray draw) x) y) Q σ:=aG (aU h)
theorem zg3{kb:Nat}{id:Nat}{l:List Oper}{draw:Bool}{Q:dR->St->Prop}{σ:St}{x y z:Code}(h:fq Tryz.prog aT ⟨false,false⟩ l 0 [] σ [] fun τ ks=>iV draw (fun _=>fC l.toArray ks.reverse)∧At τ (bM Tryz.prog kb x (bM Tryz.prog kb y (bM Tryz.prog kb z Q)) .norm)):cn Tryz.prog kb (.seq (.seq (.seq (.region id l.toArray draw) x) y) z) Q σ:=aG (cK h)
theorem Lt{kb:Nat}{id:Nat}{l:List Oper}{draw:Bool}{Q:dR->St->Prop}{σ:St}(h:fq Tryz.prog aT ⟨true,true⟩ l 0 [] σ [] fun τ ks=>iV draw (fun _=>fC l.toArray ks.reverse)∧At τ (Q .norm)):cn Tryz.prog kb (.region id l.toArray draw) Q σ:=kE _ hT hm h
theorem zs1{kb:Nat}{id:Nat}{l:List Oper}{draw:Bool}{Q:dR->St->Prop}{σ:St}{x:Code}(h:fq Tryz.prog aT ⟨true,true⟩ l 0 [] σ [] fun τ ks=>iV draw (fun _=>fC l.toArray ks.reverse)∧At τ (bM Tryz.prog kb x Q .norm)):cn Tryz.prog kb (.seq (.region id l.toArray draw) x) Q σ:=aG (Lt h)
theorem zs2{kb:Nat}{id:Nat}{l:List Oper}{draw:Bool}{Q:dR->St->Prop}{σ:St}{x y:Code}(h:fq Tryz.prog aT ⟨true,true⟩ l 0 [] σ [] fun τ ks=>iV draw (fun _=>fC l.toArray ks.reverse)∧At τ (bM Tryz.prog kb x (bM Tryz.prog kb y Q) .norm)):cn Tryz.prog kb (.seq (.seq (.region id l.toArray draw) x) y) Q σ:=aG (zs1 h)
theorem aP{kb:Nat}{c:Operand}{x y:Code}{Q:dR->St->Prop}{σ:St}{b:Bool}(hc:σ.ev c=some (.v (.bool b)))(ht:b=true->cn Tryz.prog kb x Q σ)(hf:b=false->cn Tryz.prog kb y Q σ):cn Tryz.prog kb (.cond c x y) Q σ:=nI hc ht hf
theorem ic{kb:Nat}{c:Operand}{x y z:Code}{Q:dR->St->Prop}{σ:St}{b:Bool}(hc:σ.ev c=some (.v (.bool b)))(ht:b=true->cn Tryz.prog kb x (bM Tryz.prog kb z Q) σ)(hf:b=false->cn Tryz.prog kb y (bM Tryz.prog kb z Q) σ):cn Tryz.prog kb (.seq (.cond c x y) z) Q σ:=aG (nI hc ht hf)
theorem zk2{kb:Nat}{c:Operand}{x y z w:Code}{Q:dR->St->Prop}{σ:St}{b:Bool}(hc:σ.ev c=some (.v (.bool b)))(ht:b=true->cn Tryz.prog kb x (bM Tryz.prog kb z (bM Tryz.prog kb w Q)) σ)(hf:b=false->cn Tryz.prog kb y (bM Tryz.prog kb z (bM Tryz.prog kb w Q)) σ) :
  cn Tryz.prog kb (.seq (.seq (.cond c x y) z) w) Q σ:=aG (aG (nI hc ht hf))
theorem ah{kb:Nat}{c:Code}{Q:dR->St->Prop}{σ:St}(h:cn Tryz.prog kb c Q σ):At σ (bM Tryz.prog kb c Q .norm):=h
theorem ct{kb:Nat}{c:Code}{Q:dR->St->Prop}{σ:St}{Dv:Nat}(h:cn Tryz.prog kb c Q σ):cn Tryz.prog Dv .skip (bM Tryz.prog kb c Q) σ:=ba h
theorem za1{kb:Nat}{c:Code}{Q:dR->St->Prop}{σ:St}{b0:Nat}(h:cn Tryz.prog kb c Q σ):At σ (bC b0 (bM Tryz.prog kb c Q) .norm):=h
theorem lX{kb:Nat}{c:Code}{Q:dR->St->Prop}{σ:St}{b0:Nat}{Dv:Nat}(h:cn Tryz.prog kb c Q σ):cn Tryz.prog Dv .skip (bC b0 (bM Tryz.prog kb c Q)) σ:=ba h
theorem za2{kb:Nat}{c:Code}{Q:dR->St->Prop}{σ:St}{b0:Nat}{b1:Nat}(h:cn Tryz.prog kb c Q σ):At σ (bC b1 (bC b0 (bM Tryz.prog kb c Q)) .norm):=h
theorem YO{kb:Nat}{c:Code}{Q:dR->St->Prop}{σ:St}{b0:Nat}{b1:Nat}{Dv:Nat}(h:cn Tryz.prog kb c Q σ):cn Tryz.prog Dv .skip (bC b1 (bC b0 (bM Tryz.prog kb c Q))) σ:=ba h
theorem za3{kb:Nat}{c:Code}{Q:dR->St->Prop}{σ:St}{b0:Nat}{b1:Nat}{b2:Nat}(h:cn Tryz.prog kb c Q σ):At σ (bC b2 (bC b1 (bC b0 (bM Tryz.prog kb c Q))) .norm):=h
theorem zb3{kb:Nat}{c:Code}{Q:dR->St->Prop}{σ:St}{b0:Nat}{b1:Nat}{b2:Nat}{Dv:Nat}(h:cn Tryz.prog kb c Q σ):cn Tryz.prog Dv .skip (bC b2 (bC b1 (bC b0 (bM Tryz.prog kb c Q)))) σ:=ba h
theorem eX{ι:Type}{L:ι->St}{μ:ι->Nat}{i:ι}{Q:dR->St->Prop}{σ:St}(h:∃j,μ j<μ i∧bj σ (L j)):At σ (fP L μ i Q .norm):=h
theorem zn0{ι:Type}{L:ι->St}{μ:ι->Nat}{i:ι}{Q:dR->St->Prop}{σ:St}{Dv:Nat}(h:∃j,μ j<μ i∧bj σ (L j)):cn Tryz.prog Dv .skip (fP L μ i Q) σ:=ba h
theorem RA{ι:Type}{L:ι->St}{μ:ι->Nat}{i:ι}{Q:dR->St->Prop}{σ:St}{b0:Nat}(h:∃j,μ j<μ i∧bj σ (L j)):At σ (bC b0 (fP L μ i Q) .norm):=h
theorem Xs{ι:Type}{L:ι->St}{μ:ι->Nat}{i:ι}{Q:dR->St->Prop}{σ:St}{b0:Nat}{Dv:Nat}(h:∃j,μ j<μ i∧bj σ (L j)):cn Tryz.prog Dv .skip (bC b0 (fP L μ i Q)) σ:=ba h
theorem zl2{ι:Type}{L:ι->St}{μ:ι->Nat}{i:ι}{Q:dR->St->Prop}{σ:St}{b0:Nat}{b1:Nat}(h:∃j,μ j<μ i∧bj σ (L j)):At σ (bC b1 (bC b0 (fP L μ i Q)) .norm):=h
theorem zn2{ι:Type}{L:ι->St}{μ:ι->Nat}{i:ι}{Q:dR->St->Prop}{σ:St}{b0:Nat}{b1:Nat}{Dv:Nat}(h:∃j,μ j<μ i∧bj σ (L j)):cn Tryz.prog Dv .skip (bC b1 (bC b0 (fP L μ i Q))) σ:=ba h
theorem zl3{ι:Type}{L:ι->St}{μ:ι->Nat}{i:ι}{Q:dR->St->Prop}{σ:St}{b0:Nat}{b1:Nat}{b2:Nat}(h:∃j,μ j<μ i∧bj σ (L j)):At σ (bC b2 (bC b1 (bC b0 (fP L μ i Q))) .norm):=h
theorem zn3{ι:Type}{L:ι->St}{μ:ι->Nat}{i:ι}{Q:dR->St->Prop}{σ:St}{b0:Nat}{b1:Nat}{b2:Nat}{Dv:Nat}(h:∃j,μ j<μ i∧bj σ (L j)):cn Tryz.prog Dv .skip (bC b2 (bC b1 (bC b0 (fP L μ i Q)))) σ:=ba h
end Go.Proofs.YtjdnhamngpafmaaGreat
section
/-
  Short forms of steps that occur often; the packed texts of a claim use them (squeeze.py).
-/
namespace Go.Proofs.YtjdnhamngpafmaaGreat
open Go.Av

theorem Hb (aT : eh) (rv : List ResultVar) (sh : Bool) (k : Nat) (R : ae -> List ai -> Prop) (σ : St) : Ep aT rv sh k R .ret σ = on (en aT σ rv) fun rs => k <= σ.objs.length ∧ (∀ o ∈ σ.objs.take k, o.upto k) ∧ (gE (if sh then rs.map ae.share else rs)).upto k ∧ R (gE (if sh then rs.map ae.share else rs)) (σ.objs.take k) := rfl
theorem D1 (aT : eh) (rv : List ResultVar) (sh : Bool) (k : Nat) (R : ae -> List ai -> Prop) (σ : St) : Ep aT rv sh k R .norm σ = on (en aT σ rv) fun rs => k <= σ.objs.length ∧ (∀ o ∈ σ.objs.take k, o.upto k) ∧ (gE (if sh then rs.map ae.share else rs)).upto k ∧ R (gE (if sh then rs.map ae.share else rs)) (σ.objs.take k) := rfl
theorem GU : gE [] = .cx [] := rfl
theorem GV (x y : ae) (r : List ae) : gE (x :: y :: r) = .cx (x :: y :: r) := rfl
theorem Xo (n : Nat) (x : Value) : ae.upto n (.v x) = True := rfl
def zr := And.intro @Hb <|And.intro @D1 <|And.intro @en.eq_1 <|And.intro @en.eq_2 <|And.intro @kS.eq_1 <|And.intro @kS.eq_2 <|And.intro @gE.eq_1 <|And.intro @GU <|And.intro @GV <|
  And.intro @ae.upto.eq_1 <|And.intro @ae.upto.eq_2 <|And.intro @ae.upto.eq_3 <|And.intro @ae.upto.eq_4 <|And.intro @ae.upto.eq_5 <|And.intro @ae.upto.eq_6 <|And.intro @ae.upto.eq_7 <|And.intro @ae.upto.eq_8 <|And.intro @ae.upto.eq_9 <|And.intro @ae.upto.eq_10 <|And.intro @ae.upto.eq_11 <|And.intro @ae.upto.eq_12 <|And.intro @ae.upto.eq_13 <|
  And.intro @Nat.zero_le <|And.intro @Nat.le_refl <|And.intro @Nat.le_add_right <|And.intro @gq <|And.intro @eY @fH
def zc := And.intro @iv.eq_1 <|And.intro @iv.eq_2 <|And.intro @exists_eq_left'.{1} <|And.intro @Option.some.injEq.{0} <|And.intro @sub_self <|And.intro @and_assoc <|And.intro true_and and_true

theorem ab {p q : Prop} [Decidable p] (h : decide p = true) (n : ¬p) : q := absurd (of_decide_eq_true h) n
theorem af {p q : Prop} [Decidable p] (h : decide p = false) (n : p) : q := absurd n (of_decide_eq_false h)
theorem ob {a : Array Oper} {k : List Kind} (h : oh a k = true) : fC a k := h
theorem zf {f : FuncId} {fn : Go.Func} {c : Code} {O : List ai} {args : List ae} {R : ae -> List ai -> Prop} {m : Nat} (sh : Bool) (k : Nat) (hf : Tryz.prog.funcs[f]? = some fn) (hm : fn.ntmps = m) (h : cn Tryz.prog O.length c (Ep aT fn.results.toList sh k R) ⟨m, slotsOf 0 args, O⟩) (hb : fn.body = some c := by rfl)
    (uW : (fn.name == "runtime.NumGoroutine") = false := by kernel_rfl) (hn : args.length <= m := by simp) (hk : O.length <= k := by simp) : bh Tryz.prog f O args R := by
  subst hm;exact fo hT sh k hf hb uW hn hk h
theorem zq {σ τ : St} (h1 : σ.n = τ.n) (h3 : iv σ τ.bn) (h2 : σ.objs = τ.objs) : bj σ τ := ⟨h1, h2, h3⟩

theorem cC {kb : Nat} {id : Nat} {l : List Oper} {draw : Bool} {Q : dR -> St -> Prop} {σ : St} {q : Prop} (h : q) (e : (fq Tryz.prog aT ⟨false, false⟩ l 0 [] σ [] fun τ ks => iV draw (fun _ => fC l.toArray ks.reverse) ∧ At τ (Q .norm)) = q := by simp -dsimp only[simprocAttr, ↓aa, zp]; rfl) : cn Tryz.prog kb (.region id l.toArray draw) Q σ := jD (e ▸ h)
theorem az {kb : Nat} {id : Nat} {l : List Oper} {draw : Bool} {Q : dR -> St -> Prop} {σ : St} {x : Code} {q : Prop} (h : q) (e : (fq Tryz.prog aT ⟨false, false⟩ l 0 [] σ [] fun τ ks => iV draw (fun _ => fC l.toArray ks.reverse) ∧ At τ (bM Tryz.prog kb x Q .norm)) = q := by simp -dsimp only[simprocAttr, ↓aa, zp]; rfl) : cn Tryz.prog kb (.seq (.region id l.toArray draw) x) Q σ := aU (e ▸ h)
theorem ck {kb : Nat} {id : Nat} {l : List Oper} {draw : Bool} {Q : dR -> St -> Prop} {σ : St} {x y : Code} {q : Prop} (h : q) (e : (fq Tryz.prog aT ⟨false, false⟩ l 0 [] σ [] fun τ ks => iV draw (fun _ => fC l.toArray ks.reverse) ∧ At τ (bM Tryz.prog kb x (bM Tryz.prog kb y Q) .norm)) = q := by simp -dsimp only[simprocAttr, ↓aa, zp]; rfl) : cn Tryz.prog kb (.seq (.seq (.region id l.toArray draw) x) y) Q σ := cK (e ▸ h)
theorem zh3 {kb : Nat} {id : Nat} {l : List Oper} {draw : Bool} {Q : dR -> St -> Prop} {σ : St} {x y z : Code} {q : Prop} (h : q) (e : (fq Tryz.prog aT ⟨false, false⟩ l 0 [] σ [] fun τ ks => iV draw (fun _ => fC l.toArray ks.reverse) ∧ At τ (bM Tryz.prog kb x (bM Tryz.prog kb y (bM Tryz.prog kb z Q)) .norm)) = q := by simp -dsimp only[simprocAttr, ↓aa, zp]; rfl) : cn Tryz.prog kb (.seq (.seq (.seq (.region id l.toArray draw) x) y) z) Q σ := zg3 (e ▸ h)
theorem cm {kb : Nat} {c : Operand} {x y : Code} {Q : dR -> St -> Prop} {σ : St} (hc : σ.ev c = some (.v (.bool false))) (hf : cn Tryz.prog kb y Q σ) : cn Tryz.prog kb (.cond c x y) Q σ := nI hc (fun h => by cases h) fun _ => hf
theorem YP {kb : Nat} {c : Operand} {x y z : Code} {Q : dR -> St -> Prop} {σ : St} (hc : σ.ev c = some (.v (.bool false))) (hf : cn Tryz.prog kb y (bM Tryz.prog kb z Q) σ) : cn Tryz.prog kb (.seq (.cond c x y) z) Q σ := aG (cm hc hf)
theorem zu2 {kb : Nat} {c : Operand} {x y z w : Code} {Q : dR -> St -> Prop} {σ : St} (hc : σ.ev c = some (.v (.bool false))) (hf : cn Tryz.prog kb y (bM Tryz.prog kb z (bM Tryz.prog kb w Q)) σ) : cn Tryz.prog kb (.seq (.seq (.cond c x y) z) w) Q σ := aG (YP hc hf)
theorem cY {kb : Nat} {c : Operand} {x y : Code} {Q : dR -> St -> Prop} {σ : St} (hc : σ.ev c = some (.v (.bool true))) (ht : cn Tryz.prog kb x Q σ) : cn Tryz.prog kb (.cond c x y) Q σ := nI hc (fun _ => ht) fun h => by cases h
theorem zw1 {kb : Nat} {c : Operand} {x y z : Code} {Q : dR -> St -> Prop} {σ : St} (hc : σ.ev c = some (.v (.bool true))) (ht : cn Tryz.prog kb x (bM Tryz.prog kb z Q) σ) : cn Tryz.prog kb (.seq (.cond c x y) z) Q σ := aG (cY hc ht)
theorem zw2 {kb : Nat} {c : Operand} {x y z w : Code} {Q : dR -> St -> Prop} {σ : St} (hc : σ.ev c = some (.v (.bool true))) (ht : cn Tryz.prog kb x (bM Tryz.prog kb z (bM Tryz.prog kb w Q)) σ) : cn Tryz.prog kb (.seq (.seq (.cond c x y) z) w) Q σ := aG (zw1 hc ht)
theorem zi {id : FuncId} {args : List ae} {r : ae} {K : ae -> Prop} {B q : Prop} (hc : bq Tryz.prog id args r) (h : q) (hu : av 0 args := by simp only[av, ae.upto, zt, zu]) (e : K r = q := by simp -dsimp only[simprocAttr, ↓aa, zp]; rfl) : (∃ r, bq Tryz.prog id args r ∧ av 0 args ∧ w8 fun _ => K r) ∨ B := .inl ⟨r, hc, hu, ao (e ▸ h)⟩
theorem zj {p q : Prop} (h : q) (e : p = q := by simp -dsimp only[simprocAttr, ↓aa, zp]; rfl) : p := e ▸ h
end Go.Proofs.YtjdnhamngpafmaaGreat
end
namespace Go.Av
section
variable {P:Program} {w:World} {H:Type} {enc:TypeId×Value->H} {sp:Nat->Bool} {held:Bool}
theorem Ab(hl:laidOutB P=true){ts:List TypeId}(hc:PI P ts=true){t:TypeId}(ht:t∈ts){v:Value}{d:DataW H}{ps:List MemPlace}(h:DataW.Trod enc P w 0 sp held t v d ps)
  (hv:∃vs,v=.agg vs) (hw:∀m∈d.weights P t,m<=reachBytes):∃n dE,nC P n t dE∧RV (g0 w) (.agg dE) v:=by
 obtain⟨vs,rfl⟩:=hv;obtain⟨n,h⟩:=h;obtain⟨dE,h1,h3,h4,h5⟩:=BI hl hc n t _ (d,ps) ht h hw;exact⟨n,dE,h1,.agg (by simpa[Value.cells]using h3.symm) h4 fun i c u hc hu=>h5 i c u hc (by simpa[Value.cells]using hu)⟩
theorem DK{t:TypeId}{fs:Array Field}{r:Reach}{b:Nat}{v:Value}(hu:P.underlying t=some (.struct fs))(h:Value.okWide P w r b t v):∃vs,v=.agg vs:=by
 cases v<;>first|exact⟨_,rfl⟩|simp[Value.okWide,hu,Cell.okWide,Cell.ok]at h
end
end Go.Av
namespace Go.Proofs.YtjdnhamngpafmaaGreat
open Go.Av
theorem PG:Tryz.prog.cellsOf 3=1:=by kernel_rfl
theorem LN:Tryz.prog.cellsOf 65=4:=by kernel_rfl
theorem LO:Tryz.prog.cellsOf 82=2:=by kernel_rfl
theorem LM:Tryz.prog.cellsOf 50=7:=by kernel_rfl
theorem PF:Tryz.prog.bytesOf 3=8:=by kernel_rfl
theorem LK:Tryz.prog.bytesOf 65=48:=by kernel_rfl
theorem LL:Tryz.prog.bytesOf 82=32:=by kernel_rfl
theorem LJ:Tryz.prog.bytesOf 50=120:=by kernel_rfl
theorem Vj:Ck Tryz.prog 3=false:=by kernel_rfl
theorem Sw:Ck Tryz.prog 65=true:=by kernel_rfl
theorem Sx:Ck Tryz.prog 82=true:=by kernel_rfl
theorem Sv:Ck Tryz.prog 50=true:=by kernel_rfl
theorem iK{n:Nat}{x:List ae}(h:nC Tryz.prog n 3 x):∃m:Int,x=[aI m]∧lK m:=by
 obtain⟨m,e,h1⟩:=h.int Tryz.underlying3;exact⟨m,e,h1⟩
theorem oX{n:Nat}{x:List ae}(h:nC Tryz.prog n 41 x):∃l:List Int,x=[a7 l]∧uO l∧l.length<=2 ^ 47:=by
 obtain⟨l,e,hb,hq⟩:=h.E9 (f:=aI) (Q:=lK) Tryz.underlying41 fun j hj y hy=>by
  obtain⟨m,rfl,hm⟩:=iK hy;exact⟨m,by rw[GS,Vj];rfl,hm⟩
 rw[PF,reachBytes]at hb;exact⟨l,by rw[e,PG],hq,by omega⟩
theorem Jz{n:Nat}{x:List ae}(h:nC Tryz.prog n 65 x):∃i:Ins,x=i.enc.cells∧i.fit:=by
 obtain⟨m,rfl,hc⟩:=h.struct Tryz.underlying65;simp only[List.map_cons,List.map_nil,Lx]at hc;obtain⟨a,b,rfl,h1,c,d,rfl,h2,e,f,rfl,h3,g,k,rfl,h4,rfl⟩:=hc;obtain⟨x1,rfl,q1⟩:=iK h1;obtain⟨x2,rfl,q2⟩:=iK h2;obtain⟨x3,rfl,q3⟩:=iK h3;obtain⟨x4,rfl,q4,q5⟩:=oX h4;exact⟨⟨x1,x2,x3,x4⟩,rfl,q1,q2,q3,q4,q5⟩
theorem GD{n:Nat}{x:List ae}(h:nC Tryz.prog n 48 x):∃l:List Ins,x=[bW l]∧(∀i∈l,i.fit)∧l.length<=2 ^ 47:=by
 obtain⟨l,e,hb,hq⟩:=h.E9 (f:=Ins.enc) (Q:=Ins.fit) Tryz.underlying48 fun j hj y hy=>by
  obtain⟨m,rfl,hm⟩:=Jz hy;exact⟨m,by rw[GS,Sw];rfl,hm⟩
 rw[LK,reachBytes]at hb;exact⟨l,by rw[e,LN],hq,by omega⟩
theorem F3{n:Nat}{x:List ae}(h:nC Tryz.prog n 82 x):∃i:Edge,x=i.enc.cells∧i.fit:=by
 obtain⟨m,rfl,hc⟩:=h.struct Tryz.underlying82;simp only[List.map_cons,List.map_nil,Lx]at hc;obtain⟨a,b,rfl,h1,g,k,rfl,h4,rfl⟩:=hc;obtain⟨x1,rfl,q1⟩:=iK h1;obtain⟨x4,rfl,q4,q5⟩:=oX h4;exact⟨⟨x1,x4⟩,rfl,q1,q4,q5⟩
theorem CX{n:Nat}{x:List ae}(h:nC Tryz.prog n 45 x):∃l:List Edge,x=[aH l]∧(∀i∈l,i.fit)∧l.length<=2 ^ 47:=by
 obtain⟨l,e,hb,hq⟩:=h.E9 (f:=Edge.enc) (Q:=Edge.fit) Tryz.underlying45 fun j hj y hy=>by
  obtain⟨m,rfl,hm⟩:=F3 hy;exact⟨m,by rw[GS,Sx];rfl,hm⟩
 rw[LL,reachBytes]at hb;exact⟨l,by rw[e,LO],hq,by omega⟩
theorem Hr{n:Nat}{x:List ae}(h:nC Tryz.prog n 47 x):∃t:Term,x=t.enc.cells∧t.fit:=by
 obtain⟨m,rfl,hc⟩:=h.struct Tryz.underlying47;simp only[List.map_cons,List.map_nil,Lx]at hc;obtain⟨a,b,rfl,h1,c,d,rfl,h2,e,f,rfl,h3,g,k,rfl,h4,g',k',rfl,h5,rfl⟩:=hc;obtain⟨x1,rfl,q1⟩:=iK h1;obtain⟨x2,rfl,q2⟩:=iK h2;obtain⟨x3,rfl,q3⟩:=iK h3;obtain⟨x4,rfl,q4,q5⟩:=oX h4;obtain⟨x5,rfl,q6,q7⟩:=CX h5;exact⟨⟨x1,x2,x3,x4,x5⟩,rfl,q1,q2,q3,q4,q5,q7,q6⟩
theorem Cy{n:Nat}{x:List ae}(h:nC Tryz.prog n 50 x):∃b:Block,x=b.enc.cells∧b.fit:=by
 obtain⟨m,rfl,hc⟩:=h.struct Tryz.underlying50;simp only[List.map_cons,List.map_nil,Lx]at hc;obtain⟨a,b,rfl,h1,c,d,rfl,h2,e,f,rfl,h3,rfl⟩:=hc;obtain⟨x1,rfl,q1,q2⟩:=oX h1;obtain⟨x2,rfl,q3,q4⟩:=GD h2;obtain⟨x3,rfl,q5⟩:=Hr h3;exact⟨⟨x1,x2,x3⟩,rfl,q1,q2,q4,q3,q5⟩
theorem Ga{n:Nat}{x:List ae}(h:nC Tryz.prog n 34 x):∃f:Func,x=f.enc.cells∧f.fit:=by
 obtain⟨m,rfl,hc⟩:=h.struct Tryz.underlying34;simp only[List.map_cons,List.map_nil,Lx]at hc;obtain⟨a,b,rfl,h1,c,d,rfl,h2,rfl⟩:=hc;obtain⟨x1,rfl,q1⟩:=iK h1;obtain⟨l,rfl,hb,hq⟩:=h2.E9 (f:=Block.enc) (Q:=Block.fit) Tryz.underlying32 fun j hj y hy=>by
  obtain⟨m,rfl,hm⟩:=Cy hy;exact⟨m,by rw[GS,Sv];rfl,hm⟩
 rw[LJ,reachBytes]at hb;exact⟨⟨x1,l⟩,by rw[LM];rfl,q1,by show l.length<=_;omega,hq⟩
theorem L'{n:Nat}{x:List ae}(h:nC Tryz.prog n 34 x):∃f:Func,.agg x=f.enc∧f.fit:=by
 obtain⟨f,rfl,hf⟩:=Ga h;exact⟨f,rfl,hf⟩
def SA:List TypeId:=[3,22,24,32,34,41,45,47,48,50,65,82]
theorem YT:PI Tryz.prog SA=true:=by kernel_rfl
theorem laid:laidOutB Tryz.prog=true:=by kernel_rfl
def within(n low high:Int):Bool:=decide (low<=n)&&decide (n<=high)
theorem dJ(n low high:Int):bq Tryz.prog 30 [aI n,aI low,aI high] (.v (.bool (within n low high))):=by
 refine zf true 0 Tryz.func30 Tryz.ntmps30 ?_;dsimp only[Tmp,TypeId,slotsOf];refine az (ah ?_);refine az ?_;refine Ej (fun h=>?_) (fun h=>?_)
 ·simp -dsimp only[simprocAttr,↓aa,zp,h];refine ah ?_;refine aq ?_;simp -dsimp only[simprocAttr,↓aa,zp,zr,Tryz.results30]
  simp_all [within]
 simp -dsimp only[simprocAttr,↓aa,zp,h];refine ah ?_;refine aq ?_;simp -dsimp only[simprocAttr,↓aa,zp,zr,Tryz.results30]
 simp_all [within]
 omega
theorem j0(n:Int):-1073741824<=kk n∧kk n<=1073741823:=by
 unfold kk;omega
theorem LC(x:Int):bitsOf .i64 (fun x y=>x&&& y) x 2147483647=x % 2147483648:=by
 have h:(BitVec.ofInt 64 x&&& BitVec.ofInt 64 2147483647).toNat=(x % 2147483648).toNat:=by
  rw[BitVec.toNat_and,show(BitVec.ofInt 64 2147483647).toNat=2 ^ 31-1 by decide,Nat.and_two_pow_sub_one_eq_mod,BitVec.toNat_ofInt];omega
 show IntKind.i64.wrap (((BitVec.ofInt 64 x&&& BitVec.ofInt 64 2147483647).toNat:Nat):Int)=_;rw[h,nc .i64 _ (by simp[IntKind.min,IntKind.bits,IntKind.signed];omega) (by simp[IntKind.max,IntKind.bits,IntKind.signed];omega)];omega
theorem fU(n:Int)(h1:-9223372036854775808<=n)(h2:n<=9223372035781033983):bq Tryz.prog 155 [aI n] (aI (kk n)):=by
 have q:=j0 n;have e:bitsOf .i64 (fun x y=>x&&& y) (n+1073741824) 2147483647=kk n+1073741824:=by
  rw[LC];unfold kk;omega
 refine zf true 0 Tryz.func155 Tryz.ntmps155 ?_;dsimp only[Tmp,TypeId,slotsOf];refine az (ah ?_);refine az ?_;refine⟨by omega,by omega,?_⟩;simp -dsimp only[simprocAttr,↓aa,zp,e];refine⟨by omega,by omega,by omega,by omega,?_⟩;refine ah ?_;refine aq ?_;simp -dsimp only[simprocAttr,↓aa,zp,zr,Tryz.results155];rw[Int.add_sub_cancel]
theorem mA{n:Int}(h:fA n):kk n=n:=by
 unfold fA at h;unfold kk;omega
theorem HQ(a b:Int)(ha:fA a)(hb:fA b):bq Tryz.prog 148 [aI a,aI b] (aI (kk (a+b))):=by
 unfold fA at ha hb;refine zf true 0 Tryz.func148 Tryz.ntmps148 ?_;dsimp only[Tmp,TypeId,slotsOf];refine az (ah ?_);refine az ?_;refine⟨by omega,by omega,?_⟩;refine .inl ⟨_,(fU (a+b) (by omega) (by omega)),by simp only[av,ae.upto,zt],ao ?_⟩;refine ah ?_;refine aq ?_;simp -dsimp only[simprocAttr,↓aa,zp,zr,Tryz.results148]
theorem Kp(a b:Int)(ha:fA a)(hb:fA b):bq Tryz.prog 149 [aI a,aI b] (aI (kk (a-b))):=by
 unfold fA at ha hb;refine zf true 0 Tryz.func149 Tryz.ntmps149 ?_;dsimp only[Tmp,TypeId,slotsOf];refine az (ah ?_);refine az ?_;refine⟨by omega,by omega,?_⟩;refine .inl ⟨_,(fU (a-b) (by omega) (by omega)),by simp only[av,ae.upto,zt],ao ?_⟩;refine ah ?_;refine aq ?_;simp -dsimp only[simprocAttr,↓aa,zp,zr,Tryz.results149]
theorem DX{a b:Int}(ha:fA a)(hb:fA b):-1152921504606846976<=a*b∧a*b<=1152921504606846976:=by
 unfold fA at ha hb;have h:(a*b).natAbs<=1152921504606846976:=by
  rw[Int.natAbs_mul];have:=Nat.mul_le_mul (show a.natAbs<=1073741824 by omega) (show b.natAbs<=1073741824 by omega);omega
 omega
theorem JG(a b:Int)(ha:fA a)(hb:fA b):bq Tryz.prog 150 [aI a,aI b] (aI (kk (a*b))):=by
 have q:=DX ha hb;have ea:=mA ha;have eb:=mA hb;have wa:=fU a (by unfold fA at ha;omega) (by unfold fA at ha;omega);have wb:=fU b (by unfold fA at hb;omega) (by unfold fA at hb;omega);have wc:=fU (a*b) (by omega) (by omega);rw[ea]at wa;rw[eb]at wb;generalize hc:a*b=c at *;refine zf true 0 Tryz.func150 Tryz.ntmps150 ?_;dsimp only[Tmp,TypeId,slotsOf];refine az (ah ?_);refine az ?_;refine .inl ⟨_,wa,by simp only[av,ae.upto,zt],ao ?_⟩;refine .inl ⟨_,wb,by simp only[av,ae.upto,zt],ao ?_⟩;simp -dsimp only[simprocAttr,↓aa,zp,hc];refine⟨by omega,by omega,?_⟩;refine .inl ⟨_,wc,by simp only[av,ae.upto,zt],ao ?_⟩;refine ah ?_;refine aq ?_;simp -dsimp only[simprocAttr,↓aa,zp,zr,Tryz.results150]
theorem Ee{a b:Int}(ha:fA a):-1073741824<=a.tdiv b∧a.tdiv b<=1073741824:=by
 unfold fA at ha;have h:(a.tdiv b).natAbs<=a.natAbs:=by
  rw[Int.natAbs_tdiv];exact Nat.div_le_self _ _
 omega
theorem vI{a b:Int}(hb:fA b)(h0:b≠0):fA (a.tmod b):=by
 unfold fA at *;have h:(a.tmod b).natAbs<b.natAbs:=by
  rw[Int.natAbs_tmod];exact Nat.mod_lt _ (by omega)
 omega
theorem Ip(a b:Int)(ha:fA a)(hb:fA b)(h0:b≠0):bq Tryz.prog 152 [aI a,aI b] (.cx [aI (kk (a.tdiv b)),aI 0]):=by
 have q:=Ee (b:=b) ha;have wa:=fU a (by unfold fA at ha;omega) (by unfold fA at ha;omega);have wb:=fU b (by unfold fA at hb;omega) (by unfold fA at hb;omega);have wc:=fU (a.tdiv b) (by omega) (by omega);rw[mA ha]at wa;rw[mA hb]at wb;have h1:(b=0)=False:=by simpa using h0
 generalize hc:a.tdiv b=c at *;refine zf true 0 Tryz.func152 Tryz.ntmps152 ?_;dsimp only[Tmp,TypeId,slotsOf];refine az (ah ?_);refine ck ?_;refine .inl ⟨_,wb,by simp only[av,ae.upto,zt],ao ?_⟩;simp -dsimp only[simprocAttr,↓aa,zp,h0];refine ah ?_;refine cm rfl ?_;refine ct ?_;refine az ?_;refine .inl ⟨_,wa,by simp only[av,ae.upto,zt],ao ?_⟩;refine .inl ⟨_,wb,by simp only[av,ae.upto,zt],ao ?_⟩;simp -dsimp only[simprocAttr,↓aa,zp,h1,if_false,hc];refine⟨by omega,by omega,?_⟩;refine .inl ⟨_,wc,by simp only[av,ae.upto,zt],ao ?_⟩;refine ah ?_;refine aq ?_;simp -dsimp only[simprocAttr,↓aa,zp,zr,Tryz.results152];simp[av,ae.upto]
theorem JF(a b:Int)(ha:fA a)(hb:fA b)(h0:b≠0):bq Tryz.prog 153 [aI a,aI b] (.cx [aI (a.tmod b),aI 0]):=by
 have q:=vI (a:=a) hb h0;unfold fA at q;have wa:=fU a (by unfold fA at ha;omega) (by unfold fA at ha;omega);have wb:=fU b (by unfold fA at hb;omega) (by unfold fA at hb;omega);rw[mA ha]at wa;rw[mA hb]at wb;have h1:(b=0)=False:=by simpa using h0
 generalize hc:a.tmod b=c at *;refine zf true 0 Tryz.func153 Tryz.ntmps153 ?_;dsimp only[Tmp,TypeId,slotsOf];refine az (ah ?_);refine ck ?_;refine .inl ⟨_,wb,by simp only[av,ae.upto,zt],ao ?_⟩;simp -dsimp only[simprocAttr,↓aa,zp,h0];refine ah ?_;refine cm rfl ?_;refine ct ?_;refine az ?_;refine .inl ⟨_,wa,by simp only[av,ae.upto,zt],ao ?_⟩;refine .inl ⟨_,wb,by simp only[av,ae.upto,zt],ao ?_⟩;simp -dsimp only[simprocAttr,↓aa,zp,h1,if_false,hc];refine⟨by omega,by omega,?_⟩;refine ah ?_;refine aq ?_;simp -dsimp only[simprocAttr,↓aa,zp,zr,Tryz.results153];simp[av,ae.upto]
structure Bs where
 a:Nat
 b:Nat
 deriving DecidableEq
namespace Bs
def enc(s:Bs):ae:=.agg [.v (.int .u64 s.a),.v (.int .u64 s.b)]
def fit(s:Bs):Prop:=s.a<2 ^ 64∧s.b<2 ^ 64
def has(s:Bs)(k:Nat):Bool:=if k<64 then s.a.testBit k else s.b.testBit (k-64)
def add(s:Bs)(k:Nat):Bs:=if k<64 then⟨s.a |||1 <<< k,s.b⟩else⟨s.a,s.b |||1 <<< (k-64)⟩
def meet(s t:Bs):Bs:=⟨s.a&&& t.a,s.b&&& t.b⟩
def none:Bs:=⟨0,0⟩
theorem an(s:Bs):s.enc.share=s.enc:=rfl
theorem au(s:Bs):s.enc.flat:=trivial
theorem aj(s:Bs):s.enc.cells=[.v (.int .u64 s.a),.v (.int .u64 s.b)]:=rfl
theorem aL(n:Nat)(s:Bs):s.enc.upto n:=⟨trivial,trivial,trivial⟩
end Bs
theorem wrap_u64{n:Nat}(h:n<2 ^ 64):IntKind.u64.wrap (n:Int)=(n:Int):=by
 rw[nc .u64 _ (by simp[IntKind.min,IntKind.signed]) (by simp[IntKind.max,IntKind.bits,IntKind.signed];omega)]
theorem ym{m n:Nat}(hm:m<2 ^ 64)(hn:n<2 ^ 64):bitsOf .u64 (fun x y=>x&&& y) (m:Int) (n:Int)=((m&&& n:Nat):Int):=by
 have h:(BitVec.ofInt 64 (m:Int)&&& BitVec.ofInt 64 (n:Int)).toNat=m&&& n:=by
  rw[BitVec.toNat_and,BitVec.toNat_ofInt,BitVec.toNat_ofInt];congr 1<;>omega
 show IntKind.u64.wrap (((BitVec.ofInt 64 (m:Int)&&& BitVec.ofInt 64 (n:Int)).toNat:Nat):Int)=_;rw[h];exact wrap_u64 (Nat.lt_of_le_of_lt Nat.and_le_left hm)
theorem JU{m n:Nat}(hm:m<2 ^ 64)(hn:n<2 ^ 64):bitsOf .u64 (fun x y=>x |||y) (m:Int) (n:Int)=((m |||n:Nat):Int):=by
 have h:(BitVec.ofInt 64 (m:Int) |||BitVec.ofInt 64 (n:Int)).toNat=m |||n:=by
  rw[BitVec.toNat_or,BitVec.toNat_ofInt,BitVec.toNat_ofInt];congr 1<;>omega
 show IntKind.u64.wrap (((BitVec.ofInt 64 (m:Int) |||BitVec.ofInt 64 (n:Int)).toNat:Nat):Int)=_;rw[h];exact wrap_u64 (Nat.or_lt_two_pow hm hn)
theorem Nk(m k:Nat)(hk:k<64):eV .u64 .shr (m:Int) (k:Int)=((m >>> k:Nat):Int):=by
 simp only[eV,Int.toNat_natCast,IntKind.bits];rw[Nat.min_eq_left (by omega),Nat.shiftRight_eq_div_pow,Int.fdiv_eq_ediv_of_nonneg _ (by exact Int.le_of_lt (Int.pow_pos (by omega)))];simp
theorem Nj(k:Nat)(hk:k<64):eV .u64 .shl 1 (k:Int)=((1 <<< k:Nat):Int):=by
 simp only[eV,Int.toNat_natCast,IntKind.bits];have a8:1 <<< k<2 ^ 64:=by
  rw[Nat.one_shiftLeft];exact Nat.pow_lt_pow_right (by omega) hk
 have he:(1:Int)*(2:Int) ^ k=((1 <<< k:Nat):Int):=by
  rw[Nat.one_shiftLeft];simp
 rw[Nat.min_eq_left (by omega),he];exact wrap_u64 a8
theorem LG(m k:Nat):decide (((m >>> k&&& 1:Nat):Int)=1)=m.testBit k:=by
 rw[Nat.testBit_eq_decide_div_mod_eq,Nat.and_one_is_mod,Nat.shiftRight_eq_div_pow];congr 1;apply propext;omega
theorem Q3{m k:Nat}(h:m<2 ^ 64):m >>> k<2 ^ 64:=by
 rw[Nat.shiftRight_eq_div_pow];exact Nat.lt_of_le_of_lt (Nat.div_le_self _ _) h
theorem Ps{k:Nat}:(k:Int).tdiv 64=((k / 64:Nat):Int):=by
 rw[Int.tdiv_eq_ediv_of_nonneg (by omega)];omega
theorem Pu{k:Nat}:(k:Int).tmod 64=((k % 64:Nat):Int):=by
 rw[Int.tmod_eq_emod_of_nonneg (by omega)];omega
theorem JT:((1:Nat):Int)=1:=rfl
theorem qY(s:Bs)(hs:s.fit)(k:Nat)(hk:k<128):bq Tryz.prog 90 [s.enc,aI k] (.v (.bool (s.has k))):=by
 obtain⟨ha,hb⟩:=hs;have Ve:((64:Int)=0)=False:=by simp
 have ME:k % 64<64:=Nat.mod_lt _ (by omega);have q1:=Ps (k:=k);have q2:=Pu (k:=k);obtain⟨x,hx,xG⟩:∃x:Nat,x<2 ^ 64∧x=if k<64 then s.a else s.b:=by
  split
  ·exact⟨_,ha,rfl⟩
  exact⟨_,hb,rfl⟩
 have hr:s.has k=x.testBit (k % 64):=by
  rw[xG];unfold Bs.has;split
  ·rw[Nat.mod_eq_of_lt (by assumption)]
  rw[show k % 64=k-64 by omega]
 have e1:=Nk x (k % 64) ME;have iY:=Q3 (k:=k % 64) hx;have e2:=ym (m:=x >>> (k % 64)) (n:=1) iY (by omega);have e3:=LG x (k % 64);rw[JT]at e2;have lN:x >>> (k % 64)&&& 1<=1:=Nat.and_le_right;rw[hr,<-e3];generalize hy:x >>> (k % 64)=y at *;generalize hw:y&&& 1=w at *;rcases(show k / 64=0∧x=s.a∨k / 64=1∧x=s.b by
  by_cases h:k<64
  ·exact .inl ⟨by omega,by rw[xG,if_pos h]⟩
  exact .inr ⟨by omega,by rw[xG,if_neg h]⟩)with⟨hq,GA⟩|⟨hq,GA⟩
 all_goals
  rw[hq]at q1;subst GA;refine zf true 0 Tryz.func90 Tryz.ntmps90 ?_;dsimp only[Tmp,TypeId,slotsOf];refine aU ?_;simp -dsimp only[simprocAttr,↓aa,zp,Bs.aj,Bs.au];refine ah ?_;refine aU ?_;simp -dsimp only[simprocAttr,↓aa,zp,q1,q2,Ve,if_false,e1,e2]
  repeat(refine⟨by omega,?_⟩)
  refine ah ?_;refine aq ?_;simp -dsimp only[simprocAttr,↓aa,zp,zr,Tryz.results90]
theorem FN(s t:Bs)(hs:s.fit)(ht:t.fit):bq Tryz.prog 120 [s.enc,t.enc] (s.meet t).enc:=by
 obtain⟨ha,hb⟩:=hs;obtain⟨hc,hd⟩:=ht;have e1:=ym ha hc;have e2:=ym hb hd;have l1:s.a&&& t.a<2 ^ 64:=Nat.lt_of_le_of_lt Nat.and_le_left ha;have l2:s.b&&& t.b<2 ^ 64:=Nat.lt_of_le_of_lt Nat.and_le_left hb;unfold Bs.meet;generalize s.a&&& t.a=p at *;generalize s.b&&& t.b=q at *;refine zf true 0 Tryz.func120 Tryz.ntmps120 ?_;dsimp only[Tmp,TypeId,slotsOf];refine aU ?_;simp -dsimp only[simprocAttr,↓aa,zp,Bs.aj,Bs.au];refine ah ?_;refine aU ?_;simp -dsimp only[simprocAttr,↓aa,zp,e1,e2]
 repeat(refine⟨by omega,?_⟩)
 refine ah ?_;refine aq ?_;simp -dsimp only[simprocAttr,↓aa,zp,zr,Tryz.results120];exact⟨⟨trivial,trivial,trivial⟩,rfl⟩
theorem Hv(s:Bs)(hs:s.fit)(k:Nat)(hk:k<128):bq Tryz.prog 119 [s.enc,aI k] (s.add k).enc:=by
 obtain⟨ha,hb⟩:=hs;have Ve:((64:Int)=0)=False:=by simp
 have ME:k % 64<64:=Nat.mod_lt _ (by omega);have q1:=Ps (k:=k);have q2:=Pu (k:=k);have e1:=Nj (k % 64) ME;have a8:1 <<< (k % 64)<2 ^ 64:=by
  rw[Nat.one_shiftLeft];exact Nat.pow_lt_pow_right (by omega) ME
 rcases(show k<64∨64<=k by omega)with h|h
 ·have hq:k / 64=0:=by omega
  have hr:s.add k=⟨s.a |||1 <<< (k % 64),s.b⟩:=by
   simp[Bs.add,h,Nat.mod_eq_of_lt h]
  have e2:=JU ha a8;have l1:s.a |||1 <<< (k % 64)<2 ^ 64:=Nat.or_lt_two_pow ha a8;rw[hr];rw[hq]at q1;generalize hy:1 <<< (k % 64)=y at *;generalize hw:s.a |||y=w at *;refine zf true 0 Tryz.func119 Tryz.ntmps119 ?_;dsimp only[Tmp,TypeId,slotsOf];refine aU ?_;simp -dsimp only[simprocAttr,↓aa,zp,Bs.aj,Bs.au];refine ah ?_;refine aU ?_;simp -dsimp only[simprocAttr,↓aa,zp,q1,q2,Ve,if_false,e1,e2]
  repeat(refine⟨by omega,?_⟩)
  refine⟨ob (by kernel_rfl),?_⟩;refine ah ?_;refine az (ah ?_);refine aq ?_;simp -dsimp only[simprocAttr,↓aa,zp,zr,Tryz.results119];exact⟨⟨trivial,trivial,trivial⟩,rfl⟩
 have hq:k / 64=1:=by omega
 have hr:s.add k=⟨s.a,s.b |||1 <<< (k % 64)⟩:=by
  have bD:¬k<64:=by omega
  simp[Bs.add,bD,show k % 64=k-64 by omega]
 have e2:=JU hb a8;have l1:s.b |||1 <<< (k % 64)<2 ^ 64:=Nat.or_lt_two_pow hb a8;rw[hr];rw[hq]at q1;generalize hy:1 <<< (k % 64)=y at *;generalize hw:s.b |||y=w at *;refine zf true 0 Tryz.func119 Tryz.ntmps119 ?_;dsimp only[Tmp,TypeId,slotsOf];refine aU ?_;simp -dsimp only[simprocAttr,↓aa,zp,Bs.aj,Bs.au];refine ah ?_;refine aU ?_;simp -dsimp only[simprocAttr,↓aa,zp,q1,q2,Ve,if_false,e1,e2]
 repeat(refine⟨by omega,?_⟩)
 refine⟨ob (by kernel_rfl),?_⟩;refine ah ?_;refine az (ah ?_);refine aq ?_;simp -dsimp only[simprocAttr,↓aa,zp,zr,Tryz.results119];exact⟨⟨trivial,trivial,trivial⟩,rfl⟩
namespace Bs
theorem uU(s t:Bs)(k:Nat):(s.meet t).has k=(s.has k&&t.has k):=by
 unfold has meet;split<;>simp[Nat.testBit_and]
theorem has_add(s:Bs)(j k:Nat)(hj:j<128)(hk:k<128):(s.add j).has k=(s.has k ||decide (k=j)):=by
 unfold has add;by_cases h1:j<64<;>by_cases h2:k<64
 ·simp only[h1,h2,if_true,Nat.testBit_or,Nat.one_shiftLeft,Nat.testBit_two_pow];congr 1;apply decide_eq_decide.2;omega
 ·simp only[h1,h2,if_true,if_false];have:¬k=j:=by omega
  simp[this]
 ·simp only[h1,h2,if_true,if_false];have:¬k=j:=by omega
  simp[this]
 simp only[h1,h2,if_false,Nat.testBit_or,Nat.one_shiftLeft,Nat.testBit_two_pow];congr 1;apply decide_eq_decide.2;omega
theorem AP{s t:Bs}(h:s.fit):(s.meet t).fit:=⟨Nat.lt_of_le_of_lt Nat.and_le_left h.1,Nat.lt_of_le_of_lt Nat.and_le_left h.2⟩
theorem oR{s:Bs}(h:s.fit){k:Nat}(hk:k<128):(s.add k).fit:=by
 unfold add;split
 ·refine⟨Nat.or_lt_two_pow h.1 ?_,h.2⟩;rw[Nat.one_shiftLeft];exact Nat.pow_lt_pow_right (by omega) (by assumption)
 refine⟨h.1,Nat.or_lt_two_pow h.2 ?_⟩;rw[Nat.one_shiftLeft];exact Nat.pow_lt_pow_right (by omega) (by omega)
theorem nP:none.fit:=⟨by decide,by decide⟩
theorem ext{s t:Bs}(hs:s.fit)(ht:t.fit)(h:∀k,k<128->s.has k=t.has k):s=t:=by
 obtain⟨a,b⟩:=s;obtain⟨c,d⟩:=t;obtain⟨s1,s2⟩:=hs;obtain⟨t1,t2⟩:=ht;simp only at s1 s2 t1 t2;have a8:∀{m k:Nat},m<2 ^ 64->64<=k->m.testBit k=false:=fun hm hk=>Nat.testBit_lt_two_pow (Nat.lt_of_lt_of_le hm (Nat.pow_le_pow_right (by omega) hk));congr 1
 ·apply Nat.eq_of_testBit_eq;intro k;by_cases hk:k<64
  ·have:=h k (by omega);simpa[has,hk]using this
  rw[a8 s1 (by omega),a8 t1 (by omega)]
 apply Nat.eq_of_testBit_eq;intro k;by_cases hk:k<64
 ·have:=h (k+64) (by omega);simpa[has,show ¬k+64<64 by omega]using this
 rw[a8 s2 (by omega),a8 t2 (by omega)]
def size(s:Bs):Nat:=(List.range 128).countP s.has
theorem countP_le{p q:Nat->Bool}(h:∀k,k<128->p k=true->q k=true):∀n≤128,(List.range n).countP p<=(List.range n).countP q
 | 0,_=>by simp
 | n+1,hn=>by
  have ih:=countP_le h n (by omega);rw[List.range_succ,List.countP_append,List.countP_append];have:[n].countP p<=[n].countP q:=by
   simp only[List.countP_singleton];by_cases hp:p n=true
   ·simp[hp,h n (by omega) hp]
   simp[hp]
  omega
theorem rV{p q:Nat->Bool}(h:∀k,k<128->p k=true->q k=true){j:Nat}(hq:q j=true)(hp:p j=false):∀n≤128,j<n->(List.range n).countP p<(List.range n).countP q
 | 0,_,hj=>by omega
 | n+1,hn,hj=>by
  rw[List.range_succ,List.countP_append,List.countP_append];by_cases e:j=n
  ·subst e;have:=countP_le h j (by omega);simp only[List.countP_singleton,hq,hp];simp;omega
  have ih:=rV h hq hp n (by omega) (by omega);have:[n].countP p<=[n].countP q:=by
   simp only[List.countP_singleton];by_cases Gv:p n=true
   ·simp[Gv,h n (by omega) Gv]
   simp[Gv]
  omega
theorem Nl{s t:Bs}(hs:s.fit)(ht:t.fit)(h:∀k,k<128->s.has k=true->t.has k=true)(bD:s≠t):s.size<t.size:=by
 by_cases cB:∀k,k<128->t.has k=true->s.has k=true
 ·exfalso;apply bD;apply ext hs ht;intro k hk;cases h1:s.has k<;>cases h2:t.has k
  ·rfl
  ·exact absurd (cB k hk h2) (by simp[h1])
  ·exact absurd (h k hk h1) (by simp[h2])
  rfl
 obtain⟨j,hj,h2,h1⟩:∃j,j<128∧t.has j=true∧¬s.has j=true:=by
  refine Classical.byContradiction fun q=>cB fun k hk h2=>?_;refine Classical.byContradiction fun h1=>q ⟨k,hk,h2,h1⟩
 exact rV h h2 (by simpa using h1) 128 (Nat.le_refl _) hj
theorem s8(s:Bs):s.size<=128:=by
 have:=List.countP_le_length (p:=s.has) (l:=List.range 128);simpa[size]using this
end Bs
structure Ds where
 over:List Bs
 seen:Bs
 again:Bool
def Ds.at_(S:Ds)(k:Nat):Bs:=S.over[k]?.getD .none
def hU(k:Nat)(S:Ds)(e:Edge):Ds :=
 let next:=((S.at_ e.block.toNat).meet (S.at_ k)).add e.block.toNat
 if next≠S.at_ e.block.toNat∨S.seen.has e.block.toNat=false then⟨S.over.set e.block.toNat next,S.seen.add e.block.toNat,true⟩else S
def qP(k:Nat)(S:Ds)(b:Block):Ds:=if S.seen.has k=false then S else b.term.to.foldl (hU k) S
def lI:Nat->Ds->List Block->Ds
 | _,S,[]=>S
 | k,S,b::r=>lI (k+1) (qP k S b) r
def iU(f:Func):Nat->Ds->Ds
 | 0,S=>S
 | n+1,S=>if S.again then iU f n (lI 0 ⟨S.over,S.seen,false⟩ f.blocks)else S
def vY:Nat->Bs
 | 0=>.none
 | n+1=>(vY n).add n
def k8(f:Func):Ds:=⟨(List.replicate f.blocks.length (vY f.blocks.length)).set 0 (Bs.none.add 0),Bs.none.add 0,true⟩
def kZ(f:Func):List Bs×Bs:=((iU f 20000 (k8 f)).over,(iU f 20000 (k8 f)).seen)
structure kY(n:Nat)(S:Ds):Prop where
 few:n<=128
 len:S.over.length=n
 fit:∀s∈S.over,s.fit
 seen:S.seen.fit
 self:∀k,k<n->(S.at_ k).has k=true
def Ds.weight(S:Ds):Nat:=(S.over.map Bs.size).sum+(128-S.seen.size)
theorem kY.yo{n:Nat}{S:Ds}(h:kY n S)(k:Nat):(S.at_ k).fit:=by
 unfold Ds.at_;cases hk:S.over[k]? with
 | none=>exact Bs.nP
 | some s=>exact h.fit s (List.mem_of_getElem? hk)
theorem FA{l:List Nat}{k x y:Nat}(h:l[k]?=some y):(l.set k x).sum+y=l.sum+x:=by
 induction l generalizing k with
 | nil=>simp at h
 | cons a r ih =>
  cases k with
  | zero =>
   simp only[List.getElem?_cons_zero,Option.some.injEq]at h;simp only[List.set_cons_zero,List.sum_cons];omega
  | succ k =>
   have:=ih (k:=k) (by simpa using h);simp only[List.set_cons_succ,List.sum_cons];omega
theorem EC{n:Nat}{S:Ds}(h:kY n S){k:Nat}{e:Edge}(RT:0<=e.block)(tz:e.block.toNat<n):kY n (hU k S e)∧(hU k S e).weight<=S.weight∧((hU k S e).again=true->S.again=true∨(hU k S e).weight<S.weight):=by
 have hj:e.block.toNat<128:=Nat.lt_of_lt_of_le tz h.few;unfold hU;simp only;generalize e.block.toNat=j at *;have X6:=h.yo j;have rf:(((S.at_ j).meet (S.at_ k)).add j).fit:=Bs.oR (Bs.AP X6) hj;have Dq:∀i,i<128->(((S.at_ j).meet (S.at_ k)).add j).has i=true->(S.at_ j).has i=true:=fun i hi q=>by
  rw[Bs.has_add _ _ _ hj hi,Bs.uU]at q;by_cases e:i=j
  ·subst e;exact h.self i tz
  simp[e]at q;exact q.1
 have qq:S.over[j]?=some (S.at_ j):=by
  have:j<S.over.length:=by rw[h.len];exact tz
  simp[Ds.at_,this]
 split
 ·rename_i hc;refine⟨⟨h.few,by simp[h.len],fun s hs=>?_,Bs.oR h.seen hj,fun i hi=>?_⟩,?_⟩
  ·rcases List.mem_or_eq_of_mem_set hs with q|q
   ·exact h.fit s q
   rw[q];exact rf
  ·unfold Ds.at_;by_cases e:i=j
   ·subst e;rw[List.getElem?_set_self (by rw[h.len];exact hi)];simp only[Option.getD_some];rw[Bs.has_add _ _ _ hj hj];simp
   rw[List.getElem?_set_ne (Ne.symm e)];exact h.self i hi
  have tF:=FA (l:=S.over.map Bs.size) (k:=j) (x:=(((S.at_ j).meet (S.at_ k)).add j).size) (y:=(S.at_ j).size) (by simp[qq]);rw[<-List.map_set]at tF;have hle:(((S.at_ j).meet (S.at_ k)).add j).size<=(S.at_ j).size:=Bs.countP_le Dq 128 (Nat.le_refl _);have iY:S.seen.size<=(S.seen.add j).size:=Bs.countP_le (fun i hi q=>by rw[Bs.has_add _ _ _ hj hi,q];rfl) 128 (Nat.le_refl _);have ha:=Bs.s8 (S.seen.add j);have a8:(((S.at_ j).meet (S.at_ k)).add j).size<(S.at_ j).size∨S.seen.size<(S.seen.add j).size:=by
   rcases hc with hc|hc
   ·exact .inl (Bs.Nl rf X6 Dq hc)
   refine .inr (Bs.rV (fun i hi q=>by rw[Bs.has_add _ _ _ hj hi,q];rfl) (j:=j) ?_ hc 128 (Nat.le_refl _) hj);rw[Bs.has_add _ _ _ hj hj];simp
  simp only[Ds.weight];refine⟨by omega,fun _=>.inr (by omega)⟩
 exact⟨h,Nat.le_refl _,fun q=>.inl q⟩
theorem ED{n:Nat}{k:Nat}:∀(l:List Edge) {S:Ds},kY n S->(∀e∈l,0<=e.block∧e.block.toNat<n)->kY n (l.foldl (hU k) S)∧(l.foldl (hU k) S).weight<=S.weight∧((l.foldl (hU k) S).again=true->S.again=true∨(l.foldl (hU k) S).weight<S.weight)
 | [],S,h,_=>⟨h,Nat.le_refl _,fun q=>.inl q⟩
 | e::r,S,h,he=>by
  obtain⟨a1,a2,a3⟩:=EC (k:=k) h (he e (by simp)).1 (he e (by simp)).2;obtain⟨b1,b2,b3⟩:=ED r a1 (fun x hx=>he x (by simp[hx]));simp only[List.foldl_cons];refine⟨b1,by omega,fun q=>?_⟩;rcases b3 q with q|q
  ·rcases a3 q with q|q
   ·exact .inl q
   exact .inr (by omega)
  exact .inr (by omega)
theorem EB{n:Nat}{k:Nat}{b:Block}{S:Ds}(h:kY n S)(he:∀e∈b.term.to,0<=e.block∧e.block.toNat<n):kY n (qP k S b)∧(qP k S b).weight<=S.weight∧((qP k S b).again=true->S.again=true∨(qP k S b).weight<S.weight):=by
 unfold qP;split
 ·exact⟨h,Nat.le_refl _,fun q=>.inl q⟩
 exact ED _ h he
theorem qQ{n:Nat}:∀(l:List Block) {k:Nat} {S:Ds},kY n S->(∀b∈l,∀e∈b.term.to,0<=e.block∧e.block.toNat<n)->kY n (lI k S l)∧(lI k S l).weight<=S.weight∧((lI k S l).again=true->S.again=true∨(lI k S l).weight<S.weight)
 | [],k,S,h,_=>⟨h,Nat.le_refl _,fun q=>.inl q⟩
 | b::r,k,S,h,he=>by
  obtain⟨a1,a2,a3⟩:=EB (k:=k) h (he b (by simp));obtain⟨b1,b2,b3⟩:=qQ r (k:=k+1) a1 (fun x hx=>he x (by simp[hx]));simp only[lI];refine⟨b1,by omega,fun q=>?_⟩;rcases b3 q with q|q
  ·rcases a3 q with q|q
   ·exact .inl q
   exact .inr (by omega)
  exact .inr (by omega)
instance (n:Int):Decidable (fA n):=by
 unfold fA
 infer_instance
theorem sS(n:Int):bq Tryz.prog 111 [aI n] (.v (.bool (decide (fA n)))):=by
 have hw:=dJ n (-1073741824) 1073741823;refine zf true 0 Tryz.func111 Tryz.ntmps111 ?_;dsimp only[Tmp,TypeId,slotsOf];refine az (ah ?_);refine az ?_;refine zi hw ?_;refine ah ?_;refine aq ?_;simp -dsimp only[simprocAttr,↓aa,zp,zr,Tryz.results111];simp only[within,fA];by_cases h1:-1073741824<=n<;>by_cases h2:n<=1073741823<;>simp[h1,h2]
def bm(i:Ins):Int×Bool :=
 if i.op=0 then(0,true)
 else if(1<=i.op∧i.op<=7)∨i.op=16∨i.op=18∨i.op=19∨i.op=21∨i.op=23 then(2,true)
 else if i.op=20 then(3,true)
 else if i.op=10∨i.op=11∨i.op=12∨i.op=15∨i.op=17∨i.op=24 then(1,true)
 else if i.op=8∨i.op=9∨i.op=13∨i.op=14 then(-1,true)
 else if i.op=22 then(i.n,decide (i.n=2∨i.n=4))
 else(0,false)
def cq(i:Ins):Bool :=
 if i.op=0 then decide (fA i.n)
 else if i.op=8 then within i.n 0 255
 else if i.op=11 then within i.n 0 15
 else if i.op=9∨i.op=13 then within i.n 0 255
 else if i.op=23 then decide (i.n=1∨i.n=2∨i.n=3)
 else if i.op=24 then within i.n 0 3
 else if i.op=22 then true
 else decide (i.n=0)
theorem DL(i:Ins)(jN:i.op=0):bq Tryz.prog 117 [i.enc] (.cx [aI (bm i).1,.v (.bool (bm i).2)]):=by
 have hr:bm i=(0,true):=by
  unfold bm;rw[if_pos (by omega)]
 rw[hr];refine zf true 0 Tryz.func117 Tryz.ntmps117 ?_;dsimp only[Tmp,TypeId,slotsOf];refine az (ah ?_);refine ck (ah ?_);refine ag ?_;refine az (ah ?_);apply aP rfl<;>intro h
 ·refine az (ah ?_);refine aq ?_;simp -dsimp only[simprocAttr,↓aa,zp,zr,Tryz.results117];simp[av,ae.upto]
 exact af h (by omega)
theorem DM(i:Ins)(jN:(1<=i.op∧i.op<=7)∨i.op=16∨i.op=18∨i.op=19∨i.op=21∨i.op=23):bq Tryz.prog 117 [i.enc] (.cx [aI (bm i).1,.v (.bool (bm i).2)]):=by
 have hr:bm i=(2,true):=by
  unfold bm;rw[if_neg (by omega),if_pos (by omega)]
 rw[hr];refine zf true 0 Tryz.func117 Tryz.ntmps117 ?_;dsimp only[Tmp,TypeId,slotsOf];refine az (ah ?_);refine ck (ah ?_);refine ag ?_;refine az (ah ?_);apply aP rfl<;>intro h
 ·exact ab h (by omega)
 refine ck (ah ?_);refine iz (⟨47,[(1,.mp 0 0),(2,aI 0),(3,.v (.bool false)),(5,aI i.op),(8,.v (.bool true))],[.cells [aI i.to,aI i.op,aI i.n,a7 i.args]]⟩) ?_ ?_
 ·apply aP rfl<;>intro h
  ·refine ba ?_;show bj _ _;refine zq rfl ?_ ?_;simp -dsimp only[simprocAttr,↓aa,zp,zc]
   ·exact Sub.of_eq (by rw[h])
   rfl
  refine az (ah ?_);apply aP rfl<;>intro h
  ·refine ba ?_;show bj _ _;refine zq rfl ?_ ?_;simp -dsimp only[simprocAttr,↓aa,zp,zc]
   ·exact Sub.of_eq (by rw[h])
   rfl
  refine az (ah ?_);apply aP rfl<;>intro h
  ·refine ba ?_;show bj _ _;refine zq rfl ?_ ?_;simp -dsimp only[simprocAttr,↓aa,zp,zc]
   ·exact Sub.of_eq (by rw[h])
   rfl
  refine az (ah ?_);apply aP rfl<;>intro h
  ·refine ba ?_;show bj _ _;refine zq rfl ?_ ?_;simp -dsimp only[simprocAttr,↓aa,zp,zc]
   ·exact Sub.of_eq (by rw[h])
   rfl
  refine az (ah ?_);apply aP rfl<;>intro h
  ·refine ba ?_;show bj _ _;refine zq rfl ?_ ?_;simp -dsimp only[simprocAttr,↓aa,zp,zc]
   ·exact Sub.of_eq (by rw[h])
   rfl
  refine az (ah ?_);apply aP rfl<;>intro h
  ·refine ba ?_;show bj _ _;refine zq rfl ?_ ?_;simp -dsimp only[simprocAttr,↓aa,zp,zc]
   ·exact Sub.of_eq (by rw[h])
   rfl
  refine az (ah ?_);apply aP rfl<;>intro h
  ·refine ba ?_;show bj _ _;refine zq rfl ?_ ?_;simp -dsimp only[simprocAttr,↓aa,zp,zc]
   ·exact Sub.of_eq (by rw[h])
   rfl
  refine az (ah ?_);apply aP rfl<;>intro h
  ·refine ba ?_;show bj _ _;refine zq rfl ?_ ?_;simp -dsimp only[simprocAttr,↓aa,zp,zc]
   ·exact Sub.of_eq (by rw[h])
   rfl
  refine az (ah ?_);apply aP rfl<;>intro h
  ·refine ba ?_;show bj _ _;refine zq rfl ?_ ?_;simp -dsimp only[simprocAttr,↓aa,zp,zc]
   ·exact Sub.of_eq (by rw[h])
   rfl
  refine az (ah ?_);apply aP rfl<;>intro h
  ·refine ba ?_;show bj _ _;refine zq rfl ?_ ?_;simp -dsimp only[simprocAttr,↓aa,zp,zc]
   ·exact Sub.of_eq (by rw[h])
   rfl
  refine az (ah ?_);apply aP rfl<;>intro h
  ·refine ba ?_;show bj _ _;refine zq rfl ?_ ?_;simp -dsimp only[simprocAttr,↓aa,zp,zc]
   ·exact Sub.of_eq (by rw[h])
   rfl
  refine cC ?_;refine aV ?_;show bj _ _;refine zq rfl ?_ ?_;simp -dsimp only[simprocAttr,↓aa,zp,zc]
  ·exact Sub.of_eq (by rw[decide_eq_true (show i.op=23 by simp only[decide_eq_false_iff_not]at *;omega)])
  rfl
 refine cY rfl ?_;refine az (ah ?_);refine aq ?_;simp -dsimp only[simprocAttr,↓aa,zp,zr,Tryz.results117];simp[av,ae.upto]
theorem DN(i:Ins)(jN:i.op=20):bq Tryz.prog 117 [i.enc] (.cx [aI (bm i).1,.v (.bool (bm i).2)]):=by
 have hr:bm i=(3,true):=by
  unfold bm;rw[if_neg (by omega),if_neg (by omega),if_pos (by omega)]
 rw[hr];refine zf true 0 Tryz.func117 Tryz.ntmps117 ?_;dsimp only[Tmp,TypeId,slotsOf];refine az (ah ?_);refine ck (ah ?_);refine ag ?_;refine az (ah ?_);apply aP rfl<;>intro h
 ·exact ab h (by omega)
 refine ck (ah ?_);apply aP rfl<;>intro h
 ·exact ab h (by omega)
 refine az (ah ?_);apply aP rfl<;>intro h
 ·exact ab h (by omega)
 refine az (ah ?_);apply aP rfl<;>intro h
 ·exact ab h (by omega)
 refine az (ah ?_);apply aP rfl<;>intro h
 ·exact ab h (by omega)
 refine az (ah ?_);apply aP rfl<;>intro h
 ·exact ab h (by omega)
 refine az (ah ?_);apply aP rfl<;>intro h
 ·exact ab h (by omega)
 refine az (ah ?_);apply aP rfl<;>intro h
 ·exact ab h (by omega)
 refine az (ah ?_);apply aP rfl<;>intro h
 ·exact ab h (by omega)
 refine az (ah ?_);apply aP rfl<;>intro h
 ·exact ab h (by omega)
 refine az (ah ?_);apply aP rfl<;>intro h
 ·exact ab h (by omega)
 refine az (ah ?_);apply aP rfl<;>intro h
 ·exact ab h (by omega)
 refine cC (ah ?_);apply aP rfl<;>intro h
 ·exact ab h (by omega)
 refine az (ah ?_);apply aP rfl<;>intro h
 ·refine az (ah ?_);refine aq ?_;simp -dsimp only[simprocAttr,↓aa,zp,zr,Tryz.results117];simp[av,ae.upto]
 exact af h (by omega)
theorem DO(i:Ins)(jN:i.op=10∨i.op=11∨i.op=12∨i.op=15∨i.op=17∨i.op=24):bq Tryz.prog 117 [i.enc] (.cx [aI (bm i).1,.v (.bool (bm i).2)]):=by
 have hr:bm i=(1,true):=by
  unfold bm;rw[if_neg (by omega),if_neg (by omega),if_neg (by omega),if_pos (by omega)]
 rw[hr];refine zf true 0 Tryz.func117 Tryz.ntmps117 ?_;dsimp only[Tmp,TypeId,slotsOf];refine az (ah ?_);refine ck (ah ?_);refine ag ?_;refine az (ah ?_);apply aP rfl<;>intro h
 ·exact ab h (by omega)
 refine ck (ah ?_);apply aP rfl<;>intro h
 ·exact ab h (by omega)
 refine az (ah ?_);apply aP rfl<;>intro h
 ·exact ab h (by omega)
 refine az (ah ?_);apply aP rfl<;>intro h
 ·exact ab h (by omega)
 refine az (ah ?_);apply aP rfl<;>intro h
 ·exact ab h (by omega)
 refine az (ah ?_);apply aP rfl<;>intro h
 ·exact ab h (by omega)
 refine az (ah ?_);apply aP rfl<;>intro h
 ·exact ab h (by omega)
 refine az (ah ?_);apply aP rfl<;>intro h
 ·exact ab h (by omega)
 refine az (ah ?_);apply aP rfl<;>intro h
 ·exact ab h (by omega)
 refine az (ah ?_);apply aP rfl<;>intro h
 ·exact ab h (by omega)
 refine az (ah ?_);apply aP rfl<;>intro h
 ·exact ab h (by omega)
 refine az (ah ?_);apply aP rfl<;>intro h
 ·exact ab h (by omega)
 refine cC (ah ?_);apply aP rfl<;>intro h
 ·exact ab h (by omega)
 refine az (ah ?_);apply aP rfl<;>intro h
 ·exact ab h (by omega)
 refine ck (ah ?_);refine iz (⟨47,[(1,.mp 0 0),(2,aI 0),(3,.v (.bool false)),(5,aI i.op),(23,.v (.bool true))],[.cells [aI i.to,aI i.op,aI i.n,a7 i.args]]⟩) ?_ ?_
 ·apply aP rfl<;>intro h
  ·refine ba ?_;show bj _ _;refine zq rfl ?_ ?_;simp -dsimp only[simprocAttr,↓aa,zp,zc]
   ·exact Sub.of_eq (by rw[h])
   rfl
  refine az (ah ?_);apply aP rfl<;>intro h
  ·refine ba ?_;show bj _ _;refine zq rfl ?_ ?_;simp -dsimp only[simprocAttr,↓aa,zp,zc]
   ·exact Sub.of_eq (by rw[h])
   rfl
  refine az (ah ?_);apply aP rfl<;>intro h
  ·refine ba ?_;show bj _ _;refine zq rfl ?_ ?_;simp -dsimp only[simprocAttr,↓aa,zp,zc]
   ·exact Sub.of_eq (by rw[h])
   rfl
  refine az (ah ?_);apply aP rfl<;>intro h
  ·refine ba ?_;show bj _ _;refine zq rfl ?_ ?_;simp -dsimp only[simprocAttr,↓aa,zp,zc]
   ·exact Sub.of_eq (by rw[h])
   rfl
  refine az (ah ?_);apply aP rfl<;>intro h
  ·refine ba ?_;show bj _ _;refine zq rfl ?_ ?_;simp -dsimp only[simprocAttr,↓aa,zp,zc]
   ·exact Sub.of_eq (by rw[h])
   rfl
  refine cC ?_;refine aV ?_;show bj _ _;refine zq rfl ?_ ?_;simp -dsimp only[simprocAttr,↓aa,zp,zc]
  ·exact Sub.of_eq (by rw[decide_eq_true (show i.op=24 by simp only[decide_eq_false_iff_not]at *;omega)])
  rfl
 refine cY rfl ?_;refine az (ah ?_);refine aq ?_;simp -dsimp only[simprocAttr,↓aa,zp,zr,Tryz.results117];simp[av,ae.upto]
theorem DP(i:Ins)(jN:i.op=8∨i.op=9∨i.op=13∨i.op=14):bq Tryz.prog 117 [i.enc] (.cx [aI (bm i).1,.v (.bool (bm i).2)]):=by
 have hr:bm i=(-1,true):=by
  unfold bm;rw[if_neg (by omega),if_neg (by omega),if_neg (by omega),if_neg (by omega),if_pos (by omega)]
 rw[hr];refine zf true 0 Tryz.func117 Tryz.ntmps117 ?_;dsimp only[Tmp,TypeId,slotsOf];refine az (ah ?_);refine ck (ah ?_);refine ag ?_;refine az (ah ?_);apply aP rfl<;>intro h
 ·exact ab h (by omega)
 refine ck (ah ?_);apply aP rfl<;>intro h
 ·exact ab h (by omega)
 refine az (ah ?_);apply aP rfl<;>intro h
 ·exact ab h (by omega)
 refine az (ah ?_);apply aP rfl<;>intro h
 ·exact ab h (by omega)
 refine az (ah ?_);apply aP rfl<;>intro h
 ·exact ab h (by omega)
 refine az (ah ?_);apply aP rfl<;>intro h
 ·exact ab h (by omega)
 refine az (ah ?_);apply aP rfl<;>intro h
 ·exact ab h (by omega)
 refine az (ah ?_);apply aP rfl<;>intro h
 ·exact ab h (by omega)
 refine az (ah ?_);apply aP rfl<;>intro h
 ·exact ab h (by omega)
 refine az (ah ?_);apply aP rfl<;>intro h
 ·exact ab h (by omega)
 refine az (ah ?_);apply aP rfl<;>intro h
 ·exact ab h (by omega)
 refine az (ah ?_);apply aP rfl<;>intro h
 ·exact ab h (by omega)
 refine cC (ah ?_);apply aP rfl<;>intro h
 ·exact ab h (by omega)
 refine az (ah ?_);apply aP rfl<;>intro h
 ·exact ab h (by omega)
 refine ck (ah ?_);apply aP rfl<;>intro h
 ·exact ab h (by omega)
 refine az (ah ?_);apply aP rfl<;>intro h
 ·exact ab h (by omega)
 refine az (ah ?_);apply aP rfl<;>intro h
 ·exact ab h (by omega)
 refine az (ah ?_);apply aP rfl<;>intro h
 ·exact ab h (by omega)
 refine az (ah ?_);apply aP rfl<;>intro h
 ·exact ab h (by omega)
 refine cC (ah ?_);apply aP rfl<;>intro h
 ·exact ab h (by omega)
 refine ck (ah ?_);refine iz (⟨47,[(1,.mp 0 0),(2,aI 0),(3,.v (.bool false)),(5,aI i.op),(30,.v (.bool true))],[.cells [aI i.to,aI i.op,aI i.n,a7 i.args]]⟩) ?_ ?_
 ·apply aP rfl<;>intro h
  ·refine ba ?_;show bj _ _;refine zq rfl ?_ ?_;simp -dsimp only[simprocAttr,↓aa,zp,zc]
   ·exact Sub.of_eq (by rw[h])
   rfl
  refine az (ah ?_);apply aP rfl<;>intro h
  ·refine ba ?_;show bj _ _;refine zq rfl ?_ ?_;simp -dsimp only[simprocAttr,↓aa,zp,zc]
   ·exact Sub.of_eq (by rw[h])
   rfl
  refine az (ah ?_);apply aP rfl<;>intro h
  ·refine ba ?_;show bj _ _;refine zq rfl ?_ ?_;simp -dsimp only[simprocAttr,↓aa,zp,zc]
   ·exact Sub.of_eq (by rw[h])
   rfl
  refine cC ?_;refine aV ?_;show bj _ _;refine zq rfl ?_ ?_;simp -dsimp only[simprocAttr,↓aa,zp,zc]
  ·exact Sub.of_eq (by rw[decide_eq_true (show i.op=14 by simp only[decide_eq_false_iff_not]at *;omega)])
  rfl
 refine cY rfl ?_;refine az (ah ?_);refine aq ?_;simp -dsimp only[simprocAttr,↓aa,zp,zr,Tryz.results117];simp[av,ae.upto]
theorem DQ(i:Ins)(jN:i.op=22):bq Tryz.prog 117 [i.enc] (.cx [aI (bm i).1,.v (.bool (bm i).2)]):=by
 have hr:bm i=(i.n,decide (i.n=2∨i.n=4)):=by
  unfold bm;rw[if_neg (by omega),if_neg (by omega),if_neg (by omega),if_neg (by omega),if_neg (by omega),if_pos (by omega)]
 rw[hr];by_cases h2:i.n=2
 ·have kW:decide (i.n=2)=true:=decide_eq_true h2;refine zf true 0 Tryz.func117 Tryz.ntmps117 ?_;dsimp only[Tmp,TypeId,slotsOf];refine az (ah ?_);refine ck (ah ?_);refine ag ?_;refine az (ah ?_);apply aP rfl<;>intro h
  ·exact ab h (by omega)
  refine ck (ah ?_);apply aP rfl<;>intro h
  ·exact ab h (by omega)
  refine az (ah ?_);apply aP rfl<;>intro h
  ·exact ab h (by omega)
  refine az (ah ?_);apply aP rfl<;>intro h
  ·exact ab h (by omega)
  refine az (ah ?_);apply aP rfl<;>intro h
  ·exact ab h (by omega)
  refine az (ah ?_);apply aP rfl<;>intro h
  ·exact ab h (by omega)
  refine az (ah ?_);apply aP rfl<;>intro h
  ·exact ab h (by omega)
  refine az (ah ?_);apply aP rfl<;>intro h
  ·exact ab h (by omega)
  refine az (ah ?_);apply aP rfl<;>intro h
  ·exact ab h (by omega)
  refine az (ah ?_);apply aP rfl<;>intro h
  ·exact ab h (by omega)
  refine az (ah ?_);apply aP rfl<;>intro h
  ·exact ab h (by omega)
  refine az (ah ?_);apply aP rfl<;>intro h
  ·exact ab h (by omega)
  refine cC (ah ?_);apply aP rfl<;>intro h
  ·exact ab h (by omega)
  refine az (ah ?_);apply aP rfl<;>intro h
  ·exact ab h (by omega)
  refine ck (ah ?_);apply aP rfl<;>intro h
  ·exact ab h (by omega)
  refine az (ah ?_);apply aP rfl<;>intro h
  ·exact ab h (by omega)
  refine az (ah ?_);apply aP rfl<;>intro h
  ·exact ab h (by omega)
  refine az (ah ?_);apply aP rfl<;>intro h
  ·exact ab h (by omega)
  refine az (ah ?_);apply aP rfl<;>intro h
  ·exact ab h (by omega)
  refine cC (ah ?_);apply aP rfl<;>intro h
  ·exact ab h (by omega)
  refine ck (ah ?_);apply aP rfl<;>intro h
  ·exact ab h (by omega)
  refine az (ah ?_);apply aP rfl<;>intro h
  ·exact ab h (by omega)
  refine az (ah ?_);apply aP rfl<;>intro h
  ·exact ab h (by omega)
  refine cC (ah ?_);apply aP rfl<;>intro h
  ·exact ab h (by omega)
  refine az (ah ?_);apply aP rfl<;>intro h
  ·refine aU ?_;simp -dsimp only[simprocAttr,↓aa,zp,kW];refine⟨ob (by kernel_rfl),?_⟩;refine ah ?_;refine aq ?_;simp -dsimp only[simprocAttr,↓aa,zp,zr,Tryz.results117];simp[av,ae.upto,h2]
  exact af h (by omega)
 have kW:decide (i.n=2)=false:=decide_eq_false h2;by_cases h4:i.n=4
 ·have Mr:decide (i.n=4)=true:=decide_eq_true h4;refine zf true 0 Tryz.func117 Tryz.ntmps117 ?_;dsimp only[Tmp,TypeId,slotsOf];refine az (ah ?_);refine ck (ah ?_);refine ag ?_;refine az (ah ?_);apply aP rfl<;>intro h
  ·exact ab h (by omega)
  refine ck (ah ?_);apply aP rfl<;>intro h
  ·exact ab h (by omega)
  refine az (ah ?_);apply aP rfl<;>intro h
  ·exact ab h (by omega)
  refine az (ah ?_);apply aP rfl<;>intro h
  ·exact ab h (by omega)
  refine az (ah ?_);apply aP rfl<;>intro h
  ·exact ab h (by omega)
  refine az (ah ?_);apply aP rfl<;>intro h
  ·exact ab h (by omega)
  refine az (ah ?_);apply aP rfl<;>intro h
  ·exact ab h (by omega)
  refine az (ah ?_);apply aP rfl<;>intro h
  ·exact ab h (by omega)
  refine az (ah ?_);apply aP rfl<;>intro h
  ·exact ab h (by omega)
  refine az (ah ?_);apply aP rfl<;>intro h
  ·exact ab h (by omega)
  refine az (ah ?_);apply aP rfl<;>intro h
  ·exact ab h (by omega)
  refine az (ah ?_);apply aP rfl<;>intro h
  ·exact ab h (by omega)
  refine cC (ah ?_);apply aP rfl<;>intro h
  ·exact ab h (by omega)
  refine az (ah ?_);apply aP rfl<;>intro h
  ·exact ab h (by omega)
  refine ck (ah ?_);apply aP rfl<;>intro h
  ·exact ab h (by omega)
  refine az (ah ?_);apply aP rfl<;>intro h
  ·exact ab h (by omega)
  refine az (ah ?_);apply aP rfl<;>intro h
  ·exact ab h (by omega)
  refine az (ah ?_);apply aP rfl<;>intro h
  ·exact ab h (by omega)
  refine az (ah ?_);apply aP rfl<;>intro h
  ·exact ab h (by omega)
  refine cC (ah ?_);apply aP rfl<;>intro h
  ·exact ab h (by omega)
  refine ck (ah ?_);apply aP rfl<;>intro h
  ·exact ab h (by omega)
  refine az (ah ?_);apply aP rfl<;>intro h
  ·exact ab h (by omega)
  refine az (ah ?_);apply aP rfl<;>intro h
  ·exact ab h (by omega)
  refine cC (ah ?_);apply aP rfl<;>intro h
  ·exact ab h (by omega)
  refine az (ah ?_);apply aP rfl<;>intro h
  ·refine aU ?_;simp -dsimp only[simprocAttr,↓aa,zp,kW,Mr];refine⟨ob (by kernel_rfl),?_⟩;refine ah ?_;refine aq ?_;simp -dsimp only[simprocAttr,↓aa,zp,zr,Tryz.results117];simp[av,ae.upto,h4]
  exact af h (by omega)
 have Mr:decide (i.n=4)=false:=decide_eq_false h4;refine zf true 0 Tryz.func117 Tryz.ntmps117 ?_;dsimp only[Tmp,TypeId,slotsOf];refine az (ah ?_);refine ck (ah ?_);refine ag ?_;refine az (ah ?_);apply aP rfl<;>intro h
 ·exact ab h (by omega)
 refine ck (ah ?_);apply aP rfl<;>intro h
 ·exact ab h (by omega)
 refine az (ah ?_);apply aP rfl<;>intro h
 ·exact ab h (by omega)
 refine az (ah ?_);apply aP rfl<;>intro h
 ·exact ab h (by omega)
 refine az (ah ?_);apply aP rfl<;>intro h
 ·exact ab h (by omega)
 refine az (ah ?_);apply aP rfl<;>intro h
 ·exact ab h (by omega)
 refine az (ah ?_);apply aP rfl<;>intro h
 ·exact ab h (by omega)
 refine az (ah ?_);apply aP rfl<;>intro h
 ·exact ab h (by omega)
 refine az (ah ?_);apply aP rfl<;>intro h
 ·exact ab h (by omega)
 refine az (ah ?_);apply aP rfl<;>intro h
 ·exact ab h (by omega)
 refine az (ah ?_);apply aP rfl<;>intro h
 ·exact ab h (by omega)
 refine az (ah ?_);apply aP rfl<;>intro h
 ·exact ab h (by omega)
 refine cC (ah ?_);apply aP rfl<;>intro h
 ·exact ab h (by omega)
 refine az (ah ?_);apply aP rfl<;>intro h
 ·exact ab h (by omega)
 refine ck (ah ?_);apply aP rfl<;>intro h
 ·exact ab h (by omega)
 refine az (ah ?_);apply aP rfl<;>intro h
 ·exact ab h (by omega)
 refine az (ah ?_);apply aP rfl<;>intro h
 ·exact ab h (by omega)
 refine az (ah ?_);apply aP rfl<;>intro h
 ·exact ab h (by omega)
 refine az (ah ?_);apply aP rfl<;>intro h
 ·exact ab h (by omega)
 refine cC (ah ?_);apply aP rfl<;>intro h
 ·exact ab h (by omega)
 refine ck (ah ?_);apply aP rfl<;>intro h
 ·exact ab h (by omega)
 refine az (ah ?_);apply aP rfl<;>intro h
 ·exact ab h (by omega)
 refine az (ah ?_);apply aP rfl<;>intro h
 ·exact ab h (by omega)
 refine cC (ah ?_);apply aP rfl<;>intro h
 ·exact ab h (by omega)
 refine az (ah ?_);apply aP rfl<;>intro h
 ·refine aU ?_;simp -dsimp only[simprocAttr,↓aa,zp,kW,Mr];refine⟨ob (by kernel_rfl),?_⟩;refine ah ?_;refine aq ?_;simp -dsimp only[simprocAttr,↓aa,zp,zr,Tryz.results117];simp[av,ae.upto,h2,h4]
 exact af h (by omega)
theorem wS(i:Ins):bq Tryz.prog 117 [i.enc] (.cx [aI (bm i).1,.v (.bool (bm i).2)]):=by
 by_cases h0:i.op=0
 ·exact DL i h0
 by_cases h1:(1<=i.op∧i.op<=7)∨i.op=16∨i.op=18∨i.op=19∨i.op=21∨i.op=23
 ·exact DM i h1
 by_cases h2:i.op=20
 ·exact DN i h2
 by_cases h3:i.op=10∨i.op=11∨i.op=12∨i.op=15∨i.op=17∨i.op=24
 ·exact DO i h3
 by_cases h4:i.op=8∨i.op=9∨i.op=13∨i.op=14
 ·exact DP i h4
 by_cases h5:i.op=22
 ·exact DQ i h5
 have hr:bm i=(0,false):=by
  unfold bm;rw[if_neg (by omega),if_neg (by omega),if_neg (by omega),if_neg (by omega),if_neg (by omega),if_neg (by omega)]
 rw[hr];refine zf true 0 Tryz.func117 Tryz.ntmps117 ?_;dsimp only[Tmp,TypeId,slotsOf];refine az (ah ?_);refine ck (ah ?_);refine ag ?_;refine az (ah ?_);apply aP rfl<;>intro h
 ·exact ab h (by omega)
 refine ck (ah ?_);apply aP rfl<;>intro h
 ·exact ab h (by omega)
 refine az (ah ?_);apply aP rfl<;>intro h
 ·exact ab h (by omega)
 refine az (ah ?_);apply aP rfl<;>intro h
 ·exact ab h (by omega)
 refine az (ah ?_);apply aP rfl<;>intro h
 ·exact ab h (by omega)
 refine az (ah ?_);apply aP rfl<;>intro h
 ·exact ab h (by omega)
 refine az (ah ?_);apply aP rfl<;>intro h
 ·exact ab h (by omega)
 refine az (ah ?_);apply aP rfl<;>intro h
 ·exact ab h (by omega)
 refine az (ah ?_);apply aP rfl<;>intro h
 ·exact ab h (by omega)
 refine az (ah ?_);apply aP rfl<;>intro h
 ·exact ab h (by omega)
 refine az (ah ?_);apply aP rfl<;>intro h
 ·exact ab h (by omega)
 refine az (ah ?_);apply aP rfl<;>intro h
 ·exact ab h (by omega)
 refine cC (ah ?_);apply aP rfl<;>intro h
 ·exact ab h (by omega)
 refine az (ah ?_);apply aP rfl<;>intro h
 ·exact ab h (by omega)
 refine ck (ah ?_);apply aP rfl<;>intro h
 ·exact ab h (by omega)
 refine az (ah ?_);apply aP rfl<;>intro h
 ·exact ab h (by omega)
 refine az (ah ?_);apply aP rfl<;>intro h
 ·exact ab h (by omega)
 refine az (ah ?_);apply aP rfl<;>intro h
 ·exact ab h (by omega)
 refine az (ah ?_);apply aP rfl<;>intro h
 ·exact ab h (by omega)
 refine cC (ah ?_);apply aP rfl<;>intro h
 ·exact ab h (by omega)
 refine ck (ah ?_);apply aP rfl<;>intro h
 ·exact ab h (by omega)
 refine az (ah ?_);apply aP rfl<;>intro h
 ·exact ab h (by omega)
 refine az (ah ?_);apply aP rfl<;>intro h
 ·exact ab h (by omega)
 refine cC (ah ?_);apply aP rfl<;>intro h
 ·exact ab h (by omega)
 refine az (ah ?_);apply aP rfl<;>intro h
 ·exact ab h (by omega)
 refine lX ?_;refine az (ah ?_);refine aq ?_;simp -dsimp only[simprocAttr,↓aa,zp,zr,Tryz.results117];simp[av,ae.upto]
theorem JL(i:Ins)(jN:i.op=0):bq Tryz.prog 118 [i.enc] (.v (.bool (cq i))):=by
 have hr:cq i=decide (fA i.n):=by
  unfold cq;rw[if_pos (by omega)]
 rw[hr];refine zf true 0 Tryz.func118 Tryz.ntmps118 ?_;dsimp only[Tmp,TypeId,slotsOf];refine az (ah ?_);refine ck (ah ?_);refine ag ?_;refine az (ah ?_);apply aP rfl<;>intro h
 ·refine az ?_;refine zi (sS i.n) ?_;refine ah ?_;refine aq ?_;simp -dsimp only[simprocAttr,↓aa,zp,zr,Tryz.results118]
 exact af h (by omega)
theorem JM(i:Ins)(jN:i.op=8):bq Tryz.prog 118 [i.enc] (.v (.bool (cq i))):=by
 have hr:cq i=within i.n 0 255:=by
  unfold cq;rw[if_neg (by omega),if_pos (by omega)]
 rw[hr];refine zf true 0 Tryz.func118 Tryz.ntmps118 ?_;dsimp only[Tmp,TypeId,slotsOf];refine az (ah ?_);refine ck (ah ?_);refine ag ?_;refine az (ah ?_);apply aP rfl<;>intro h
 ·exact ab h (by omega)
 refine az (ah ?_);apply aP rfl<;>intro h
 ·refine az ?_;refine zi (dJ i.n 0 255) ?_;refine ah ?_;refine aq ?_;simp -dsimp only[simprocAttr,↓aa,zp,zr,Tryz.results118]
 exact af h (by omega)
theorem JN(i:Ins)(jN:i.op=11):bq Tryz.prog 118 [i.enc] (.v (.bool (cq i))):=by
 have hr:cq i=within i.n 0 15:=by
  unfold cq;rw[if_neg (by omega),if_neg (by omega),if_pos (by omega)]
 rw[hr];refine zf true 0 Tryz.func118 Tryz.ntmps118 ?_;dsimp only[Tmp,TypeId,slotsOf];refine az (ah ?_);refine ck (ah ?_);refine ag ?_;refine az (ah ?_);apply aP rfl<;>intro h
 ·exact ab h (by omega)
 refine az (ah ?_);apply aP rfl<;>intro h
 ·exact ab h (by omega)
 refine az (ah ?_);apply aP rfl<;>intro h
 ·refine az ?_;refine zi (dJ i.n 0 15) ?_;refine ah ?_;refine aq ?_;simp -dsimp only[simprocAttr,↓aa,zp,zr,Tryz.results118]
 exact af h (by omega)
theorem JO(i:Ins)(jN:i.op=9∨i.op=13):bq Tryz.prog 118 [i.enc] (.v (.bool (cq i))):=by
 have hr:cq i=within i.n 0 255:=by
  unfold cq;rw[if_neg (by omega),if_neg (by omega),if_neg (by omega),if_pos (by omega)]
 rw[hr];refine zf true 0 Tryz.func118 Tryz.ntmps118 ?_;dsimp only[Tmp,TypeId,slotsOf];refine az (ah ?_);refine ck (ah ?_);refine ag ?_;refine az (ah ?_);apply aP rfl<;>intro h
 ·exact ab h (by omega)
 refine az (ah ?_);apply aP rfl<;>intro h
 ·exact ab h (by omega)
 refine az (ah ?_);apply aP rfl<;>intro h
 ·exact ab h (by omega)
 refine ck (ah ?_);refine iz (⟨51,[(1,.mp 0 0),(2,.v (.bool false)),(4,aI i.op),(20,.v (.bool true))],[.cells [aI i.to,aI i.op,aI i.n,a7 i.args]]⟩) ?_ ?_
 ·apply aP rfl<;>intro h
  ·refine ba ?_;show bj _ _;refine zq rfl ?_ ?_;simp -dsimp only[simprocAttr,↓aa,zp,zc]
   ·exact Sub.of_eq (by rw[h])
   rfl
  refine cC ?_;refine aV ?_;show bj _ _;refine zq rfl ?_ ?_;simp -dsimp only[simprocAttr,↓aa,zp,zc]
  ·exact Sub.of_eq (by rw[decide_eq_true (show i.op=13 by simp only[decide_eq_false_iff_not]at *;omega)])
  rfl
 refine cY rfl ?_;refine az ?_;refine zi (dJ i.n 0 255) ?_;refine ah ?_;refine aq ?_;simp -dsimp only[simprocAttr,↓aa,zp,zr,Tryz.results118]
theorem JP(i:Ins)(jN:i.op=23):bq Tryz.prog 118 [i.enc] (.v (.bool (cq i))):=by
 have hr:cq i=decide (i.n=1∨i.n=2∨i.n=3):=by
  unfold cq;rw[if_neg (by omega),if_neg (by omega),if_neg (by omega),if_neg (by omega),if_pos (by omega)]
 rw[hr];by_cases h1:i.n=1
 ·have ni:decide (i.n=1)=true:=decide_eq_true h1;refine zf true 0 Tryz.func118 Tryz.ntmps118 ?_;dsimp only[Tmp,TypeId,slotsOf];refine az (ah ?_);refine ck (ah ?_);refine ag ?_;refine az (ah ?_);apply aP rfl<;>intro h
  ·exact ab h (by omega)
  refine az (ah ?_);apply aP rfl<;>intro h
  ·exact ab h (by omega)
  refine az (ah ?_);apply aP rfl<;>intro h
  ·exact ab h (by omega)
  refine ck (ah ?_);apply aP rfl<;>intro h
  ·exact ab h (by omega)
  refine cC (ah ?_);apply aP rfl<;>intro h
  ·exact ab h (by omega)
  refine az (ah ?_);apply aP rfl<;>intro h
  ·refine aU ?_;simp -dsimp only[simprocAttr,↓aa,zp,ni];refine ah ?_;refine aq ?_;simp -dsimp only[simprocAttr,↓aa,zp,zr,Tryz.results118];simp[h1]
  exact af h (by omega)
 have ni:decide (i.n=1)=false:=decide_eq_false h1;by_cases h2:i.n=2
 ·have kW:decide (i.n=2)=true:=decide_eq_true h2;refine zf true 0 Tryz.func118 Tryz.ntmps118 ?_;dsimp only[Tmp,TypeId,slotsOf];refine az (ah ?_);refine ck (ah ?_);refine ag ?_;refine az (ah ?_);apply aP rfl<;>intro h
  ·exact ab h (by omega)
  refine az (ah ?_);apply aP rfl<;>intro h
  ·exact ab h (by omega)
  refine az (ah ?_);apply aP rfl<;>intro h
  ·exact ab h (by omega)
  refine ck (ah ?_);apply aP rfl<;>intro h
  ·exact ab h (by omega)
  refine cC (ah ?_);apply aP rfl<;>intro h
  ·exact ab h (by omega)
  refine az (ah ?_);apply aP rfl<;>intro h
  ·refine aU ?_;simp -dsimp only[simprocAttr,↓aa,zp,ni,kW];refine ah ?_;refine aq ?_;simp -dsimp only[simprocAttr,↓aa,zp,zr,Tryz.results118];simp[h2]
  exact af h (by omega)
 have kW:decide (i.n=2)=false:=decide_eq_false h2;refine zf true 0 Tryz.func118 Tryz.ntmps118 ?_;dsimp only[Tmp,TypeId,slotsOf];refine az (ah ?_);refine ck (ah ?_);refine ag ?_;refine az (ah ?_);apply aP rfl<;>intro h
 ·exact ab h (by omega)
 refine az (ah ?_);apply aP rfl<;>intro h
 ·exact ab h (by omega)
 refine az (ah ?_);apply aP rfl<;>intro h
 ·exact ab h (by omega)
 refine ck (ah ?_);apply aP rfl<;>intro h
 ·exact ab h (by omega)
 refine cC (ah ?_);apply aP rfl<;>intro h
 ·exact ab h (by omega)
 refine az (ah ?_);apply aP rfl<;>intro h
 ·refine aU ?_;simp -dsimp only[simprocAttr,↓aa,zp,ni,kW];refine ah ?_;refine aq ?_;simp -dsimp only[simprocAttr,↓aa,zp,zr,Tryz.results118];simp[h1,h2]
 exact af h (by omega)
theorem JQ(i:Ins)(jN:i.op=24):bq Tryz.prog 118 [i.enc] (.v (.bool (cq i))):=by
 have hr:cq i=within i.n 0 3:=by
  unfold cq;rw[if_neg (by omega),if_neg (by omega),if_neg (by omega),if_neg (by omega),if_neg (by omega),if_pos (by omega)]
 rw[hr];refine zf true 0 Tryz.func118 Tryz.ntmps118 ?_;dsimp only[Tmp,TypeId,slotsOf];refine az (ah ?_);refine ck (ah ?_);refine ag ?_;refine az (ah ?_);apply aP rfl<;>intro h
 ·exact ab h (by omega)
 refine az (ah ?_);apply aP rfl<;>intro h
 ·exact ab h (by omega)
 refine az (ah ?_);apply aP rfl<;>intro h
 ·exact ab h (by omega)
 refine ck (ah ?_);apply aP rfl<;>intro h
 ·exact ab h (by omega)
 refine cC (ah ?_);apply aP rfl<;>intro h
 ·exact ab h (by omega)
 refine az (ah ?_);apply aP rfl<;>intro h
 ·exact ab h (by omega)
 refine az (ah ?_);apply aP rfl<;>intro h
 ·refine az ?_;refine zi (dJ i.n 0 3) ?_;refine ah ?_;refine aq ?_;simp -dsimp only[simprocAttr,↓aa,zp,zr,Tryz.results118]
 exact af h (by omega)
theorem JR(i:Ins)(jN:i.op=22):bq Tryz.prog 118 [i.enc] (.v (.bool (cq i))):=by
 have hr:cq i=true:=by
  unfold cq;rw[if_neg (by omega),if_neg (by omega),if_neg (by omega),if_neg (by omega),if_neg (by omega),if_neg (by omega),if_pos (by omega)]
 rw[hr];refine zf true 0 Tryz.func118 Tryz.ntmps118 ?_;dsimp only[Tmp,TypeId,slotsOf];refine az (ah ?_);refine ck (ah ?_);refine ag ?_;refine az (ah ?_);apply aP rfl<;>intro h
 ·exact ab h (by omega)
 refine az (ah ?_);apply aP rfl<;>intro h
 ·exact ab h (by omega)
 refine az (ah ?_);apply aP rfl<;>intro h
 ·exact ab h (by omega)
 refine ck (ah ?_);apply aP rfl<;>intro h
 ·exact ab h (by omega)
 refine cC (ah ?_);apply aP rfl<;>intro h
 ·exact ab h (by omega)
 refine az (ah ?_);apply aP rfl<;>intro h
 ·exact ab h (by omega)
 refine az (ah ?_);apply aP rfl<;>intro h
 ·exact ab h (by omega)
 refine az (ah ?_);apply aP rfl<;>intro h
 ·refine az (ah ?_);refine aq ?_;simp -dsimp only[simprocAttr,↓aa,zp,zr,Tryz.results118]
 exact af h (by omega)
theorem Bp(i:Ins):bq Tryz.prog 118 [i.enc] (.v (.bool (cq i))):=by
 by_cases h0:i.op=0
 ·exact JL i h0
 by_cases h1:i.op=8
 ·exact JM i h1
 by_cases h2:i.op=11
 ·exact JN i h2
 by_cases h3:i.op=9∨i.op=13
 ·exact JO i h3
 by_cases h4:i.op=23
 ·exact JP i h4
 by_cases h5:i.op=24
 ·exact JQ i h5
 by_cases h6:i.op=22
 ·exact JR i h6
 have hr:cq i=decide (i.n=0):=by
  unfold cq;rw[if_neg (by omega),if_neg (by omega),if_neg (by omega),if_neg (by omega),if_neg (by omega),if_neg (by omega),if_neg (by omega)]
 rw[hr];refine zf true 0 Tryz.func118 Tryz.ntmps118 ?_;dsimp only[Tmp,TypeId,slotsOf];refine az (ah ?_);refine ck (ah ?_);refine ag ?_;refine az (ah ?_);apply aP rfl<;>intro h
 ·exact ab h (by omega)
 refine az (ah ?_);apply aP rfl<;>intro h
 ·exact ab h (by omega)
 refine az (ah ?_);apply aP rfl<;>intro h
 ·exact ab h (by omega)
 refine ck (ah ?_);apply aP rfl<;>intro h
 ·exact ab h (by omega)
 refine cC (ah ?_);apply aP rfl<;>intro h
 ·exact ab h (by omega)
 refine az (ah ?_);apply aP rfl<;>intro h
 ·exact ab h (by omega)
 refine az (ah ?_);apply aP rfl<;>intro h
 ·exact ab h (by omega)
 refine az (ah ?_);apply aP rfl<;>intro h
 ·exact ab h (by omega)
 refine lX ?_;refine az (ah ?_);refine aq ?_;simp -dsimp only[simprocAttr,↓aa,zp,zr,Tryz.results118]
def AR(i:Ins)(many:Int)(known:Bool):Bool:=(!known ||(decide (0<=many)&&!decide ((i.args.length:Int)=many))) ||(decide (i.op=14)&&decide ((i.args.length:Int)=0))
def uQ(i:Ins):Bool:=(decide (i.op=8) ||decide (i.op=9))&&decide ((16:Int)<i.args.length)
def AS(i:Ins):Bool:=(decide (i.op=13) ||decide (i.op=14))&&decide ((6:Int)<i.args.length)
def lu(i:Ins):Int:=if AR i (bm i).1 (bm i).2 then 3 else if uQ i ||AS i then 2 else if cq i then 0 else 4
theorem F9(i:Ins):bq Tryz.prog 87 [i.enc] (aI (lu i)):=by
 have jN:=wS i;have Wx:=Bp i;unfold lu;generalize bm i=r at *;obtain⟨many,known⟩:=r;simp only at jN ⊢;generalize cq i=nb at *;refine zf true 0 Tryz.func87 Tryz.ntmps87 ?_;dsimp only[Tmp,TypeId,slotsOf];refine az (ah ?_);refine az ?_;refine zi jN ?_;refine ah ?_;refine aG (ag ?_);refine km (⟨68,[(1,.mp 0 0),(2,aI 0),(10,.v (.bool (AR i many known)))],[.cells [aI i.to,aI i.op,aI i.n,a7 i.args]]⟩) ?_ ?_
 ·cases known<;>cases hA:decide ((0:Int)<=many)<;>cases hB:decide ((i.args.length:Int)=many)<;>cases hC:decide (i.op=14)<;>cases hD:decide ((i.args.length:Int)=0)
  all_goals
   refine fE hT hm ?_;simp -dsimp only[simprocAttr,↓aa,zp,hA,hB,hC,hD];refine aV ?_;show bj _ _;refine zq rfl ?_ ?_;simp -dsimp only[simprocAttr,↓aa,zp,zc]
   ·exact Sub.of_eq (by unfold AR;rw[hA,hB,hC,hD];rfl)
   rfl
 cases hfa:AR i many known
 ·refine cm rfl ?_;refine km (⟨68,[(1,.mp 0 0),(2,aI 0),(35,.v (.bool (uQ i ||AS i)))],[.cells [aI i.to,aI i.op,aI i.n,a7 i.args]]⟩) ?_ ?_
  ·refine km (⟨68,[(1,.mp 0 0),(2,aI 0),(35,.v (.bool (uQ i)))],[.cells [aI i.to,aI i.op,aI i.n,a7 i.args]]⟩) ?_ ?_
   ·cases hA:decide (i.op=8)<;>cases hB:decide (i.op=9)<;>cases hC:decide ((16:Int)<i.args.length)
    all_goals
     refine fE hT hm ?_;simp -dsimp only[simprocAttr,↓aa,zp,hA,hB,hC];refine aV ?_;show bj _ _;refine zq rfl ?_ ?_;simp -dsimp only[simprocAttr,↓aa,zp,zc]
     ·exact Sub.of_eq (by unfold uQ;rw[hA,hB,hC];rfl)
     rfl
   cases hfb:uQ i
   ·refine cm rfl ?_;cases hA:decide (i.op=13)<;>cases hB:decide (i.op=14)<;>cases hC:decide ((6:Int)<i.args.length)
    all_goals
     refine fE hT hm ?_;simp -dsimp only[simprocAttr,↓aa,zp,hA,hB,hC];refine aV ?_;show bj _ _;refine zq rfl ?_ ?_;simp -dsimp only[simprocAttr,↓aa,zp,zc]
     ·exact Sub.of_eq (by unfold AS;rw[hA,hB,hC];rfl)
     rfl
   refine cY rfl ?_;refine ba ?_;show bj _ _;refine zq rfl ?_ ?_;simp -dsimp only[simprocAttr,↓aa,zp,zc]
   ·exact Sub.refl _
   rfl
  cases ZE:(uQ i ||AS i)
  ·refine cm rfl ?_;refine az ?_;refine zi Wx ?_;refine ah ?_;cases hnb:nb
   ·refine cY rfl ?_;refine az (ah ?_);refine aq ?_;simp -dsimp only[simprocAttr,↓aa,zp,zr,Tryz.results87]
   refine cm rfl ?_;refine lX ?_;refine az (ah ?_);refine aq ?_;simp -dsimp only[simprocAttr,↓aa,zp,zr,Tryz.results87]
  refine cY rfl ?_;refine az (ah ?_);refine aq ?_;simp -dsimp only[simprocAttr,↓aa,zp,zr,Tryz.results87]
 refine cY rfl ?_;refine az (ah ?_);refine aq ?_;simp -dsimp only[simprocAttr,↓aa,zp,zr,Tryz.results87]
theorem dr{O:List ai}{k:Nat}{y:ai}(h:O[k]?=some y)(x:ai):(O.set k x)[k]?=some x:=List.getElem?_set_self (I h)
theorem bo{O:List ai}{n k:Nat}{cs ds:List ae}(h:∀o∈O,o.upto n)(hk:O[k]?=some (.cells cs))(hd:av n cs->av n ds):∀o∈O.set k (.cells ds),o.upto n :=
 bg h (hd (h _ (List.mem_of_getElem? hk)))
theorem bU{n:Nat}{u v:cu}{m p:Mach}(h:av n (aA u m))(hs:p.sid=m.sid):av n (aA v p):=by
 simp only[aA,av,ae.upto,ax,Func.ak,true_and,and_true]at h ⊢;rw[hs];exact h
theorem o7(m:Mach)(n:Int):(m.fI n).sid=m.sid:=by
 unfold Mach.fI;split<;>rfl
theorem vo{u:cu}{m:Mach}{O:List ai}(br:∀o∈O,o.upto O.length)(h0:O[2]?=some (.cells (aA u m)))(n:Int)(h1:0<=m.left)(h2:m.left<=2 ^ 40)(h3:0<=n) :
  bh Tryz.prog 82 O [.mp 2 0,aI n] (fun r O'=>r=.cx []∧O'=O.set 2 (.cells (aA u (m.fI n)))):=by
 have hs:=dr h0;have mj:=bo br h0 (ds:=aA u (m.fI n)) (fun h=>bU h (o7 m n));have jf:=b6 (O:=O) (k:=2) (x:=.cells (aA u (m.fI n)));unfold aA at h0;by_cases hc:m.left<n
 ·have hd:decide (m.left<n)=true:=decide_eq_true hc;have hp:[b8 u.fns,aI u.main,.os m.sid m.frames.length 1,aI m.left,.v (.bool true),.v (.bool true),.aB 1 (m.out.map aI) (.tok 3),aI m.fin,aI m.val]=aA u (m.fI n):=by
   simp[Mach.fI,hc,aA]
  refine zf true O.length Tryz.func82 Tryz.ntmps82 ?_;dsimp only[Tmp,TypeId,slotsOf];refine cK ?_;simp -dsimp only[simprocAttr,↓aa,zp,h0];refine ah ?_;apply aP rfl<;>intro h
  ·refine aU ?_;simp -dsimp only[simprocAttr,↓aa,zp,h0,hs,List.set_set,hp];refine ah ?_;refine aq ?_;simp -dsimp only[simprocAttr,↓aa,zp,zr,Tryz.results82,jf,List.length_set];exact⟨mj,trivial⟩
  simp[hd]at h
 have hd:decide (m.left<n)=false:=decide_eq_false hc;have hp:[b8 u.fns,aI u.main,.os m.sid m.frames.length 1,aI (m.left-n),.v (.bool m.short),.v (.bool m.over),.aB 1 (m.out.map aI) (.tok 3),aI m.fin,aI m.val]=aA u (m.fI n):=by
  simp[Mach.fI,hc,aA]
 refine zf true O.length Tryz.func82 Tryz.ntmps82 ?_;dsimp only[Tmp,TypeId,slotsOf];refine cK ?_;simp -dsimp only[simprocAttr,↓aa,zp,h0];refine ah ?_;apply aP rfl<;>intro h
 ·simp[hd]at h
 refine ct ?_;refine jD ?_;simp -dsimp only[simprocAttr,↓aa,zp,h0,hs,List.set_set,hp]
 repeat(refine⟨by omega,?_⟩)
 refine aV ?_;simp -dsimp only[simprocAttr,↓aa,zp,zr,Tryz.results82,jf,List.length_set];exact⟨mj,trivial⟩
theorem kA{u:cu}{m:Mach}{O:List ai}(br:∀o∈O,o.upto O.length)(h0:O[2]?=some (.cells (aA u m)))(e n:Int) :
  bh Tryz.prog 114 O [.mp 2 0,aI e,aI n] (fun r O'=>r=.cx []∧O'=O.set 2 (.cells (aA u (m.stop e n)))):=by
 have hs:=dr h0;have mj:=bo br h0 (ds:=aA u (m.stop e n)) (fun h=>bU h rfl);have jf:=b6 (O:=O) (k:=2) (x:=.cells (aA u (m.stop e n)));unfold aA at h0;have hp:[b8 u.fns,aI u.main,.os m.sid m.frames.length 1,aI m.left,.v (.bool m.short),.v (.bool true),.aB 1 (m.out.map aI) (.tok 3),aI e,aI n]=aA u (m.stop e n):=rfl;refine zf true O.length Tryz.func114 Tryz.ntmps114 ?_;dsimp only[Tmp,TypeId,slotsOf];refine aU ?_;simp -dsimp only[simprocAttr,↓aa,zp,h0];refine ah ?_;refine jD ?_;simp -dsimp only[simprocAttr,↓aa,zp,hs,List.set_set,hp];refine aV ?_;simp -dsimp only[simprocAttr,↓aa,zp,zr,Tryz.results114,jf,List.length_set];exact⟨mj,trivial⟩
theorem mI{sz:Nat}{xs:List ae}(h:∀x∈xs,x.cells.length=sz){k:Nat}(hk:k<xs.length){y:ae}(hy:y.cells.length=sz):bp (al xs) (k*sz) y.cells=al (xs.set k y):=by
 induction xs generalizing k with
 | nil=>simp at hk
 | cons p r ih =>
  have hp:=h p (by simp);cases k with
  | zero =>
   simp only[List.set_cons_zero,al,List.flatMap_cons,bp,Nat.zero_mul,List.take_zero,List.nil_append,Nat.zero_add,hy];rw[List.drop_append_of_le_length (by omega),List.drop_of_length_le (by omega)];rfl
  | succ k =>
   have:=ih (fun x hx=>h x (by simp[hx])) (k:=k) (by simpa using hk);have e1:(k+1)*sz-sz=k*sz:=by rw[Nat.succ_mul];omega
   have e2:(k+1)*sz+sz-sz=k*sz+sz:=by rw[Nat.succ_mul];omega
   have e3:sz<=(k+1)*sz:=by rw[Nat.succ_mul];omega
   simp only[List.set_cons_succ,al,List.flatMap_cons,bp,hy]at this ⊢;rw[List.take_append,List.drop_append,hp,List.take_of_length_le (by omega),List.drop_of_length_le (by omega),e1,e2,List.nil_append,List.append_assoc,this]
def jU(es:List (Int×SV))(k:Int):ae:=(Option.map SV.enc (iL es k)).getD (.agg [aI 0,aI 0,.aB 4 [] .ex,.v (.pointer none)])
theorem vw(es:List (Int×SV))(k:Int):(jU es k).share=(iI es k).enc:=by
 unfold jU iI;cases iL es k with
 | none=>rfl
 | some v=>exact v.an
theorem fp(es:List (Int×SV))(k:Int):(jU es k).cells.length=4:=by
 unfold jU;cases iL es k with
 | none=>rfl
 | some v=>exact v.c7
theorem jm(es:List (Int×SV))(k:Int):(jU es k).flat:=by
 unfold jU;cases iL es k with
 | none=>trivial
 | some v=>exact v.au
def rD(es:List (Int×SV))(l:List Int)(k:Nat):List ae:=(l.take k).map (jU es)++List.replicate (l.length-k) (.agg [aI 0,aI 0,.aB 4 [] .ex,.v (.pointer none)])
theorem vB{es:List (Int×SV)}{l:List Int}{k:Nat}(h:k<=l.length):(rD es l k).length=l.length:=by
 simp[rD];omega
theorem qk{es:List (Int×SV)}{l:List Int}{k:Nat}:∀x∈rD es l k,x.cells.length=4:=fun x hx=>by
 simp only[rD,List.mem_append,List.mem_map,List.mem_replicate]at hx;rcases hx with⟨v,_,rfl⟩|⟨_,rfl⟩
 ·exact fp es v
 rfl
theorem Hf(es:List (Int×SV))(l:List Int):al (rD es l 0)=(List.replicate l.length [aI 0,aI 0,.aB 4 [] .ex,.v (.pointer none)]).flatten:=by
 simp[rD,al,List.flatMap,ae.cells]
theorem He{es:List (Int×SV)}{l:List Int}{k:Nat}{v:Int}(h:l[k]?=some v):(rD es l k).set k (jU es v)=rD es l (k+1):=by
 have a8:=I h;obtain⟨j,hj⟩:∃j,l.length-k=j+1:=⟨l.length-k-1,by omega⟩
 have e:l.take (k+1)=l.take k++[v]:=by rw[List.take_add_one,h];rfl
 have ek:((l.take k).map (jU es)).length=k:=by simp;omega
 unfold rD;rw[e,hj,show l.length-(k+1)=j by omega,List.set_append_right _ _ (by omega),ek,Nat.sub_self];simp[List.replicate_succ]
theorem J'(es:List (Int×SV))(l:List Int):(al (rD es l l.length)).map ae.bf=al ((fY es l).map SV.enc):=by
 rw[<-fk];simp only[rD,Nat.sub_self,List.replicate_zero,List.append_nil,List.take_length,fY,List.map_map];congr 1;apply List.map_congr_left;intro v _;exact vw es v
theorem je{es:List (Int×SV)}{n:Nat}(h:∀e∈es,SV.bk n e.2)(k:Int):SV.bk n (iI es k):=by
 unfold iI;cases hl:iL es k with
 | none=>exact .mk (by simp) (by simp)
 | some v =>
  obtain⟨e,h1,rfl⟩:=xM hl;exact h e h1
theorem oy{es:List (Int×SV)}{n:Nat}(h:∀e∈es,SV.bk n e.2)(l:List Int):∀v∈fY es l,SV.bk n v:=fun v hv=>by
 obtain⟨k,_,rfl⟩:=List.mem_map.1 hv;exact je h k
theorem jq{f:Fr}{O:List ai}(br:∀o∈O,o.upto O.length)(hf:O[f.bT]?=some (.cells (aS f)))(hv:O[f.dt]?=some (.map (.int .i64) (f.vals.map gv)))(hu:∀e∈f.vals,SV.bk O.length e.2)(l:List Int)(hl:l.length<=4096) :
  bh Tryz.prog 113 O [.mp f.bT 0,a7 l] (fun r O'=>r=.aB 4 ((fY f.vals l).map SV.enc) .sh∧O'=O):=by
 have dZ:=SV.ak (oy hu l);have gG:∀X:List ai,(O++X)[f.bT]?=some (.cells (aS f)):=fun X=>bS hf;have R9:∀X:List ai,(O++X)[f.dt]?=some (.map (.int .i64) (f.vals.map gv)):=fun X=>bS hv;unfold aS at gG;refine zf true O.length Tryz.func113 Tryz.ntmps113 ?_;dsimp only[Tmp,TypeId,slotsOf];refine az (ah ?_);refine az ?_
 repeat(refine⟨by omega,?_⟩)
 refine ah ?_;refine ck (ah ?_);refine ag (aM (ι:={k:Nat // k<=l.length}) (fun k=>⟨29,[(0,.mp f.bT 0),(5,.ms O.length 0 l.length l.length),(11,a7 l),(12,aI l.length),(13,aI k.1)],O++[.cells (al (rD f.vals l k.1))]⟩) (fun k=>l.length-k.1) ⟨0,by omega⟩ ?_ ?_)
 ·refine zq rfl ?_ ?_;simp -dsimp only[simprocAttr,↓aa,zp,zc];rw[Hf]
 rintro⟨k,hk⟩;refine az (ah ?_);apply ic rfl<;>intro h
 ·refine ct ?_;have a8:k<l.length:=by simpa using h
  obtain⟨v,vW⟩:∃v,l[k]?=some v:=⟨l[k],by simp[a8]⟩
  have nT:(Option.map SV.enc (iL f.vals v)).getD (.agg [aI 0,aI 0,.aB 4 [] .ex,.v (.pointer none)])=jU f.vals v:=rfl;have dq:=bV (qk (es:=f.vals) (l:=l) (k:=k));rw[vB hk]at dq;have ga:=mI (qk (es:=f.vals) (l:=l) (k:=k)) (k:=k) (by rw[vB hk];exact a8) (fp f.vals v);rw[He vW]at ga;have hn:=dI O (ai.cells (al (rD f.vals l k)));have dG:=fun y=>vF O (ai.cells (al (rD f.vals l k))) y;refine aG (ag ?_);refine aU ?_;simp -dsimp only[simprocAttr,↓aa,zp,vW];refine ah ?_;refine jD ?_;simp -dsimp only[simprocAttr,↓aa,zp,gG,R9,mn,nT,hn,dG,jm,fp,dq,ga]
  repeat(refine⟨by omega,?_⟩)
  refine ah ?_;refine cC ?_
  repeat(refine⟨by omega,?_⟩)
  refine eX ?_;refine⟨⟨k+1,a8⟩,by simp;omega,?_⟩;refine zq rfl ?_ ?_;simp -dsimp only[simprocAttr,↓aa,zp,zc]
  ·exact Sub.int (by simp)
  rfl
 refine aF ?_;simp -dsimp only[bF,ne_eq,Nat.reduceEqDiff,reduceCtorEq];have ik:k=l.length:=by simp at h;omega
 subst ik;refine Cr 5 (sz:=4) ((fY f.vals l).map SV.enc) [(5,.aB 4 ((fY f.vals l).map SV.enc) .sh)] rfl ?_ ?_ ?_ (by omega) (by simp[bt,bc,Go.Av.look]) ?_ ?_ ?_
 ·intro x hx;obtain⟨y,_,rfl⟩:=List.mem_map.1 hx;exact y.c7
 ·simp[fY]
 ·rw[<-J',List.take_of_length_le];rw[bV qk,vB hk];exact Nat.le_refl _
 ·exact br
 ·intro p hp;simp only[List.mem_singleton]at hp;subst hp;exact⟨dZ,trivial⟩
 refine az (ah ?_);refine aq ?_;simp -dsimp only[simprocAttr,↓aa,zp,zr,Tryz.results113,List.take_length];exact⟨br,dZ⟩
theorem cR(n:Int):bq Tryz.prog 132 [aI n] (SV.word n).enc:=by
 refine zf true 0 Tryz.func132 Tryz.ntmps132 ?_;dsimp only[Tmp,TypeId,slotsOf];refine az (ah ?_);refine az (ah ?_);refine aq ?_;simp -dsimp only[simprocAttr,↓aa,zp,zr,Tryz.results132];simp[SV.word,SV.jd,eP,av,ae.upto]
theorem vJ(b:Bool):bq Tryz.prog 151 [.v (.bool b)] (SV.word (if b then 1 else 0)).enc:=by
 have h1:=cR 1;have h0:=cR 0;have c1:(SV.word 1).enc.cells=[aI 0,aI 1,.aB 4 [] .sh,.v (.pointer none)]:=rfl;have c0:(SV.word 0).enc.cells=[aI 0,aI 0,.aB 4 [] .sh,.v (.pointer none)]:=rfl;refine zf true 0 Tryz.func151 Tryz.ntmps151 ?_;dsimp only[Tmp,TypeId,slotsOf];refine az (ah ?_);refine ck (ah ?_);apply aP rfl<;>intro h
 ·refine az ?_;refine .inl ⟨_,h1,by simp only[av,ae.upto,zt],ao ?_⟩;simp -dsimp only[simprocAttr,↓aa,zp,c1];refine ah ?_;refine aq ?_;simp -dsimp only[simprocAttr,↓aa,zp,zr,Tryz.results151];subst h;exact⟨by simp[av,ae.upto],rfl⟩
 refine ct ?_;refine az ?_;refine .inl ⟨_,h0,by simp only[av,ae.upto,zt],ao ?_⟩;simp -dsimp only[simprocAttr,↓aa,zp,c0];refine ah ?_;refine aq ?_;simp -dsimp only[simprocAttr,↓aa,zp,zr,Tryz.results151];subst h;exact⟨by simp[av,ae.upto],rfl⟩
theorem HR{O:List ai}(br:∀o∈O,o.upto O.length)(l:List SV)(hl:∀v∈l,SV.bk O.length v)(k:Int):bh Tryz.prog 133 O [.aB 4 (l.map SV.enc) .sh,aI k] (fun r O'=>r=.v (.bool (kC l k))∧O'=O):=by
 refine zf true O.length Tryz.func133 Tryz.ntmps133 ?_;dsimp only[Tmp,TypeId,slotsOf];refine az (ah ?_);refine ck (ah ?_);refine fh 7 rfl (fun hlen=>?_);simp only[List.length_map]at hlen;refine ag (aM (ι:={j:Nat // j<=l.length∧∀v∈l.take j,v.kind=k}) (fun j=>⟨18,[(1,aI k),(4,.v (.bool false)),(7,.aB 4 (l.map SV.enc) .sh),(8,aI l.length),(9,aI j.1)],O⟩) (fun j=>l.length-j.1) ⟨0,by omega,by simp⟩ ?_ ?_)
 ·refine zq rfl ?_ ?_;simp -dsimp only[simprocAttr,↓aa,zp,zc];rfl
 rintro⟨j,hj,cB⟩;refine az (ah ?_);apply ic rfl<;>intro h
 ·refine ct ?_;have a8:j<l.length:=by simpa using h
  obtain⟨v,hv⟩:∃v,l[j]?=some v:=⟨l[j],by simp[a8]⟩
  have nw:=(hl v (List.mem_of_getElem? hv)).aL;rw[SV.fG]at nw;refine aG (ag ?_);refine aU ?_;simp -dsimp only[simprocAttr,↓aa,zp,hv];refine ah ?_;refine aK 6 ([aI v.kind,aI v.n,.aB 4 (v.list.map SV.enc) .sh,eP v.arr]) [(1,aI k),(4,.v (.bool false)),(6,.ip none [aI v.kind,aI v.n,.aB 4 (v.list.map SV.enc) .sh,eP v.arr]),(7,.aB 4 (l.map SV.enc) .sh),(8,aI l.length),(9,aI j)] rfl (by simp only[List.map_cons,List.map_nil,cF,b9,dC,dD,dB,dz,dA,cg]) (by omega) (by simp[bt,bc,Go.Av.look]) ?_ ?_ ?_
  ·exact br
  ·intro p hp;simp only[List.mem_cons,List.mem_nil_iff,or_false]at hp;have Z8:=SV.ak hl;rcases hp with rfl|rfl|rfl|rfl|rfl|rfl
   ·trivial
   ·trivial
   ·exact nw
   ·exact⟨Z8,trivial⟩
   ·trivial
   trivial
  refine az (ah ?_);apply aP rfl<;>intro h
  ·refine az (ah ?_);refine aq ?_;simp -dsimp only[simprocAttr,↓aa,zp,zr,Tryz.results133];have hk:v.kind≠k:=by simpa using h
   refine⟨br,?_⟩;have:kC l k=false:=by
    simp only[kC,List.all_eq_false,decide_eq_true_eq];exact⟨v,List.mem_of_getElem? hv,hk⟩
   rw[this]
  refine lX ?_;have hk:v.kind=k:=by simpa using h
  refine cC ?_
  repeat(refine⟨by omega,?_⟩)
  refine eX ?_;refine⟨⟨j+1,a8,fun w hw=>?_⟩,by simp;omega,?_⟩
  ·rw[List.take_add_one,hv]at hw;simp only[Option.toList_some,List.mem_append,List.mem_singleton]at hw;rcases hw with hw|rfl
   ·exact cB w hw
   exact hk
  refine zq rfl ?_ ?_;simp -dsimp only[simprocAttr,↓aa,zp,zc]
  ·exact Sub.int (by simp)
  rfl
 refine aF ?_;simp -dsimp only[bF,ne_eq,Nat.reduceEqDiff,reduceCtorEq];have ik:j=l.length:=by simp at h;omega
 subst ik;refine az (ah ?_);refine aq ?_;simp -dsimp only[simprocAttr,↓aa,zp,zr,Tryz.results133];rw[List.take_length]at cB;refine⟨br,?_⟩;have:kC l k=true:=by
  simp only[kC,List.all_eq_true,decide_eq_true_eq];exact cB
 rw[this]
theorem yl{O:List ai}(br:∀o∈O,o.upto O.length)(l:List SV)(hl:∀v∈l,SV.bk O.length v)(k:Int)(X:List ai):bh Tryz.prog 133 (O++X) [.aB 4 (l.map SV.enc) .sh,aI k] (fun r O'=>r=.v (.bool (kC l k))∧O'=O++X) :=
 bh.frame (HR br l hl k) rfl ⟨⟨SV.ak hl,trivial⟩,trivial,trivial⟩ br X
theorem di(n:Int):(SV.word n).enc.cells=[aI 0,aI n,.aB 4 [] .sh,.v (.pointer none)]:=rfl
theorem vQ(k:Nat)(n:Int):SV.bk k (SV.word n):=.mk (by simp) (by simp)
theorem qo(k:Nat):SV.bk k SV.zero:=.mk (by simp) (by simp)
theorem lE{k:Nat}{n m:Int}:av k [(SV.word n).enc,.v (.int .i64 m)]:=⟨(vQ k n).aL,trivial,trivial⟩
theorem fu{k:Nat}{m:Int}:av k [SV.zero.enc,.v (.int .i64 m)]:=⟨(qo k).aL,trivial,trivial⟩
theorem eW(n:Int):ae.agg [aI 0,aI n,.aB 4 [] .sh,.v (.pointer none)]=(SV.word n).enc:=rfl
theorem cj:ae.agg [aI 0,aI 0,.aB 4 [] .sh,.v (.pointer none)]=SV.zero.enc:=rfl
theorem sG(op a b:Int)(ha:fA a)(hb:fA b):bq Tryz.prog 134 [aI op,aI a,aI b] (.cx [(db op a b).1.enc,aI (db op a b).2]):=by
 have q1:=HQ a b ha hb;have q2:=Kp a b ha hb;have q3:=JG a b ha hb;have q4:=fun h=>Ip a b ha hb h;have q5:=fun h=>JF a b ha hb h;refine zf true 0 Tryz.func134 Tryz.ntmps134 ?_;dsimp only[Tmp,TypeId,slotsOf];refine az (ah ?_);refine ck (ah ?_);refine ag ?_;refine az (ah ?_);apply aP rfl<;>intro h
 ·have e:op=1:=by simpa using h
  refine az ?_;refine .inl ⟨_,q1,by simp only[av,ae.upto,zt],ao ?_⟩;refine .inl ⟨_,cR _,by simp[av,ae.upto,tX],ao ?_⟩;simp -dsimp only[simprocAttr,↓aa,zp,di];refine ah ?_;refine aq ?_;simp -dsimp only[simprocAttr,↓aa,zp,zr,Tryz.results134,eW];simp[db,e,lE]
 have e1:op≠1:=by simpa using h
 refine az (ah ?_);apply aP rfl<;>intro h
 ·have e:op=2:=by simpa using h
  refine az ?_;refine .inl ⟨_,q2,by simp only[av,ae.upto,zt],ao ?_⟩;refine .inl ⟨_,cR _,by simp[av,ae.upto,tX],ao ?_⟩;simp -dsimp only[simprocAttr,↓aa,zp,di];refine ah ?_;refine aq ?_;simp -dsimp only[simprocAttr,↓aa,zp,zr,Tryz.results134,eW];simp[db,e,lE]
 have e2:op≠2:=by simpa using h
 refine az (ah ?_);apply aP rfl<;>intro h
 ·have e:op=3:=by simpa using h
  refine az ?_;refine .inl ⟨_,q3,by simp only[av,ae.upto,zt],ao ?_⟩;refine .inl ⟨_,cR _,by simp[av,ae.upto,tX],ao ?_⟩;simp -dsimp only[simprocAttr,↓aa,zp,di];refine ah ?_;refine aq ?_;simp -dsimp only[simprocAttr,↓aa,zp,zr,Tryz.results134,eW];simp[db,e,lE]
 have e3:op≠3:=by simpa using h
 refine az (ah ?_);apply aP rfl<;>intro h
 ·have e:op=6:=by simpa using h
  refine az ?_;refine .inl ⟨_,vJ _,by simp only[av,ae.upto,zt],ao ?_⟩;simp -dsimp only[simprocAttr,↓aa,zp,di];refine ah ?_;refine aq ?_;simp -dsimp only[simprocAttr,↓aa,zp,zr,Tryz.results134,eW];simp[db,e,lE]
 have e6:op≠6:=by simpa using h
 refine az (ah ?_);apply aP rfl<;>intro h
 ·have e:op=7:=by simpa using h
  refine az ?_;refine .inl ⟨_,vJ _,by simp only[av,ae.upto,zt],ao ?_⟩;simp -dsimp only[simprocAttr,↓aa,zp,di];refine ah ?_;refine aq ?_;simp -dsimp only[simprocAttr,↓aa,zp,zr,Tryz.results134,eW];simp[db,e,lE]
 have e7:op≠7:=by simpa using h
 refine lX ?_;refine ck (ah ?_);apply aP rfl<;>intro h
 ·have e:b=0:=by simpa using h
  refine az (ah ?_);refine aq ?_;simp -dsimp only[simprocAttr,↓aa,zp,zr,Tryz.results134,cj];simp[db,e1,e2,e3,e6,e7,e,fu]
 have e0:b≠0:=by simpa using h
 refine ct ?_;refine ck (ah ?_);apply aP rfl<;>intro h
 ·have e:op=4:=by simpa using h
  refine az ?_;refine zi (q4 e0) ?_;refine ah ?_;refine az ?_;refine .inl ⟨_,cR _,by simp only[av,ae.upto,zt],ao ?_⟩;simp -dsimp only[simprocAttr,↓aa,zp,di];refine ah ?_;refine aq ?_;simp -dsimp only[simprocAttr,↓aa,zp,zr,Tryz.results134,eW];simp[db,e,lE,e0]
 have e4:op≠4:=by simpa using h
 refine ct ?_;refine az ?_;refine zi (q5 e0) ?_;refine ah ?_;refine az ?_;refine .inl ⟨_,cR _,by simp only[av,ae.upto,zt],ao ?_⟩;simp -dsimp only[simprocAttr,↓aa,zp,di];refine ah ?_;refine aq ?_;simp -dsimp only[simprocAttr,↓aa,zp,zr,Tryz.results134,eW];simp[db,e1,e2,e3,e4,e6,e7,lE,e0]
theorem fD{l:List SV}{k:Nat}{v:SV}(h:l[k]?=some v):cw l k=v:=by simp[cw,h]
theorem vz{k:Nat}{v:SV}{m:Int}(h:SV.bk k v):av k [v.enc,.v (.int .i64 m)]:=⟨h.aL,trivial,trivial⟩
theorem m9{k:Nat}{v:SV}(h:SV.bk k v):∀x∈v.list,SV.bk k x:=by cases h;assumption
theorem Bq{O:List ai}(br:∀o∈O,o.upto O.length)(i:Ins)(args:List SV)(hl:∀v∈args,SV.bk O.length v)(o:SV)(h0:args[0]?=some o)
  (hp:i.op≠10->i.op≠11->i.op≠12->∃p,args[1]?=some p) (hn:i.op=11->0<=i.n) :
  bh Tryz.prog 135 O [i.enc,.aB 4 (args.map SV.enc) .sh] (fun r O'=>r=.cx [(cO i args).1.enc,aI (cO i args).2]∧O'=O):=by
 have U6:=hl o (List.mem_of_getElem? h0);have ha:=fD h0;refine zf true O.length Tryz.func135 Tryz.ntmps135 ?_;dsimp only[Tmp,TypeId,slotsOf];refine az (ah ?_);refine aU ?_;simp -dsimp only[simprocAttr,↓aa,zp,h0];refine ah ?_;refine aG (ag ?_);refine az (ah ?_);apply aP rfl<;>intro h
 ·have e:i.op=11:=by simpa using h
  by_cases hk:o.kind=1∨o.kind=2
  ·have hd:(decide (o.kind=1)=true)∨(decide (o.kind=1)=false∧decide (o.kind=2)=true):=by
    rcases hk with hk|hk
    ·exact .inl (decide_eq_true hk)
    exact .inr ⟨decide_eq_false (by omega),decide_eq_true hk⟩
   have U4:¬(o.kind≠1∧o.kind≠2):=by omega
   have z6:=hn e;by_cases hlen:(o.list.length:Int)<=i.n
   ·have mN:decide ((o.list.length:Int)<=i.n)=true:=decide_eq_true hlen;rcases hd with hd|⟨hd,kW⟩
    ·refine cK ?_;simp -dsimp only[simprocAttr,↓aa,zp,hd,mN];refine ah ?_;refine cY rfl ?_;refine az (ah ?_);refine aq ?_;simp -dsimp only[simprocAttr,↓aa,zp,zr,Tryz.results135,cj];refine⟨br,fu,?_⟩;simp[cO,e,ha,hlen]
    refine cK ?_;simp -dsimp only[simprocAttr,↓aa,zp,hd,kW,mN];refine ah ?_;refine cY rfl ?_;refine az (ah ?_);refine aq ?_;simp -dsimp only[simprocAttr,↓aa,zp,zr,Tryz.results135,cj];refine⟨br,fu,?_⟩;simp[cO,e,ha,hlen]
   have mN:decide ((o.list.length:Int)<=i.n)=false:=decide_eq_false hlen;obtain⟨x,hx⟩:∃x,o.list[i.n.toNat]?=some x:=⟨o.list[i.n.toNat]'(by omega),List.getElem?_eq_getElem _⟩
   have E1:=m9 U6 x (List.mem_of_getElem? hx);have qZ:=fD hx;rcases hd with hd|⟨hd,kW⟩
   ·refine cK ?_;simp -dsimp only[simprocAttr,↓aa,zp,hd,mN];refine ah ?_;refine cm rfl ?_;refine ct ?_;refine aU ?_;simp -dsimp only[simprocAttr,↓aa,zp,hx]
    repeat(refine⟨by omega,?_⟩)
    refine ah ?_;refine aq ?_;simp -dsimp only[simprocAttr,↓aa,zp,zr,Tryz.results135];refine⟨br,vz E1,?_⟩;simp[cO,e,ha,hlen,qZ,U4]
   refine cK ?_;simp -dsimp only[simprocAttr,↓aa,zp,hd,kW,mN];refine ah ?_;refine cm rfl ?_;refine ct ?_;refine aU ?_;simp -dsimp only[simprocAttr,↓aa,zp,hx]
   repeat(refine⟨by omega,?_⟩)
   refine ah ?_;refine aq ?_;simp -dsimp only[simprocAttr,↓aa,zp,zr,Tryz.results135];refine⟨br,vz E1,?_⟩;simp[cO,e,ha,hlen,qZ,U4]
  have Ll:decide (o.kind=1)=false:=decide_eq_false (by omega);have U1:decide (o.kind=2)=false:=decide_eq_false (by omega);have U4:o.kind≠1∧o.kind≠2:=by omega
  refine cK ?_;simp -dsimp only[simprocAttr,↓aa,zp,Ll,U1];refine ah ?_;refine cY rfl ?_;refine az (ah ?_);refine aq ?_;simp -dsimp only[simprocAttr,↓aa,zp,zr,Tryz.results135,cj];refine⟨br,fu,?_⟩;simp[cO,e,ha,U4]
 have RI:i.op≠11:=by simpa using h
 refine az (ah ?_);apply aP rfl<;>intro h
 ·have hk:o.kind≠1:=by simpa using h
  refine az (ah ?_);refine aq ?_;simp -dsimp only[simprocAttr,↓aa,zp,zr,Tryz.results135,cj];refine⟨br,fu,?_⟩;simp[cO,RI,ha,hk]
 have hk:o.kind=1:=by simpa using h
 refine az (ah ?_);apply aP rfl<;>intro h
 ·have PN:i.op=10:=by simpa using h
  refine az ?_;refine .inl ⟨_,cR o.n,by simp only[av,ae.upto,zt],ao ?_⟩;simp -dsimp only[simprocAttr,↓aa,zp,di];refine ah ?_;refine aq ?_;simp -dsimp only[simprocAttr,↓aa,zp,zr,Tryz.results135,eW];refine⟨br,lE,?_⟩;simp[cO,PN,ha,hk]
 have PN:i.op≠10:=by simpa using h
 refine az (ah ?_);apply aP rfl<;>intro h
 ·have PQ:i.op=12:=by simpa using h
  refine az ?_;refine .inl ⟨_,cR o.list.length,by simp only[av,ae.upto,zt],ao ?_⟩;simp -dsimp only[simprocAttr,↓aa,zp,di];refine ah ?_;refine aq ?_;simp -dsimp only[simprocAttr,↓aa,zp,zr,Tryz.results135,eW];refine⟨br,lE,?_⟩;simp[cO,PQ,ha,hk]
 have PQ:i.op≠12:=by simpa using h
 obtain⟨p,h1⟩:=hp PN RI PQ;have hb:=fD h1;refine aU ?_;simp -dsimp only[simprocAttr,↓aa,zp,h1];refine ah ?_;apply aP rfl<;>intro h
 ·have wI:p.kind≠0:=by simpa using h
  refine az (ah ?_);refine aq ?_;simp -dsimp only[simprocAttr,↓aa,zp,zr,Tryz.results135,cj];refine⟨br,fu,?_⟩;simp[cO,PN,RI,PQ,ha,hb,hk,wI]
 have wI:p.kind=0:=by simpa using h
 by_cases iJ:p.n<0
 ·have mN:decide (p.n<0)=true:=decide_eq_true iJ;refine aU ?_;simp -dsimp only[simprocAttr,↓aa,zp,h1,mN];refine⟨ob (by kernel_rfl),?_⟩;refine ah ?_;refine cY rfl ?_;refine az (ah ?_);refine aq ?_;simp -dsimp only[simprocAttr,↓aa,zp,zr,Tryz.results135,cj];refine⟨br,fu,?_⟩;simp[cO,PN,RI,PQ,ha,hb,hk,wI,iJ]
 have mN:decide (p.n<0)=false:=decide_eq_false iJ;by_cases hlen:(o.list.length:Int)<=p.n
 ·have vU:decide ((o.list.length:Int)<=p.n)=true:=decide_eq_true hlen;refine aU ?_;simp -dsimp only[simprocAttr,↓aa,zp,h1,mN,vU];refine⟨ob (by kernel_rfl),?_⟩;refine ah ?_;refine cY rfl ?_;refine az (ah ?_);refine aq ?_;simp -dsimp only[simprocAttr,↓aa,zp,zr,Tryz.results135,cj];refine⟨br,fu,?_⟩;simp[cO,PN,RI,PQ,ha,hb,hk,wI,iJ,hlen]
 have vU:decide ((o.list.length:Int)<=p.n)=false:=decide_eq_false hlen;obtain⟨x,hx⟩:∃x,o.list[p.n.toNat]?=some x:=⟨o.list[p.n.toNat]'(by omega),List.getElem?_eq_getElem _⟩
 have E1:=m9 U6 x (List.mem_of_getElem? hx);have qZ:=fD hx;refine aU ?_;simp -dsimp only[simprocAttr,↓aa,zp,h1,mN,vU];refine⟨ob (by kernel_rfl),?_⟩;refine ah ?_;refine cm rfl ?_;refine lX ?_;refine aU ?_;simp -dsimp only[simprocAttr,↓aa,zp,h1,hx]
 repeat(refine⟨by omega,?_⟩)
 refine⟨ob (by kernel_rfl),?_⟩;refine ah ?_;refine aq ?_;simp -dsimp only[simprocAttr,↓aa,zp,zr,Tryz.results135];refine⟨br,vz E1,?_⟩;simp[cO,PN,RI,PQ,ha,hb,hk,wI,iJ,hlen,qZ]
end Go.Proofs.YtjdnhamngpafmaaGreat
