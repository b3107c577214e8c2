/-
  Texts bound together by a program of mine: YtakdmelemfnmdaaAvu, YtakdmelemfnmdaaAvl, YtakdmelemfnmdaaAvm, YtakdmelemfnmdaaAvn, YtakdmelemfnmdaaAvo, YtakdmelemfnmdaaAvq, YtakdmelemfnmdaaAvp, YtkkookchlddbkaaGreatTab, YtkkookchlddbkaaGreatVPa, YtkkookchlddbkaaGreatVPb, YtkkookchlddbkaaGreatVPc, YtkkookchlddbkaaGreatVPd, YtkkookchlddbkaaGreatVPdz, YtkkookchlddbkaaGreatVPe, YtkkookchlddbkaaGreatPa, YtkkookchlddbkaaGreatPb, YtkkookchlddbkaaGreatPm, YtkkookchlddbkaaGreatPr, YtakdmelemfnmdaaAvs, YtakdmelemfnmdaaAvt, YtakdmelemfnmdaaAvz, YtakdmelemfnmdaaAvw, YtkkookchlddbkaaGreatPd, YtkkookchlddbkaaGreatPdz, YtkkookchlddbkaaGreatT1, YtkkookchlddbkaaGreatT2, YtkkookchlddbkaaGreatT3, YtkkookchlddbkaaGreatT30, YtkkookchlddbkaaGreatPo.
-/
import Derived.Test.YtkkookchlddbkaaGreatA1
import Derived.ChangeKeysEq
import Derived.Laws.StructEq
import Derived.ProofKit
import Derived.Carry
import Derived.SizedLaws
import Derived.Deep.Slices
import Derived.JoinedOf
import Derived.Test.YtkkookchlddbkaaGreatChecked
import Derived.KernelRfl
set_option linter.all false
set_option maxRecDepth 100000
set_option maxHeartbeats 4000000

namespace Go.Av
theorem uw{P:Program}{aS:fM}(hT:cG P aS){t e:TypeId}{n:Nat}{ti:cQ}(ht:aS t=some ti)(a7:ti.desc=.array n e):P.underlying t=some (.array n e):=by
 obtain⟨_,d,h1,h2⟩:=hT t ti ht;rw[a7]at h2;simp only[sm]at h2;rw[h1,h2]
theorem qd{P:Program}{aS:fM}(hT:cG P aS){o:Oper}{σ:St}{t e:TypeId}{x i:Operand}{ti te:cQ}{id off len:Nat}{k:IntKind}{n:Int}
  (ho:o.op=.indexAddr t x i) (hd:∀d,o.dst=some d->d<σ.n) (ht:aS t=some ti) (a7:ti.desc=.array len e) (he:aS e=some te)
  (hx:σ.ev x=some (.mp id off)) (hi:σ.ev i=some (.v (.int k n))) (h0:0<=n) (hn:n<len):Cert P o σ (.mp id (off+n.toNat*te.size)) .pure :=
 Cert.bZ .pure (.inl rfl) hd fun a g _ h _=>by
  have ei:=(h i (by simp[ho,Op.operands]) _ hi).cL.1;have hu:=uw hT ht a7;obtain⟨l,o1,h1,h2,h3,eu⟩:=(h x (by simp[ho,Op.operands]) _ hx).ny;exact⟨.pointer (some ⟨l.block,off+n.toNat*te.size,none⟩),by simp[execOp,ho,ei,eu,Instr.indexAt,Instr.sureAddr,asIntOf,run_underlying hu,h0,hn,(hT e te he).sizeOf,addr_add],.mp h1 h2 h3⟩
theorem uN{P:Program}{aS:fM}(hT:cG P aS){o:Oper}{σ:St}{t e:TypeId}{parts:Array (Nat×Operand)}{n:Nat}{ti te:cQ}{ps:List (Nat×ae)}{cs:List ae}
  (ho:o.op=.build t parts) (hd:∀d,o.dst=some d->d<σ.n) (ht:aS t=some ti) (a7:ti.desc=.array n e) (he:aS e=some te) (BA:σ.gk parts.toList=some ps) (gf:∀p∈ps,p.2.flat)
  (iq:kO (fun i=>some (i*te.size,te.size)) ti.zero ps=some cs):Cert P o σ (.agg cs) .pure :=
 Cert.bZ .pure (.inl rfl) hd fun a g _ h _=>by
  have cu:=lP (a:=a) (g:=g) (fun x hx y hy=>h x (by simpa[ho,Op.operands]using hx) y hy) BA gf;obtain⟨⟨i,z,h1,h2,h3,h4,h5,h6,h7,h8,h9⟩,d,Hz,TH⟩:=hT t ti ht;have hu:=uw hT ht a7;obtain⟨⟨ie,ze,k1,k2,_⟩,_⟩:=hT e te he;obtain⟨cS,q1,q2,q3⟩:=so (fun i=>some (i*te.size,te.size)) cu (cs:=ti.zero) (arr:=z.cells) ⟨h5,h8 g⟩ iq;have hb:P.built t (parts.map fun(i,x)=>(i,a.eval x)).toList=some cS:=by
   unfold Program.built;simp only[h1,hu,h4,k1,k2];rw[Array.toList_map];simpa using q1
  have bS:=run_build g.w t _ cS hb;exact⟨.agg cS,by simp[execOp,ho,bS],q2.agg (q3 h9)⟩
def xW(P:Program)(t:TypeId)(k:IntKind):Prop:=∃e i,P.underlying t=some (.array 2 e)∧P.info? e=some i∧i.size=1∧P.underlying e=some (.int k)∧P.eqGuardType P.depth t=false
theorem rV{P:Program}{e:TypeId}{k:IntKind}(he:P.underlying e=some (.int k))(xs:Array Value)(i:Nat)(u:Value)(hu:xs[i]?=some u)(w:World):(part e xs i).run P w=.ok u w:=by
 simp[part,Go.isAgg,run_underlying he,hu]
theorem z7{P:Program}{o:Oper}{σ:St}{op:BinOp}{t t':TypeId}{x y:Operand}{k:IntKind}{a0 a1 b0 b1:Int}{r:Bool}
  (ho:o.op=.binOp op t x y t') (hd:∀d,o.dst=some d->d<σ.n) (hP:xW P t k)
  (hx:σ.ev x=some (.agg [.v (.int k a0),.v (.int k a1)])) (hy:σ.ev y=some (.agg [.v (.int k b0),.v (.int k b1)]))
  (hr:(op=.eql∧r=(decide (a0=b0)&&decide (a1=b1)))∨(op=.neq∧r=!(decide (a0=b0)&&decide (a1=b1)))):Cert P o σ (.v (.bool r)) .pure :=
 Cert.bZ .pure (.inl rfl) hd fun ac g _ h _=>by
  obtain⟨e,ie,Pq,k1,dk,hu,pn⟩:=hP;have cells:∀{z:Operand} {c0 c1:Int},z∈o.op.operands->σ.ev z=some (.agg [.v (.int k c0),.v (.int k c1)])->ac.eval z=.agg #[.int k c0,.int k c1]:=fun {z c0 c1} hz BA=>by
   obtain⟨vs,e1,e2,e3⟩:=(h z hz _ BA).x6;rw[e1];congr 1;have e2:vs.size=2:=e2;have h0:vs[0]?=some (vs[0]'(by omega)):=by simp[e2]
   have h1:vs[1]?=some (vs[1]'(by omega)):=by simp[e2]
   have q0:=(e3.2 0 _ _ rfl h0).cL.1;have q1:=(e3.2 1 _ _ rfl h1).cL.1;apply Array.ext
   ·simp[e2]
   intro i XX WD;have:i=0∨i=1:=by
    simp at WD;omega
   rcases this with rfl|rfl
   ·simpa using q0
   simpa using q1
  have ex:=cells (by simp[ho,Op.operands]) hx;have ey:=cells (by simp[ho,Op.operands]) hy;have hg:=run_eqGuard_agg (P:=P) g.w op t x y #[.int k a0,.int k a1] #[.int k b0,.int k b1] pn;refine⟨.bool r,?_,.v trivial⟩;have hc:P.cellsOf e=1:=by
   simp[Program.cellsOf,k1,dk]
  have pk:(Op.equal t (.agg #[.int k a0,.int k a1]) (.agg #[.int k b0,.int k b1])).run P g.w=.ok (decide (a0=b0)&&decide (a1=b1)) g.w:=by
   have e0:∃d,Op.equal t (.agg #[.int k a0,.int k a1]) (.agg #[.int k b0,.int k b1])=Op.equalIn (d+2) t (.agg #[.int k a0,.int k a1]) (.agg #[.int k b0,.int k b1]):=⟨9998,rfl⟩
   obtain⟨d,e0⟩:=e0;rw[e0,run_equalIn_array g.w (d+1) _ _ Pq k1,hc];have hi:∀(p q:Int),(Op.equalIn (d+1) e (.int k p) (.int k q)).run P g.w=.ok (decide (p=q)) g.w:=fun p q=>by
    have W0:(p == q)=decide (p=q):=by
     by_cases hq:p=q
     ·simp[hq]
     simp[hq]
    simp[Op.equalIn,run_underlying hu,W0]
   have p0:=rV hu #[.int k a0,.int k a1] 0 (.int k a0) rfl g.w;have p1:=rV hu #[.int k a0,.int k a1] 1 (.int k a1) rfl g.w;have s0:=rV hu #[.int k b0,.int k b1] 0 (.int k b0) rfl g.w;have s1:=rV hu #[.int k b0,.int k b1] 1 (.int k b1) rfl g.w;show(Op.eqItems (d+1) e 1 _ _ [0,1]).run P g.w=_;simp only[Op.eqItems,Sem.run_bind,Nat.zero_mul,Nat.one_mul,p0,s0,p1,s1,hi,Result.andThen_ok];by_cases q0:a0=b0
   ·subst q0;simp only[decide_true,Bool.not_true,Bool.false_eq_true,if_false,Bool.true_and,Sem.run_bind,p1,s1,hi,Result.andThen_ok];by_cases q1:a1=b1<;>simp[q1]
   simp[q0]
  rcases hr with⟨e1,e2⟩|⟨e1,e2⟩<;>subst e1<;>subst e2<;>simp[execOp,ho,ex,ey,hg,binOp,pk]
structure Tag{α:Type}(a:α):Type where
def on{α:Type}(x:Option α)(f:α->Prop)(_t:Tag f:={}):Prop :=
 match x with
 | some y=>f y
 | none=>False
theorem y1{α:Type}(y:α)(f:α->Prop)(t:Tag f):on (some y) f t=f y:=rfl
theorem aK{α:Type}{x:Option α}{f:α->Prop}{t:Tag f}(h:on x f t):∃y,x=some y∧f y:=by
 cases x with
 | none=>exact h.elim
 | some y=>exact⟨y,rfl,h⟩
def ue(p:Unit->Prop)(_t:Tag p:={}):Prop:=p ()
def At(σ:St)(f:St->Prop)(_t:Tag f:={}):Prop:=f σ
theorem I{σ:St}{f:St->Prop}{t:Tag f}(h:f σ):At σ f t:=h
def pI(b:Bool)(X Y:Unit->Prop)(_t:Tag X:={})(XI:Tag Y:={}):Prop:=if b then X ()else Y ()
theorem ew(X Y:Unit->Prop)(t:Tag X)(t':Tag Y):pI true X Y t t'=X ():=rfl
theorem dE(X Y:Unit->Prop)(t:Tag X)(t':Tag Y):pI false X Y t t'=Y ():=rfl
theorem cO{b:Bool}{X Y:Unit->Prop}{t:Tag X}{t':Tag Y}(h:b=true->X ())(k:b=false->Y ()):pI b X Y t t':=by
 cases b
 ·exact k rfl
 exact h rfl
abbrev gU:=ae->Mode->Prop
def isNil:Operand->Bool
 | .const (.slice none 0 0)=>true
 | _=>false
def wg(aS:fM)(ty:TypeId)(x:Operand)(σ:St)(K:gU):Prop :=
 match isNil x with
 | true=>on (aS ty) fun ti=>match ti.desc with
  | .slice e=>on (aS e) fun te=>K (.aC te.size [] .ex) .pure
  | _=>False
 | false=>on (σ.ev x) fun y=>K y .pure
def Dn(σ:St)(c x z:Operand)(K:gU):Prop :=
 on (σ.ev c) fun
  | .v (.bool b)=>pI b (fun _=>on (σ.ev x) fun y=>K y .pure) (fun _=>on (σ.ev z) fun y=>K y .pure)
  | _=>False
def o5(aS:fM)(s:TypeId)(k:Nat)(x:ae)(K:gU):Prop :=
 on (aS s) fun ti=>match ti.desc with
  | .struct fs=>on fs[k]? fun f=>on (aS f.2) fun tf=>tf.size≠0 ∧
   match x with
   | .ip oa cs=>K (.ip (oa.map (·.add f.1)) (cs.drop f.1)) .pure
   | .mp id off=>K (.mp id (off+f.1)) .pure
   | _=>False
  | _=>False
def zA(aS:fM)(s:TypeId)(k:Nat)(x:ae)(K:gU):Prop :=
 on (aS s) fun ti=>match ti.desc with
  | .struct fs=>on fs[k]? fun f=>on (aS f.2) fun tf=>match x with
   | .agg cs=>pI tf.desc.agg (fun _=>K (.agg ((cs.drop f.1).take tf.size)) .pure) (fun _=>on cs[f.1]? fun r=>K r .pure)
   | _=>False
  | _=>False
def Dm(aS:fM)(O:List ay)(t:TypeId)(x:ae)(K:gU):Prop :=
 on (aS t) fun ti =>
  match x with
  | .ip _ cs=>pI ti.desc.agg (fun _=>ti.size<=cs.length∧K (.agg (cs.take ti.size)) .pure) (fun _=>on cs[0]? fun c=>K c .pure)
  | .mp id off=>on O[id]? fun
   | .cells os=>pI ti.desc.agg (fun _=>off+ti.size<=os.length∧K (.agg ((os.drop off).take ti.size)) (.rd id)) (fun _=>on os[off]? fun c=>K c (.rd id))
   | _=>False
  | _=>False
def zC(aS:fM)(O:List ay)(t:TypeId)(x y:ae)(K:gU):Prop :=
 on (aS t) fun ti =>
  match x with
  | .mp id off=>on O[id]? fun
   | .cells os=>y.flat∧y.cells.length=ti.size∧off+ti.size<=os.length∧K (.v (.bool false)) (.wr O.length [id] (O.set id (.cells (bu os off y.cells))))
   | _=>False
  | _=>False
def o6(aS:fM)(t:TypeId)(x i:ae)(K:gU):Prop :=
 on (aS t) fun ti=>match ti.desc with
  | .slice e=>on (aS e) fun te =>
   match i with
   | .v (.int _ n) =>
    (match x with
    | .aC sz xs ow=>te.size=sz∧0<=n∧on xs[n.toNat]? fun y=>K (.ip (rL ow (n.toNat*te.size)) y.cells) .pure
    | .ms id off len _=>0<=n∧n<len∧K (.mp id (off+n.toNat*te.size)) .pure
    | .os id len _=>0<=n∧n<len∧K (.mp id (n.toNat*te.size)) .pure
    | _=>False)
   | _=>False
  | .array len e=>on (aS e) fun te =>
   match i with
   | .v (.int _ n) =>
    (match x with
    | .mp id off=>0<=n∧n<len∧K (.mp id (off+n.toNat*te.size)) .pure
    | _=>False)
   | _=>False
  | _=>False
def uV:BinOp->ByteArray->ByteArray->Option Bool
 | .eql,a,b=>some (decide (a=b))
 | .neq,a,b=>some (!decide (a=b))
 | _,_,_=>none
def q9:BinOp->Bool->Bool->Option Bool
 | .eql,a,b=>some (a == b)
 | .neq,a,b=>some (!(a == b))
 | _,_,_=>none
def EV(op:BinOp)(k:IntKind)(m n:Int)(K:gU):Prop :=
 pI (ln op m n).isSome (fun _=>on (ln op m n) fun b=>K (.v (.bool b)) .pure) (fun _=>on (fe k op m n) fun r=>Lh k<=r∧r<=FE k∧K (.v (.int k r)) .pure)
def j8:BinOp->Bool->Option Bool
 | .eql,b=>some b
 | .neq,b=>some (!b)
 | _,_=>none
def F3:ae->Option Bool
 | .v (.pointer none)=>some true
 | .ip _ _=>some false
 | .mp _ _=>some false
 | _=>none
theorem F4{x:ae}{b:Bool}(h:F3 x=some b):(x=.v (.pointer none)∧b=true)∨(∃oa cs,x=.ip oa cs∧b=false)∨(∃id off,x=.mp id off∧b=false):=by
 unfold F3 at h;split at h
 ·exact .inl ⟨rfl,by simpa using h.symm⟩
 ·exact .inr (.inl ⟨_,_,rfl,by simpa using h.symm⟩)
 ·exact .inr (.inr ⟨_,_,rfl,by simpa using h.symm⟩)
 cases h
def O5(P:Program)(op:BinOp)(t:TypeId)(x:ae)(K:gU):Prop :=
 (∃e,P.underlying t=some (.pointer e))∧on (F3 x) fun b=>on (j8 op b) fun r=>K (.v (.bool r)) .pure
def pT(P:Program)(op:BinOp)(t:TypeId)(x y:ae)(K:gU):Prop :=
 match x,y with
 | .v (.int k m),.v (.int k' n)=>pI (dU op) (fun _=>0<=n∧Lh k<=fK k op m n∧fK k op m n<=FE k∧K (.v (.int k (fK k op m n))) .pure) (fun _=>k=k'∧EV op k m n K)
 | .v (.string a),.v (.string b)=>on (uV op a b) fun r=>K (.v (.bool r)) .pure
 | .v (.bool a),.v (.bool b)=>P.underlying t=some .bool∧on (q9 op a b) fun r=>K (.v (.bool r)) .pure
 | x,.v (.pointer none)=>O5 P op t x K
 | .ip (some a) _,.ip (some b) _=>(∃e n,P.underlying t=some (.pointer e)∧(∀w,(sizeOf e).run P w=.ok n w)∧n≠0)∧a.block=b.block∧on (q8 op a b) fun r=>K (.v (.bool r)) .pure
 | .agg [.v (.int k a0),.v (.int k1 a1)],.agg [.v (.int k2 b0),.v (.int k3 b1)]=>(k1=k∧k2=k∧k3=k∧xW P t k)∧on (j8 op (decide (a0=b0)&&decide (a1=b1))) fun r=>K (.v (.bool r)) .pure
 | _,_=>False
def TD.elem:TD->Option TypeId
 | .slice e=>some e
 | _=>none
theorem TD.mB{d:TD}{e:TypeId}(h:d.elem=some e):d=.slice e:=by
 cases d<;>simp[TD.elem]at h;rw[h]
def CU:ae->Option Bool
 | .v (.slice none 0 0)=>some true
 | .aC _ _ .nn=>some false
 | .ms _ _ _ _=>some false
 | _=>none
def KQ(aS:fM)(op:BinOp)(t:TypeId)(x:ae)(K:gU):Prop :=
 on (aS t) fun ti=>on ti.desc.elem fun _=>on (CU x) fun b=>on (j8 op b) fun r=>K (.v (.bool r)) .pure
def KU(op:UnOp)(x:ae)(K:gU):Prop :=
 match op,x with
 | .not,.v (.bool b)=>K (.v (.bool !b)) .pure
 | .neg,.v (.int k n)=>Lh k<=-n∧-n<=FE k∧K (.v (.int k (-n))) .pure
 | _,_=>False
def Gz(σ:St)(p:Option Operand)(Ch:Nat)(K:Nat->Prop):Prop :=
 match p with
 | none=>K Ch
 | some q=>on (σ.ev q) fun
  | .v (.int _ n)=>0<=n∧K n.toNat
  | _=>False
def Bo(sz:Nat)(xs:List ae)(o:od)(l h:Nat)(K:gU):Prop :=
 match o with
 | .ex=>pI (decide (l=0)&&decide (h=xs.length)) (fun _=>K (.aC sz xs .ex) .pure) (fun _=>K (.aC sz ((xs.take h).drop l) .sh) .pure)
 | _=>K (.aC sz ((xs.take h).drop l) .sh) .pure
theorem Dl{sz:Nat}{xs:List ae}{o:od}{l h:Nat}{K:gU}(k:Bo sz xs o l h K):(o=.ex∧l=0∧h=xs.length∧K (.aC sz xs .ex) .pure)∨K (.aC sz ((xs.take h).drop l) .sh) .pure:=by
 unfold Bo at k;split at k
 ·by_cases hf:(decide (l=0)&&decide (h=xs.length))=true
  ·rw[hf,ew]at k;simp only[Bool.and_eq_true,decide_eq_true_eq]at hf;exact .inl ⟨rfl,hf.1,hf.2,k⟩
  rw[show(decide (l=0)&&decide (h=xs.length))=false by simpa using hf,dE]at k;exact .inr k
 exact .inr k
def zB(aS:fM)(σ:St)(t:TypeId)(x:ae)(lo hi mx:Option Operand)(K:gU):Prop :=
 on (aS t) fun ti=>match ti.desc with
  | .slice e=>on (aS e) fun te =>
   match x,mx with
   | .aC sz xs ow,none=>te.size=sz∧Gz σ lo 0 fun l=>Gz σ hi xs.length fun h=>l<=h∧h<=xs.length∧Bo sz xs ow l h K
   | .ms id off len cap,none=>Gz σ lo 0 fun l=>Gz σ hi len fun h=>l<=h∧h<=cap∧l<cap∧h<=2 ^ 62∧K (.ms id (off+l*te.size) (h-l) (cap-l)) .pure
   | .raw sz len id,none=>0<len∧Gz σ lo 0 fun l=>Gz σ hi len fun h=>l=0∧h=0∧K (.aC sz [] (.tok id)) .pure
   | .os id len sz,none=>Gz σ lo 0 fun l=>Gz σ hi len fun h=>l=0∧h<=len∧0<len∧K (.os id h sz) .pure
   | _,_=>False
  | _=>False
def m4:List (Nat×ae)->Prop
 | []=>True
 | p::r=>p.2.flat∧m4 r
def qO(n:Nat):List ae->Prop
 | []=>True
 | x::r=>x.cells.length=n∧qO n r
def zw(aS:fM)(σ:St)(t:TypeId)(parts:Array (Nat×Operand))(K:gU):Prop :=
 on (aS t) fun ti=>match ti.desc with
  | .struct fs=>on (jA aS fs) fun pl=>on (σ.gk parts.toList) fun ps=>m4 ps∧on (kO (fun i=>pl[i]?) ti.zero ps) fun cs=>K (.agg cs) .pure
  | .array _ e=>on (aS e) fun te=>on (σ.gk parts.toList) fun ps=>m4 ps∧on (kO (fun i=>some (i*te.size,te.size)) ti.zero ps) fun cs=>K (.agg cs) .pure
  | _=>False
def nI(aS:fM)(σ:St)(t:TypeId)(len:Nat)(parts:Array (Nat×Operand))(K:gU):Prop :=
 on (aS t) fun ti=>match ti.desc with
  | .slice e=>on (aS e) fun te=>on (σ.gk parts.toList) fun ps=>m4 ps∧on (jB 0 ps) fun xs=>0<te.size∧xs.length=len∧qO te.size xs∧len*te.size<=2 ^ 24∧K (.aC te.size (xs.map ae.share) .ex) .pure
  | _=>False
structure Md where
 app:Bool
 made:Bool
def o7(mk:Bool)(aS:fM)(O:List ay)(t:TypeId)(x y:ae)(K:gU):Prop :=
 on (aS t) fun ti=>match ti.desc with
  | .slice e=>on (aS e) fun te =>
   match x,y with
   | .v (.int _ n),.v (.int _ n')=>n'=n∧0<=n∧te.bytes*n.toNat<=2 ^ 48∧n.toNat<=2 ^ 62∧0<te.size ∧
     pI mk (fun _=>(te.desc.agg=true∨te.size=1)∧K (.aC te.size (List.replicate n.toNat (zeroOf te).share) .ex) .pure)
      (fun _=>K (.ms O.length 0 n.toNat n.toNat) (.wr O.length [] (O++[.cells (List.replicate n.toNat te.zero).flatten])))
   | _,_=>False
  | _=>False
def yT(P:Program)(k:TypeId):Option KT :=
 match P.underlying k with
 | some .string=>some .str
 | some (.int k)=>some (.int k)
 | _=>none
def we(P:Program)(aS:fM)(O:List ay)(t:TypeId)(x y:ae)(ok:Bool)(K:gU):Prop :=
 on (aS t) fun ti=>match ti.desc with
  | .map k e=>on (yT P k) fun kt=>on (aS e) fun te=>(te.desc.agg=true∨te.size=1) ∧
   match y with
   | .v key=>kt.ok key ∧
    (match x with
    | .im SL es=>SL=kt∧K (lX ok (iy es key) (zeroOf te)) .pure
    | .mm id=>on O[id]? fun
     | .map SL es=>SL=kt∧K (lX ok (iy es key) (zeroOf te)) (.rd id)
     | _=>False
    | .v (.map none)=>K (lX ok none (zeroOf te)) .pure
    | _=>False)
   | _=>False
  | _=>False
def kD(P:Program)(aS:fM)(O:List ay)(t:TypeId)(x y v:ae)(K:gU):Prop :=
 on (aS t) fun ti=>match ti.desc with
  | .map k _=>on (yT P k) fun kt =>
   match x,y with
   | .mm id,.v key=>kt.ok key∧on O[id]? fun
    | .map SL es=>SL=kt∧K (.v (.bool false)) (.wr O.length [id] (O.set id (.map kt (jG es key v))))
    | _=>False
   | _,_=>False
  | _=>False
def sN(P:Program)(aS:fM)(O:List ay)(t:TypeId)(K:gU):Prop :=
 on (aS t) fun ti=>match ti.desc with
  | .map k _=>on (yT P k) fun kt=>K (.mm O.length) (.wr O.length [] (O++[.map kt []]))
  | _=>False
def FW:ae->Option Nat
 | .aC _ xs _=>some xs.length
 | .ms _ _ len _=>some len
 | .os _ len _=>some len
 | _=>none
def KO(aS:fM)(t:TypeId)(x:ae)(K:gU):Prop :=
 on (aS t) fun ti=>on ti.desc.elem fun _=>on (FW x) fun n=>K (.v (.int .i64 n)) .pure
theorem FX{x:ae}{n:Nat}(h:FW x=some n):(∃sz xs ow,x=.aC sz xs ow∧n=xs.length)∨(∃id off cap,x=.ms id off n cap)∨∃id sz,x=.os id n sz:=by
 cases x<;>simp[FW]at h
 ·exact .inl ⟨_,_,_,rfl,h.symm⟩
 ·subst h;exact .inr (.inl ⟨_,_,_,rfl⟩)
 subst h;exact .inr (.inr ⟨_,_,rfl⟩)
def v8(P:Program)(mk:Bool)(md:Bool)(aS:fM)(O:List ay)(t t':TypeId)(x y:ae)(K:gU):Prop :=
 on (aS t) fun ti=>on ti.desc.elem fun e=>on (aS e) fun te =>
   match x,y with
   | .aC sz xs .ex,.aC SR ys _=>t'=t∧te.size=sz∧SR=sz∧xs.length+ys.length<=2 ^ 62∧(xs.length+ys.length)*te.bytes<=2 ^ 47 ∧
     pI md (fun _=>ys.length≠0∧pI mk (fun _=>K (.os O.length (xs.length+ys.length) sz) (.wr O.length [] (O++[.cells (ar (xs++ys.map ae.share))])))
       (fun _=>K (.ms O.length 0 (xs.length+ys.length) (xs.length+ys.length)) (.wr O.length [] (O++[.cells (ar (xs++ys.map ae.share))]))))
      (fun _=>K (.aC sz (xs++ys.map ae.share) (.tok O.length)) (.wr O.length [] (O++[.spare (xs.length+ys.length)])))
   | .aC sz xs (.tok id),.aC SR ys _=>t'=t∧te.size=sz∧SR=sz∧O[id]?=some (.spare xs.length)∧xs.length+ys.length<=2 ^ 62∧(xs.length+ys.length)*te.bytes<=2 ^ 47 ∧
     K (.aC sz (xs++ys.map ae.share) (.tok id)) (.wr O.length [id] (O.set id (.spare (xs.length+ys.length))))
   | .aC _ xs .ex,.v (.int k n)=>xs=[]∧k=.i64∧P.underlying t'=some (.int .i64)∧0<n∧n.toNat<=2 ^ 62∧n.toNat*te.bytes<=2 ^ 47∧0<te.size ∧
     pI md (fun _=>K (.raw te.size n.toNat O.length) (.wr O.length [] (O++[.spare 0])))
      (fun _=>K (.ms O.length 0 n.toNat n.toNat) (.wr O.length [] (O++[.cells (List.replicate n.toNat te.zero).flatten])))
   | .ms id off len cap,.aC sz ys _=>t'=t∧te.size=sz∧on O[id]? fun
    | .cells cs=>len+ys.length<=cap∧len+ys.length<=2 ^ 62∧off+(len+ys.length)*sz<=cs.length ∧
     K (.ms id off (len+ys.length) cap) (.wr O.length [id] (O.set id (.cells (bu cs (off+len*sz) (ar (ys.map ae.share))))))
    | _=>False
   | .os id len sz,.aC SR ys _=>t'=t∧te.size=sz∧SR=sz∧on O[id]? fun
    | .cells cs=>len*sz<=cs.length∧ys.length≠0∧len+ys.length<=2 ^ 62∧(len+ys.length)*te.bytes<=2 ^ 47 ∧
     K (.os O.length (len+ys.length) sz) (.wr O.length [id] (O.set id .gone++[.cells (cs.take (len*sz)++ar (ys.map ae.share))]))
    | _=>False
   | _,_=>False
def GW:ae->Option Nat
 | .aC _ xs .ex=>some xs.length
 | _=>none
theorem Fb{x:ae}{n:Nat}(h:GW x=some n):∃sz xs,x=.aC sz xs .ex∧n=xs.length:=by
 unfold GW at h;split at h
 ·exact⟨_,_,rfl,by simpa using h.symm⟩
 cases h
def KN(aS:fM)(t:TypeId)(x:ae)(K:gU):Prop :=
 on (aS t) fun ti=>on ti.desc.elem fun _=>on (GW x) fun n=>K (.v (.int .i64 n)) .pure
def zz(aS:fM)(O:List ay)(t:TypeId)(x:ae)(K:gU):Prop :=
 on (aS t) fun ti=>on ti.desc.elem fun e=>on (aS e) fun te=>match x with
  | .ms id off len _=>on O[id]? fun
   | .cells cs=>0<len∧0<te.size∧off+len*te.size<=cs.length∧K (.c5 []) (.wr O.length [id] (O.set id (.cells (bu cs off (List.replicate len te.zero).flatten))))
   | _=>False
  | _=>False
def KS(x y:ae)(K:gU):Prop :=
 match x,y with
 | .v (.int .i64 m),.v (.int .i64 n)=>K (.v (.int .i64 (max m n))) .pure
 | _,_=>False
def KP(x y:ae)(K:gU):Prop :=
 match x,y with
 | .v (.int .i64 m),.v (.int .i64 n)=>K (.v (.int .i64 (min m n))) .pure
 | _,_=>False
theorem Ha{P:Program}{o:Oper}{σ:St}{sT:Array TypeId}{x y:Operand}{m n:Int}
  (ho:o.op=.call ⟨.builtin .max,#[x,y],sT⟩) (hd:∀d,o.dst=some d->d<σ.n) (hx:σ.ev x=some (.v (.int .i64 m))) (hy:σ.ev y=some (.v (.int .i64 n))):Cert P o σ (.v (.int .i64 (max m n))) .pure :=
 Cert.bZ .pure (.inl rfl) hd fun a g _ h _=>by
  obtain⟨ex,fx⟩:=(h x (by simp[ho,Op.operands,Call.operands]) _ hx).cL;obtain⟨ey,fy⟩:=(h y (by simp[ho,Op.operands,Call.operands]) _ hy).cL;refine⟨.int .i64 (max m n),?_,.v ?_⟩
  ·rw[c7 ho];have e:(if n > m then n else m)=max m n:=by
    split<;>omega
   simp[builtin,Builtin.max_,Builtin.max2,ex,ey,e]
  rcases Int.le_total m n with q|q
  ·rw[Int.max_eq_right q];exact fy
  rw[Int.max_eq_left q];exact fx
theorem G7{P:Program}{o:Oper}{σ:St}{sT:Array TypeId}{x y:Operand}{m n:Int}
  (ho:o.op=.call ⟨.builtin .min,#[x,y],sT⟩) (hd:∀d,o.dst=some d->d<σ.n) (hx:σ.ev x=some (.v (.int .i64 m))) (hy:σ.ev y=some (.v (.int .i64 n))):Cert P o σ (.v (.int .i64 (min m n))) .pure :=
 Cert.bZ .pure (.inl rfl) hd fun a g _ h _=>by
  obtain⟨ex,fx⟩:=(h x (by simp[ho,Op.operands,Call.operands]) _ hx).cL;obtain⟨ey,fy⟩:=(h y (by simp[ho,Op.operands,Call.operands]) _ hy).cL;refine⟨.int .i64 (min m n),?_,.v ?_⟩
  ·rw[c7 ho];have e:(if n<m then n else m)=min m n:=by
    split<;>omega
   simp[builtin,Builtin.min_,Builtin.min2,ex,ey,e]
  rcases Int.le_total m n with q|q
  ·rw[Int.min_eq_left q];exact fx
  rw[Int.min_eq_right q];exact fy
def zy(P:Program)(O:List ay)(f:ae)(eK:List ae)(K:gU):Prop :=
 match f with
 | .fn (.func id) fs cs =>
  (∃r,aV P id ((fs++eK++cs).map ae.share) r∧aq 0 ((fs++eK++cs).map ae.share)∧ue fun _=>K r .pure) ∨
  (∃r O',(aY P id O (fs++eK++cs) fun r' O1=>r'=r∧O1=O')∧((ue fun _=>K r (.write O'))∨∃n l,(∀i,i<n->i ∉ l->O'[i]?=O[i]?)∧ue fun _=>K r (.wr n l O'))) ∨
  (∃r,(aY P id O (fs++eK++cs) fun r' O1=>r'=r∧O1=O)∧ue fun _=>K r .read)
 | _=>False
def eQ(P:Program)(aS:fM)(md:Md)(dst:Option Nat)(σ:St)(callee:Callee)(args:List Operand)(sT:List TypeId)(K:gU):Prop :=
 match callee with
 | .value f=>on (σ.ev f) fun f=>on (σ.Bx args) fun eK=>zy P σ.objs f eK K
 | .builtin .len =>
  (match args,sT with
  | [x],[t]=>on (σ.ev x) fun x=>KO aS t x K
  | _,_=>False)
 | .builtin .append =>
  (match args,sT with
  | [x,y],[t,t']=>on (σ.ev x) fun x=>on (σ.ev y) fun y=>v8 P md.made md.app aS σ.objs t t' x y K
  | _,_=>False)
 | .builtin .cap =>
  (match args,sT with
  | [x],[t]=>on (σ.ev x) fun x=>KN aS t x K
  | _,_=>False)
 | .builtin .clear =>
  (match args,sT with
  | [x],[t]=>dst=none∧on (σ.ev x) fun x=>zz aS σ.objs t x K
  | _,_=>False)
 | .builtin .max =>
  (match args with
  | [x,y]=>on (σ.ev x) fun x=>on (σ.ev y) fun y=>KS x y K
  | _=>False)
 | .builtin .min =>
  (match args with
  | [x,y]=>on (σ.ev x) fun x=>on (σ.ev y) fun y=>KP x y K
  | _=>False)
 | _=>False
def lA(y:ae)(K:gU):Prop :=
 match y with
 | .mp id off=>K (.mp id off) .pure
 | .ip oa cs=>K (.ip oa cs) .pure
 | _=>False
def KR(P:Program)(aS:fM)(md:Md)(o:Oper)(σ:St)(K:gU):Prop :=
 match o.op with
 | .move x=>wg aS o.type x σ K
 | .assign x=>wg aS o.type x σ K
 | .pick c x z=>Dn σ c x z K
 | .fieldAddr s x k=>on (σ.ev x) fun x=>o5 aS s k x K
 | .field s x k=>on (σ.ev x) fun x=>zA aS s k x K
 | .load t x=>on (σ.ev x) fun x=>Dm aS σ.objs t x K
 | .store t x y=>o.dst=none∧on (σ.ev x) fun x=>on (σ.ev y) fun y=>zC aS σ.objs t x y K
 | .indexAddr t x i=>on (σ.ev x) fun x=>on (σ.ev i) fun i=>o6 aS t x i K
 | .binOp op t x y _=>pI (isNil y) (fun _=>on (σ.ev x) fun x=>KQ aS op t x K) (fun _=>on (σ.ev x) fun x=>on (σ.ev y) fun y=>pT P op t x y K)
 | .unOp op _ x=>on (σ.ev x) fun x=>KU op x K
 | .slice t x lo hi mx=>on (σ.ev x) fun x=>zB aS σ t x lo hi mx K
 | .build t parts=>zw aS σ t parts K
 | .buildSlice t len parts=>nI aS σ t len parts K
 | .alloc t=>on (aS t) fun ti=>K (.mp σ.objs.length 0) (.wr σ.objs.length [] (σ.objs++[.cells ti.zero]))
 | .box _ x=>on (σ.ev x) fun y=>y.flat∧K (.mp σ.objs.length 0) (.wr σ.objs.length [] (σ.objs++[.cells y.cells]))
 | .makeMap t none=>sN P aS σ.objs t K
 | .makeSlice t x y=>on (σ.ev x) fun x=>on (σ.ev y) fun y=>o7 md.made aS σ.objs t x y K
 | .makeFunc f first captured=>on (σ.Bx first.toList) fun fs=>on (σ.Bx captured.toList) fun cs=>K (.fn f fs cs) .pure
 | .lookup t x y ok=>on (σ.ev x) fun x=>on (σ.ev y) fun y=>we P aS σ.objs t x y ok K
 | .mapUpdate t x y v=>o.dst=none∧on (σ.ev x) fun x=>on (σ.ev y) fun y=>on (σ.ev v) fun v=>kD P aS σ.objs t x y v K
 | .insert t x y v=>o.dst=none∧on (σ.ev x) fun x=>on (σ.ev y) fun y=>on (σ.ev v) fun v=>kD P aS σ.objs t x y v K
 | .extract x k=>on (σ.ev x) fun
  | .c5 cs=>on cs[k]? fun r=>K r .pure
  | _=>False
 | .call c=>eQ P aS md o.dst σ c.callee c.args.toList c.argTypes.toList K
 | .nilCheck x=>on (σ.ev x) fun y=>lA y K
 | _=>False
theorem fG{O X:List ay}:∀i,i<O.length->i ∉ ([]:List Nat)->(O++X)[i]?=O[i]?:=fun _ hi _=>List.getElem?_append_left hi
theorem mK{O:List ay}{id:Nat}{x:ay}:∀i,i<O.length->i ∉ [id]->(O.set id x)[i]?=O[i]?:=fun i _ hl=>List.getElem?_set_ne (fun e=>hl (by simp[e]))
theorem FU{O:List ay}{id:Nat}{x y:ay}:∀i,i<O.length->i ∉ [id]->(O.set id x++[y])[i]?=O[i]?:=fun i hi hl=>by
 rw[List.getElem?_append_left (by simpa using hi)];exact List.getElem?_set_ne (fun e=>hl (by simp[e]))
theorem CJ{x:Operand}(hn:isNil x=true):x=.const (.slice none 0 0):=by
 unfold isNil at hn;split at hn
 ·rfl
 cases hn
theorem F1{y:ae}{b:Bool}(h:CU y=some b):(y=.v (.slice none 0 0)∧b=true)∨(∃sz xs,y=.aC sz xs .nn∧b=false)∨(∃id off len cap,y=.ms id off len cap∧b=false):=by
 unfold CU at h;split at h
 ·exact .inl ⟨rfl,by simpa using h.symm⟩
 ·exact .inr (.inl ⟨_,_,rfl,by simpa using h.symm⟩)
 ·exact .inr (.inr ⟨_,_,_,_,rfl,by simpa using h.symm⟩)
 cases h
theorem nz{op:BinOp}{b r:Bool}(h:j8 op b=some r):(op=.eql∧r=b)∨(op=.neq∧r=!b):=by
 unfold j8 at h;split at h
 ·exact .inl ⟨rfl,by simpa using h.symm⟩
 ·exact .inr ⟨rfl,by simpa using h.symm⟩
 cases h
theorem r4{P:Program}{aS:fM}{o:Oper}{σ:St}{x:Operand}{K:gU}(ho:o.op=.move x∨o.op=.assign x)(hd:∀d,o.dst=some d->d<σ.n)(h:wg aS o.type x σ K):∃r m,Cert P o σ r m∧K r m:=by
 unfold wg at h;cases hn:isNil x with
 | true =>
  have hx:x=.const (.slice none 0 0):=by
   unfold isNil at hn;split at hn
   ·rfl
   cases hn
  subst hx;simp only[hn]at h;obtain⟨ti,_,h⟩:=aK h;split at h
  ·obtain⟨te,_,h⟩:=aK h;exact⟨_,_,G9 te.size ho hd,h⟩
  exact h.elim
 | false =>
  simp only[hn]at h;obtain⟨y,hy,h⟩:=aK h;exact⟨_,_,Fg ho hd hy,h⟩
theorem sw{P:Program}{k:TypeId}{kt:KT}(h:yT P k=some kt):∃d,P.underlying k=some d∧kt.desc d:=by
 unfold yT at h;split at h
 ·simp only[Option.some.injEq]at h;subst h;exact⟨_,by assumption,rfl⟩
 ·simp only[Option.some.injEq]at h;subst h;exact⟨_,by assumption,rfl⟩
 cases h
theorem kS:∀{l:List (Nat×ae)},m4 l->∀p∈l,p.2.flat
 | [],_,p,hp=>by cases hp
 | q::r,h,p,hp=>by
  rcases List.mem_cons.1 hp with e|e
  ·subst e;exact h.1
  exact kS h.2 p e
theorem qP{n:Nat}:∀{l:List ae},qO n l->∀x∈l,x.cells.length=n
 | [],_,p,hp=>by cases hp
 | q::r,h,p,hp=>by
  rcases List.mem_cons.1 hp with e|e
  ·subst e;exact h.1
  exact qP h.2 p e
theorem kk{σ:St}{p:Option Operand}{Ch:Nat}{K:Nat->Prop}(h:Gz σ p Ch K):∃n,ov σ p Ch n∧K n:=by
 unfold Gz at h;split at h
 ·exact⟨Ch,.inl ⟨rfl,rfl⟩,h⟩
 rename_i q;obtain⟨y,hy,h⟩:=aK h;split at h
 ·rename_i k n;obtain⟨h1,h2⟩:=h;exact⟨n.toNat,.inr ⟨q,k,rfl,by rw[Int.toNat_of_nonneg h1];exact hy⟩,h2⟩
 exact h.elim
theorem Bp{P:Program}{o:Oper}{σ:St}{op:BinOp}{t t':TypeId}{x y:Operand}{k:IntKind}{m n:Int}{K:gU}(ho:o.op=.binOp op t x y t')(hd:∀d,o.dst=some d->d<σ.n)(hx:σ.ev x=some (.v (.int k m)))(hy:σ.ev y=some (.v (.int k n)))
  (h:EV op k m n K):∃r m,Cert P o σ r m∧K r m:=by
 unfold EV at h;cases Pu:ln op m n with
 | some b =>
  simp only[Pu,Option.isSome_some,ew,y1]at h;exact⟨_,_,z4 ho hd hx hy Pu,h⟩
 | none =>
  simp only[Pu,Option.isSome_none,dE]at h;obtain⟨r,hr,h1,h2,h⟩:=aK h;rw[yU]at h1;rw[yH]at h2;exact⟨_,_,wB ho hd hx hy hr h1 h2,h⟩
theorem wh{P:Program}{aS:fM}{md:Md}(hT:cG P aS){o:Oper}{σ:St}{K:gU}(hd:∀d,o.dst=some d->d<σ.n)(h:KR P aS md o σ K):∃r m,Cert P o σ r m∧K r m:=by
 unfold KR at h;split at h
 case h_1 x ho=>exact r4 (.inl ho) hd h
 case h_2 x ho=>exact r4 (.inr ho) hd h
 case h_3 c x z ho =>
  unfold Dn at h;obtain⟨y,hy,h⟩:=aK h;split at h
  ·rename_i b;cases b
   ·rw[dE]at h;obtain⟨r,hr,h⟩:=aK h;exact⟨_,_,xj ho hd hy (by simp) (fun _=>hr),h⟩
   rw[ew]at h;obtain⟨r,hr,h⟩:=aK h;exact⟨_,_,xj ho hd hy (fun _=>hr) (by simp),h⟩
  exact h.elim
 case h_4 s x k ho =>
  obtain⟨y,hy,h⟩:=aK h;unfold o5 at h;obtain⟨ti,ht,h⟩:=aK h;split at h
  ·rename_i fs a7;obtain⟨f,hf,h⟩:=aK h;obtain⟨tf,Sz,hz,h⟩:=aK h;split at h
   ·exact⟨_,_,qU hT ho hd ht a7 hf Sz hz hy,h⟩
   ·exact⟨_,_,qV hT ho hd ht a7 hf Sz hz hy,h⟩
   exact h.elim
  exact h.elim
 case h_5 s x k ho =>
  obtain⟨y,hy,h⟩:=aK h;unfold zA at h;obtain⟨ti,ht,h⟩:=aK h;split at h
  ·rename_i fs a7;obtain⟨f,hf,h⟩:=aK h;obtain⟨tf,Sz,h⟩:=aK h;split at h
   ·cases fv:tf.desc.agg with
    | true =>
     simp only[fv,ew]at h;exact⟨_,_,uP hT ho hd ht a7 hf Sz hy (by rw[if_pos fv]),h⟩
    | false =>
     simp only[fv,dE]at h;obtain⟨r,hr,h⟩:=aK h;exact⟨_,_,uP hT ho hd ht a7 hf Sz hy (by rw[if_neg (by simp[fv])];exact hr),h⟩
   exact h.elim
  exact h.elim
 case h_6 t x ho =>
  obtain⟨y,hy,h⟩:=aK h;unfold Dm at h;obtain⟨ti,ht,h⟩:=aK h;split at h
  ·cases fv:ti.desc.agg with
   | true =>
    simp only[fv,ew]at h;exact⟨_,_,yg hT ho hd ht hy fv h.1,h.2⟩
   | false =>
    simp only[fv,dE]at h;obtain⟨c,hc,h⟩:=aK h;exact⟨_,_,wF hT ho hd ht hy fv hc,h⟩
  ·obtain⟨os,Tg,h⟩:=aK h;split at h
   ·cases fv:ti.desc.agg with
    | true =>
     simp only[fv,ew]at h;exact⟨_,_,yh hT ho hd ht hy Tg fv h.1,h.2⟩
    | false =>
     simp only[fv,dE]at h;obtain⟨c,hc,h⟩:=aK h;exact⟨_,_,wG hT ho hd ht hy Tg fv hc,h⟩
   exact h.elim
  exact h.elim
 case h_7 t x y ho =>
  obtain⟨mj,h⟩:=h;obtain⟨x',hx,h⟩:=aK h;obtain⟨y',hy,h⟩:=aK h;unfold zC at h;obtain⟨ti,ht,h⟩:=aK h;split at h
  ·obtain⟨os,Tg,h⟩:=aK h;split at h
   ·obtain⟨h1,h2,h3,h⟩:=h;exact⟨_,_,(B8 hT ho mj ht hx Tg hy h1 h2 h3).close mK,h⟩
   exact h.elim
  exact h.elim
 case h_8 t x i ho =>
  obtain⟨x',hx,h⟩:=aK h;obtain⟨i',hi,h⟩:=aK h;unfold o6 at h;obtain⟨ti,ht,h⟩:=aK h;split at h
  ·rename_i e a7;obtain⟨te,he,h⟩:=aK h;split at h
   ·split at h
    ·obtain⟨h1,h2,h⟩:=h;obtain⟨y,h3,h⟩:=aK h;exact⟨_,_,qe hT ho hd ht a7 he h1 hx hi h2 h3,h⟩
    ·obtain⟨h1,h2,h⟩:=h;exact⟨_,_,qW hT ho hd ht a7 he hx hi h1 h2,h⟩
    ·obtain⟨h1,h2,h⟩:=h;exact⟨_,_,qX hT ho hd ht a7 he hx hi h1 h2,h⟩
    exact h.elim
   exact h.elim
  ·rename_i len e a7;obtain⟨te,he,h⟩:=aK h;split at h
   ·split at h
    ·obtain⟨h1,h2,h⟩:=h;exact⟨_,_,qd hT ho hd ht a7 he hx hi h1 h2,h⟩
    exact h.elim
   exact h.elim
  exact h.elim
 case h_9 op t x y t' ho =>
  cases hn:isNil y with
  | true =>
   simp only[hn,ew]at h;have hy:=CJ hn;subst hy;obtain⟨x',hx,h⟩:=aK h;unfold KQ at h;obtain⟨ti,ht,h⟩:=aK h;obtain⟨e,a7,h⟩:=aK h;obtain⟨b,hb,h⟩:=aK h;obtain⟨r,hr,h⟩:=aK h;exact⟨_,_,z8 hT ho hd ht (TD.mB a7) hx (F1 hb) (nz hr),h⟩
  | false =>
  simp only[hn,dE]at h;obtain⟨x',hx,h⟩:=aK h;obtain⟨y',hy,h⟩:=aK h;unfold pT at h;split at h
  ·cases hs:dU op with
   | true =>
    simp only[hs,ew]at h;obtain⟨h0,h1,h2,h⟩:=h;rw[yU]at h1;rw[yH]at h2;exact⟨_,_,wI ho hd hx hy hs h0 h1 h2,h⟩
   | false =>
    simp only[hs,dE]at h;obtain⟨hk,h⟩:=h;subst hk;exact Bp ho hd hx hy h
  ·obtain⟨r,hr,h⟩:=aK h;refine⟨_,_,wE ho hd hx hy ?_,h⟩;cases op<;>simp[uV]at hr<;>simp[hr]
  ·obtain⟨hb,h⟩:=h;obtain⟨r,hr,h⟩:=aK h;refine⟨_,_,z6 ho hd hb hx hy ?_,h⟩;cases op<;>simp[q9]at hr<;>simp[hr]
  ·obtain⟨⟨e,he⟩,h⟩:=h;obtain⟨b,hb,h⟩:=aK h;obtain⟨r,hr,h⟩:=aK h;exact⟨_,_,wD ho hd he hx hy (F4 hb) (nz hr),h⟩
  ·obtain⟨⟨e,n,he,hn,sr⟩,FA,h⟩:=h;obtain⟨r,hr,h⟩:=aK h;exact⟨_,_,z5 ho hd he hn sr hx hy FA hr,h⟩
  ·obtain⟨⟨k1,k2,k3,hP⟩,h9⟩:=h;obtain⟨r,hr,h8⟩:=aK h9;subst k1;subst k2;subst k3;exact⟨_,_,z7 ho hd hP hx hy (nz hr),h8⟩
  exact h.elim
 case h_10 op t x ho =>
  obtain⟨x',hx,h⟩:=aK h;unfold KU at h;split at h
  ·exact⟨_,_,G' ho hd hx,h⟩
  ·obtain⟨h1,h2,h⟩:=h;rw[yU]at h1;rw[yH]at h2;exact⟨_,_,G8 ho hd hx h1 h2,h⟩
  exact h.elim
 case h_11 t x lo hi mx ho =>
  obtain⟨x',hx,h⟩:=aK h;unfold zB at h;obtain⟨ti,ht,h⟩:=aK h;split at h
  ·rename_i e a7;obtain⟨te,he,h⟩:=aK h;split at h
   ·obtain⟨h1,h⟩:=h;obtain⟨l,hl,h⟩:=kk h;obtain⟨hh,pG,h2,h3,h⟩:=kk h;rcases Dl h with⟨e1,e2,e3,hq⟩|hq
    ·subst e1;subst e2;subst e3;exact⟨_,_,tE hT ho hd ht a7 he hx hl pG,hq⟩
    exact⟨_,_,B7 hT ho hd ht a7 he h1 hx hl pG h2 h3,hq⟩
   ·obtain⟨l,hl,h⟩:=kk h;obtain⟨hh,pG,h2,h3,h4,h5,h⟩:=kk h;exact⟨_,_,wJ hT ho hd ht a7 he hx hl pG h2 h3 h4 h5,h⟩
   ·obtain⟨h1,h⟩:=h;obtain⟨l,hl,hq⟩:=kk h;obtain⟨hh,pG,h2,h3,hz⟩:=kk hq;subst h2;subst h3;exact⟨_,_,uT hT ho hd ht a7 he hx hl pG h1,hz⟩
   ·obtain⟨l,hl,hq⟩:=kk h;obtain⟨hh,pG,h2,h3,h4,hz⟩:=kk hq;subst h2;exact⟨_,_,wK hT ho hd ht a7 he hx hl pG h3 h4,hz⟩
   exact h.elim
  exact h.elim
 case h_12 t parts ho =>
  unfold zw at h;obtain⟨ti,ht,h⟩:=aK h;split at h
  ·rename_i fs a7;obtain⟨pl,oM,h⟩:=aK h;obtain⟨ps,yJ,gf,h⟩:=aK h;obtain⟨cs,iq,h⟩:=aK h;exact⟨_,_,B3 hT ho hd ht a7 oM yJ (kS gf) iq,h⟩
  ·rename_i n e a7;obtain⟨te,he,h⟩:=aK h;obtain⟨ps,yJ,gf,h⟩:=aK h;obtain⟨cs,iq,h⟩:=aK h;exact⟨_,_,uN hT ho hd ht a7 he yJ (kS gf) iq,h⟩
  exact h.elim
 case h_13 t len parts ho =>
  unfold nI at h;obtain⟨ti,ht,h⟩:=aK h;split at h
  ·rename_i e a7;obtain⟨te,he,h⟩:=aK h;obtain⟨ps,yJ,gf,h⟩:=aK h;obtain⟨xs,CH,h1,h2,h3,h4,h⟩:=aK h;exact⟨_,_,tB hT ho hd ht a7 he h1 yJ (kS gf) CH h2 (qP h3) h4,h⟩
  exact h.elim
 case h_14 t ho =>
  obtain⟨ti,ht,h⟩:=aK h;exact⟨_,_,(B1 hT ho hd ht).close fG,h⟩
 case h_15 t x ho =>
  obtain⟨y,hy,hf,h⟩:=aK h;exact⟨_,_,(G5 ho hd hy hf).close fG,h⟩
 case h_16 t ho =>
  unfold sN at h;obtain⟨ti,ht,h⟩:=aK h;split at h
  ·obtain⟨kt,wR,h⟩:=aK h;exact⟨_,_,(yi kt ho hd).close fG,h⟩
  exact h.elim
 case h_17 t x y ho =>
  obtain⟨x',hx,h⟩:=aK h;obtain⟨y',hy,h⟩:=aK h;unfold o7 at h;obtain⟨ti,ht,h⟩:=aK h;split at h
  ·rename_i e a7;obtain⟨te,he,h⟩:=aK h;split at h
   ·obtain⟨e1,h1,h2,h3,h4,hq⟩:=h;subst e1;by_cases PL:md.made=true
    ·rw[PL,ew]at hq;exact⟨_,_,tD hT ho hd ht a7 he hx hy h1 h2 h3 h4 hq.1,hq.2⟩
    rw[show md.made=false by simpa using PL,dE]at hq;exact⟨_,_,(uS hT ho hd ht a7 he hx hy h1 h2 h3 h4).close fG,hq⟩
   exact h.elim
  exact h.elim
 case h_18 f first captured ho =>
  obtain⟨fs,T',h⟩:=aK h;obtain⟨cs,iq,h⟩:=aK h;exact⟨_,_,wH ho hd T' iq,h⟩
 case h_19 t x y ok ho =>
  obtain⟨x',hx,h⟩:=aK h;obtain⟨y',hy,h⟩:=aK h;unfold we at h;obtain⟨ti,ht,h⟩:=aK h;split at h
  ·rename_i k e a7;obtain⟨kt,wR,h⟩:=aK h;obtain⟨d,hk,zI⟩:=sw wR;obtain⟨te,he,dk,h⟩:=aK h;split at h
   ·obtain⟨gg,h⟩:=h;split at h
    ·obtain⟨e1,hq⟩:=h;subst e1;exact⟨_,_,uQ hT ho hd ht a7 hk zI he dk hx hy gg,hq⟩
    ·obtain⟨es,RU,h⟩:=aK h;split at h
     case h_2=>exact h.elim
     obtain⟨e1,hq⟩:=h;subst e1;exact⟨_,_,uR hT ho hd ht a7 hk zI he dk hx RU hy gg,hq⟩
    ·exact⟨_,_,tC hT ho hd ht a7 hk zI he dk hx hy,h⟩
    exact h.elim
   exact h.elim
  exact h.elim
 case h_20 t x y v ho =>
  obtain⟨mj,h⟩:=h;obtain⟨x',hx,h⟩:=aK h;obtain⟨y',hy,h⟩:=aK h;obtain⟨v',hv,h⟩:=aK h;unfold kD at h;obtain⟨ti,ht,h⟩:=aK h;split at h
  ·rename_i k e a7;obtain⟨kt,wR,h⟩:=aK h;obtain⟨d,hk,zI⟩:=sw wR;split at h
   ·obtain⟨gg,h⟩:=h;obtain⟨es,RU,h⟩:=aK h;split at h
    ·obtain⟨e1,hq⟩:=h;subst e1;exact⟨_,_,(oz hT (.inl ho) mj ht a7 hk zI hx RU hy gg hv).close mK,hq⟩
    exact h.elim
   exact h.elim
  exact h.elim
 case h_21 t x y v ho =>
  obtain⟨mj,h⟩:=h;obtain⟨x',hx,h⟩:=aK h;obtain⟨y',hy,h⟩:=aK h;obtain⟨v',hv,h⟩:=aK h;unfold kD at h;obtain⟨ti,ht,h⟩:=aK h;split at h
  ·rename_i k e a7;obtain⟨kt,wR,h⟩:=aK h;obtain⟨d,hk,zI⟩:=sw wR;split at h
   ·obtain⟨gg,h⟩:=h;obtain⟨es,RU,h⟩:=aK h;split at h
    ·obtain⟨e1,hq⟩:=h;subst e1;exact⟨_,_,(oz hT (.inr ho) mj ht a7 hk zI hx RU hy gg hv).close mK,hq⟩
    exact h.elim
   exact h.elim
  exact h.elim
 case h_22 x k ho =>
  obtain⟨x',hx,h⟩:=aK h;split at h
  ·obtain⟨r,hr,h⟩:=aK h;exact⟨_,_,yf ho hd hx hr,h⟩
  exact h.elim
 case h_23 c ho =>
  obtain⟨callee,args,sT⟩:=c;simp only at h;unfold eQ at h;split at h
  ·obtain⟨f',hf,h⟩:=aK h;obtain⟨eK,has,h⟩:=aK h;unfold zy at h;split at h
   ·rcases h with⟨r,h1,h2,h⟩|⟨r,O',h1,h|⟨n,l,hk,h⟩⟩|⟨r,h1,h⟩
    ·exact⟨_,_,B5 ho hd hf has h1 h2,h⟩
    ·exact⟨_,_,uO ho hd hf has h1,h⟩
    ·exact⟨_,_,(uO ho hd hf has h1).close hk,h⟩
    exact⟨_,_,B6 ho hd hf has h1,h⟩
   exact h.elim
  ·split at h
   ·rename_i x t e1 e2;have ea:args = #[x]:=Array.toList_inj.1 e1;have et:sT = #[t]:=Array.toList_inj.1 e2;subst ea;subst et;obtain⟨x',hx,h⟩:=aK h;unfold KO at h;obtain⟨ti,ht,h⟩:=aK h;obtain⟨e,a7,h⟩:=aK h;obtain⟨n,hn,h⟩:=aK h;exact⟨_,_,G6 hT ho hd ht (TD.mB a7) hx (FX hn),h⟩
   exact h.elim
  ·split at h
   ·rename_i x y t t' e1 e2;have ea:args = #[x,y]:=Array.toList_inj.1 e1;have et:sT = #[t,t']:=Array.toList_inj.1 e2;subst ea;subst et;obtain⟨x',hx,h⟩:=aK h;obtain⟨y',hy,h⟩:=aK h;unfold v8 at h;obtain⟨ti,ht,h⟩:=aK h;obtain⟨e,a7,h⟩:=aK h;have a7:=TD.mB a7;obtain⟨te,he,h⟩:=aK h;split at h
    ·obtain⟨h0,h1,h2,h3,h4,hq⟩:=h;subst h0;subst h2;by_cases Sc:md.app=true
     ·rw[Sc,ew]at hq;obtain⟨K9,BB⟩:=hq;cases PL:md.made with
      | true =>
       rw[PL,ew]at BB;exact⟨_,_,(qT hT ho hd ht a7 he h1 hx hy K9 h3 h4).close fG,BB⟩
      | false =>
       rw[PL,dE]at BB;exact⟨_,_,(tx hT ho hd ht a7 he h1 hx hy K9 h3 h4).close fG,BB⟩
     rw[show md.app=false by simpa using Sc,dE]at hq;exact⟨_,_,(uK hT ho hd ht a7 he h1 hx hy h3 h4).close fG,hq⟩
    ·obtain⟨h0,h1,h2,h3,h4,h5,hq⟩:=h;subst h0;subst h2;exact⟨_,_,(tA hT ho hd ht a7 he h1 hx hy h3 h4 h5).close mK,hq⟩
    ·obtain⟨h0,h1,h2,h3,h4,h5,h6,hq⟩:=h;subst h0;subst h1;cases Sc:md.app with
     | true =>
      rw[Sc,ew]at hq;exact⟨_,_,(tz hT ho hd ht a7 he h2 hx hy h3 h4 h5 h6).close fG,hq⟩
     | false =>
      rw[Sc,dE]at hq;exact⟨_,_,(si hT ho hd ht a7 he h2 hx hy h3 h4 h5 h6).close fG,hq⟩
    ·obtain⟨h0,h1,hq⟩:=h;subst h0;obtain⟨o1,ss,hq⟩:=aK hq;split at hq
     ·obtain⟨h2,h3,h4,hq⟩:=hq;exact⟨_,_,(uL hT ho hd ht a7 he h1 hx ss hy h2 h3 h4).close mK,hq⟩
     exact hq.elim
    ·obtain⟨h0,h1,h2,hq⟩:=h;subst h0;subst h2;obtain⟨o1,ss,hq⟩:=aK hq;split at hq
     ·obtain⟨h3,h4,h5,h6,hq⟩:=hq;exact⟨_,_,(uM hT ho hd ht a7 he h1 hx ss hy h3 h4 h5 h6).close FU,hq⟩
     exact hq.elim
    exact h.elim
   exact h.elim
  ·split at h
   ·rename_i x t e1 e2;have ea:args = #[x]:=Array.toList_inj.1 e1;have et:sT = #[t]:=Array.toList_inj.1 e2;subst ea;subst et;obtain⟨x',hx,h⟩:=aK h;unfold KN at h;obtain⟨ti,ht,h⟩:=aK h;obtain⟨e,a7,h⟩:=aK h;obtain⟨n,hn,h⟩:=aK h;obtain⟨sz,xs,e3,e4⟩:=Fb hn;subst e3;subst e4;exact⟨_,_,B4 hT ho hd ht (TD.mB a7) hx,h⟩
   exact h.elim
  ·split at h
   ·rename_i x t e1 e2;have ea:args = #[x]:=Array.toList_inj.1 e1;have et:sT = #[t]:=Array.toList_inj.1 e2;subst ea;subst et;obtain⟨mj,h⟩:=h;obtain⟨x',hx,h⟩:=aK h;unfold zz at h;obtain⟨ti,ht,h⟩:=aK h;obtain⟨e,a7,h⟩:=aK h;obtain⟨te,he,h⟩:=aK h;split at h
    ·obtain⟨o1,ss,h⟩:=aK h;split at h
     ·obtain⟨h2,h3,h4,h⟩:=h;exact⟨_,_,(wC hT ho mj ht (TD.mB a7) he hx ss h2 h3 h4).close mK,h⟩
     exact h.elim
    exact h.elim
   exact h.elim
  ·split at h
   ·rename_i x y e1;have ea:args = #[x,y]:=Array.toList_inj.1 e1;subst ea;obtain⟨x',hx,h⟩:=aK h;obtain⟨y',hy,h⟩:=aK h;unfold KS at h;split at h
    ·exact⟨_,_,Ha ho hd hx hy,h⟩
    exact h.elim
   exact h.elim
  ·split at h
   ·rename_i x y e1;have ea:args = #[x,y]:=Array.toList_inj.1 e1;subst ea;obtain⟨x',hx,h⟩:=aK h;obtain⟨y',hy,h⟩:=aK h;unfold KP at h;split at h
    ·exact⟨_,_,G7 ho hd hx hy,h⟩
    exact h.elim
   exact h.elim
  exact h.elim
 case h_24 x ho =>
  obtain⟨y,hy,h⟩:=aK h;unfold lA at h;split at h
  ·exact⟨_,_,pM ho hd hy (.inl ⟨_,_,rfl⟩),h⟩
  ·exact⟨_,_,pM ho hd hy (.inr ⟨_,_,rfl⟩),h⟩
  exact h.elim
 case h_25=>exact h.elim
def Hi(d:Option Nat)(n:Nat):Prop :=
 match d with
 | some d=>d<n
 | none=>True
def ly:List (Nat×Nat)->Nat->Option Nat
 | [],_=>none
 | (k,d)::r,j=>if k=j then some d else ly r j
def lI(i:Nat)(d:Option Nat)(ds:List (Nat×Nat)):List (Nat×Nat) :=
 match d with
 | some d=>(i,d)::ds
 | none=>ds
def Q2(σ:St)(f:St->Prop)(_t:Tag f:={}):Prop:=f σ
theorem Qa(n:Nat)(s:List (Nat×ae))(O:List ay)(f:St->Prop)(t:Tag f):Q2 ⟨n,s,O⟩ f t=f ⟨n,s,O⟩:=rfl
def dh(P:Program)(aS:fM)(md:Md):List Oper->Nat->List (Nat×Nat)->St->List Kind->(St->List Kind->Prop)->Prop
 | [],_,_,σ,ks,K=>K σ ks
 | o::r,i,ds,σ,ks,K=>Hi o.dst σ.n ∧
  match o.guard with
  | none=>KR P aS md o σ fun x m=>Q2 ⟨σ.n,tR o.dst x σ.bC,m.post σ.objs⟩ fun τ=>dh P aS md r (i+1) (lI i o.dst ds) τ (m.kind::ks) K
  | some (j,kE)=>on (ly ds j) fun t=>on (σ.get t) fun
   | .v (.bool b)=>pI (b == kE)
    (fun _=>KR P aS md o ⟨σ.n,cq t (.v (.bool kE)) σ.bC,σ.objs⟩ fun x m=>Q2 ⟨σ.n,tR o.dst x (cq t (.v (.bool kE)) σ.bC),m.post σ.objs⟩ fun τ=>dh P aS md r (i+1) (lI i o.dst ds) τ (m.kind::ks) K)
    (fun _=>Q2 ⟨σ.n,re σ.n o.dst (cq t (.v (.bool !kE)) σ.bC),σ.objs⟩ fun τ=>dh P aS md r (i+1) (lI i o.dst ds) τ (.pure::ks) K)
   | .c5 []=>Q2 ⟨σ.n,re σ.n o.dst σ.bC,σ.objs⟩ fun τ=>dh P aS md r (i+1) (lI i o.dst ds) τ (.pure::ks) K
   | _=>False
theorem BK{all:Array Oper}{i:Nat}{o:Oper}(ho:all[i]?=some o){ds:List (Nat×Nat)}(h:∀j t,ly ds j=some t->(all[j]?).bind (·.dst)=some t):∀j t,ly (lI i o.dst ds) j=some t->(all[j]?).bind (·.dst)=some t:=by
 intro j t hj;cases hd:o.dst with
 | none =>
  rw[hd]at hj;exact h j t hj
 | some d =>
  rw[hd]at hj;simp only[lI,ly]at hj;split at hj
  ·rename_i e;subst e;simp only[Option.some.injEq]at hj;subst hj;simp[ho,hd]
  exact h j t hj
theorem Bb{σ:St}{t:Nat}{x:ae}(h:σ.get t=some x):jg ⟨σ.n,cq t x σ.bC,σ.objs⟩ σ:=by
 refine⟨rfl,rfl,fun s=>?_⟩;simp only[St.get,fV];split
 ·rename_i e;subst e;exact h.symm
 rfl
theorem nd{P:Program}{ops:Array Oper}:∀{l l':List (Nat×Kind)} {σ τ ρ:St},iG P ops l σ τ->iG P ops l' τ ρ->iG P ops (l++l') σ ρ
 | [],_,_,_,_,h,k=>k.same h.symm
 | (i,q)::r,_,_,_,_,h,k=>by
  obtain⟨ji,h1,h2⟩:=h;exact⟨ji,h1,nd h2 k⟩
theorem ij{P:Program}{aS:fM}{md:Md}(hT:cG P aS){all:Array Oper}{K:St->List Kind->Prop}:∀(l:List Oper) (k:Nat) (ds:List (Nat×Nat)) (σ:St) (ks:List Kind),(∀j,l[j]?=all[k+j]?)->(∀j t,ly ds j=some t->(all[j]?).bind (·.dst)=some t)->dh P aS md l k ds σ ks K ->
  ∃(τ:St) (xE:List Kind),iG P all (xE.zipIdx k |>.map fun p=>(p.2,p.1)) σ τ∧xE.length=l.length∧K τ (xE.reverse++ks)
 | [],k,_,σ,ks,_,_,h=>⟨σ,[],jg.refl σ,rfl,h⟩
 | o::r,k,ds,σ,ks,hl,tX,h=>by
  obtain⟨hd,h⟩:=h;have rz:∀d,o.dst=some d->d<σ.n:=fun d e=>by
   rw[e]at hd;exact hd
  have ho:all[k]?=some o:=by
   have:=hl 0;simpa using this.symm
  have LV:=BK ho tX;have hr:∀j,r[j]?=all[k+1+j]?:=fun j=>by
   have:=hl (j+1);rw[show k+1+j=k+(j+1) by omega];simpa using this
  cases hg:o.guard with
  | none =>
   simp only[hg]at h;obtain⟨x,m,hc,h⟩:=wh hT rz h;obtain⟨τ,xE,h1,h2,h3⟩:=ij hT r (k+1) _ _ _ hr LV h;refine⟨τ,m.kind::xE,?_,by simp[h2],by simpa using h3⟩;simp only[List.zipIdx_cons,List.map_cons];exact⟨_,⟨o,ho,.inl ⟨by simp[eA,hg],x,m,hc,rfl,rfl⟩⟩,h1⟩
  | some p =>
   obtain⟨j,kE⟩:=p;simp only[hg]at h;obtain⟨t,QR,h⟩:=aK h;have ht:=tX j t QR;obtain⟨y,hy,h⟩:=aK h;split at h
   ·rename_i b;by_cases hb:b=kE
    ·rw[show(b == kE)=true by simp[hb],ew]at h;have hs:=Bb (hb ▸ hy);obtain⟨x,m,hc,h⟩:=wh hT (σ:=⟨σ.n,cq t (.v (.bool kE)) σ.bC,σ.objs⟩) rz h;obtain⟨τ,xE,h1,h2,h3⟩:=ij hT r (k+1) _ _ _ hr LV h;refine⟨τ,m.kind::xE,?_,by simp[h2],by simpa using h3⟩;simp only[List.zipIdx_cons,List.map_cons];have eo:mc P all k m.kind ⟨σ.n,cq t (.v (.bool kE)) σ.bC,σ.objs⟩ (St.put ⟨σ.n,cq t (.v (.bool kE)) σ.bC,σ.objs⟩ o.dst x (m.post σ.objs)) :=
      ⟨o,ho,.inl ⟨by simp[eA,hg,ht,St.get,fV],x,m,hc,rfl,rfl⟩⟩
     obtain⟨ji,q1,q2⟩:=eo.same hs;exact⟨ji,q1,h1.same q2⟩
    rw[show(b == kE)=false by simp[hb],dE]at h;have sa:b=!kE:=by cases b<;>cases kE<;>simp_all
    have hs:=Bb (sa ▸ hy);obtain⟨τ,xE,h1,h2,h3⟩:=ij hT r (k+1) _ _ _ hr LV h;refine⟨τ,.pure::xE,?_,by simp[h2],by simpa using h3⟩;simp only[List.zipIdx_cons,List.map_cons];have eo:mc P all k .pure ⟨σ.n,cq t (.v (.bool !kE)) σ.bC,σ.objs⟩ (St.skip ⟨σ.n,cq t (.v (.bool !kE)) σ.bC,σ.objs⟩ o.dst) :=
     ⟨o,ho,.inr ⟨by cases kE<;>simp[eA,hg,ht,St.get,fV],rfl,rfl⟩⟩
    obtain⟨ji,q1,q2⟩:=eo.same hs;exact⟨ji,q1,h1.same q2⟩
   ·obtain⟨τ,xE,h1,h2,h3⟩:=ij hT r (k+1) _ _ _ hr LV h;refine⟨τ,.pure::xE,?_,by simp[h2],by simpa using h3⟩;simp only[List.zipIdx_cons,List.map_cons];exact⟨_,⟨o,ho,.inr ⟨by simp[eA,hg,ht,hy],rfl,rfl⟩⟩,h1⟩
   exact h.elim
def cr(ops:Array Oper)(ks:List Kind):Prop:=fO ops ks=true
def dJ(draw:Bool)(p:Unit->Prop)(_t:Tag p:={}):Prop:=draw=true->p ()
theorem Aj(p:Unit->Prop)(t:Tag p):dJ false p t=True:=by simp[dJ]
theorem Cj(p:Unit->Prop)(t:Tag p):dJ true p t=p ():=by simp[dJ]
theorem ee{P:Program}{kb:Nat}{aS:fM}(md:Md)(hT:cG P aS)(hm:P.follows .mixedOrders=true){id:Nat}{l:List Oper}{draw:Bool}{Q:dw->St->Prop}{σ:St}
  (h:dh P aS md l 0 [] σ [] fun τ ks=>dJ draw (fun _=>cr l.toArray ks.reverse)∧At τ (Q .norm)):cy P kb (.region id l.toArray draw) Q σ:=by
 obtain⟨ops,PR⟩:∃ops,ops=l.toArray:=⟨_,rfl⟩
 have hl:l=ops.toList:=by rw[PR]
 rw[<-PR]at h ⊢;rw[hl]at h;clear PR hl;obtain⟨τ,ks,h1,h2,h3,h4⟩:=ij (all:=ops) hT ops.toList 0 [] σ [] (fun j=>by simp) (fun j t hj=>by simp[ly]at hj) h;intro base a g hb hr;have sb:iG P ops ((List.range ops.size).map fun i=>(i,ks.getD i .write)) σ τ:=by
  have e:(ks.zipIdx 0).map (fun p=>(p.2,p.1))=(List.range ops.size).map fun i=>(i,ks.getD i .write):=by
   apply List.ext_getElem?;intro i;simp only[List.getElem?_map];have hlen:ks.length=ops.size:=by simpa using h2
   by_cases hi:i<ops.size
   ·rw[List.getElem?_range hi];simp[hlen,hi]
   rw[List.getElem?_eq_none (by simp only[List.length_zipIdx];omega),List.getElem?_eq_none (by simp only[List.length_range];omega)];rfl
  rw[<-e];exact h1
 cases draw with
 | false=>exact pU sb hr fun a g xy=>⟨g,τ,rfl,xy,h4⟩
 | true =>
  have hB:=h3 rfl;simp only[List.append_nil,List.reverse_reverse]at hB;exact tT hm hB sb hr fun a g xy=>⟨g,τ,rfl,xy,h4⟩
theorem m7{P:Program}{kb:Nat}{aS:fM}(hT:cG P aS)(hm:P.follows .mixedOrders=true){id:Nat}{l:List Oper}{draw:Bool}{Q:dw->St->Prop}{σ:St}
  (h:dh P aS ⟨false,false⟩ l 0 [] σ [] fun τ ks=>dJ draw (fun _=>cr l.toArray ks.reverse)∧At τ (Q .norm)):cy P kb (.region id l.toArray draw) Q σ:=ee ⟨false,false⟩ hT hm h
def ax:Nat->List ae->List (Nat×ae)
 | _,[]=>[]
 | k,x::r=>(k,x)::ax (k+1) r
theorem rF:∀(l:List ae) (k s:Nat) (x:ae),look (ax k l) s=some x->k<=s∧l[s-k]?=some x
 | [],k,s,x,h=>by cases h
 | y::r,k,s,x,h=>by
  simp only[ax,look]at h;split at h
  ·rename_i e;subst e;simp only[Option.some.injEq]at h;subst h;simp
  obtain⟨h1,h2⟩:=rF r (k+1) s x h;refine⟨by omega,?_⟩;rw[show s-k=(s-(k+1))+1 by omega];simpa using h2
def oU(aS:fM)(σ:St):ResultVar->Option ae
 | .tmp t=>σ.get t
 | .cell a ty =>
  match σ.get a,aS ty with
  | some (.mp id off),some ti =>
   match σ.objs[id]? with
   | some (.cells cs)=>if ti.desc.agg then(if off+ti.size<=cs.length then some (.agg ((cs.drop off).take ti.size))else none)else cs[off]?
   | _=>none
  | _,_=>none
def gq(aS:fM)(σ:St):List ResultVar->Option (List ae)
 | []=>some []
 | v::r =>
  match oU aS σ v,gq aS σ r with
  | some x,some xs=>some (x::xs)
  | _,_=>none
def iO:List ae->ae
 | [x]=>x
 | xs=>.c5 xs
def oT(a:Act):ResultVar->Sem Value
 | .tmp t=>pure (a.tmps.getD t undef)
 | .cell c t=>do loadVar t (<-asAddr (a.tmps.getD c undef))
theorem A9{P:Program}{aS:fM}(hT:cG P aS){σ:St}{base:G}{a:Act}{g:G}(hr:Rel base σ a g){v:ResultVar}{x:ae}(h:oU aS σ v=some x) :
  ∃u,(oT a v).run P g.w=.ok u g.w∧RV g x u:=by
 cases v with
 | tmp t =>
  obtain⟨u,h1,h2⟩:=hr.slot t x h;exact⟨u,by simp[oT,Array.getD_eq_getD_getElem?,h1],h2⟩
 | cell c ty =>
  simp only[oU]at h;split at h
  ·rename_i id off ti hc VY;obtain⟨u,h1,h2⟩:=hr.slot c _ hc;obtain⟨l,o1,he,ho,_,eu⟩:=h2.ny;split at h
   ·rename_i cs iq;have LS:g.objs[id]?=some (.cells cs):=by rw[hr.objs];exact iq
    obtain⟨arr,t',_,fc,hlen,yL,en,_⟩:=hr.good.row LS he;subst eu;split at h
    ·rename_i fv;split at h
     ·rename_i hs;simp only[Option.some.injEq]at h;subst h;obtain⟨f,hf⟩:∃f:Nat->Value,∀j,off+j<arr.size->arr[off+j]?=some (f j):=⟨fun j=>arr.getD (off+j) undef,fun j hj=>by simp[Array.getD_eq_getD_getElem?,hj]⟩
      have bS:=(hT ty ti VY).oQ fv g.w l.block off f (fun j hj=>by
       rw[cell_of_row fc];exact hf j (by omega))
      refine⟨.agg ((List.range ti.size).map f).toArray,by simp[oT,Array.getD_eq_getD_getElem?,h1,asAddr,bS],?_⟩;have hl:((cs.drop off).take ti.size).length=ti.size:=by simp;omega
      have:=RV.ofRow (g:=g) ((cs.drop off).take ti.size) f (fun c hc=>en c (List.mem_of_mem_drop (List.mem_of_mem_take hc))) (fun j c hj=>by
       have lT:=o4 hj;rw[List.getElem?_drop]at lT;have aN:=ag lT;exact yL (off+j) c _ lT (hf j (by omega)))
      rw[hl]at this;exact this
     cases h
    rename_i fv;have aN:=ag h;have vd:g.w.cell? ⟨l.block,off,none⟩=some arr[off]:=by
     rw[cell_of_row fc];simp[show off<arr.size by omega]
    have bS:=(hT ty ti VY).ns (by simpa using fv) g.w ⟨l.block,off,none⟩ _ vd;exact⟨arr[off],by simp[oT,Array.getD_eq_getD_getElem?,h1,asAddr,bS],yL off x _ h (by simp[show off<arr.size by omega])⟩
   cases h
  cases h
theorem rT{P:Program}{aS:fM}(hT:cG P aS){σ:St}{base:G}{a:Act}{g:G}(hr:Rel base σ a g):∀{vs:List ResultVar} {xs:List ae},gq aS σ vs=some xs ->
  ∃us:List Value,(vs.mapM (oT a)).run P g.w=.ok us g.w∧kI g xs us.toArray
 | [],xs,h=>by
  simp only[gq,Option.some.injEq]at h;subst h;exact⟨[],by simp,⟨rfl,by simp⟩⟩
 | v::r,xs,h=>by
  simp only[gq]at h;cases hv:oU aS σ v with
  | none=>simp[hv]at h
  | some x =>
   cases wV:gq aS σ r with
   | none=>simp[hv,wV]at h
   | some ys =>
    simp only[hv,wV,Option.some.injEq]at h;subst h;obtain⟨u,h1,h2⟩:=A9 hT hr hv;obtain⟨us,h3,h4,h5⟩:=rT hT hr wV;refine⟨u::us,?_,by simpa using h4,fun j c w e1 e2=>?_⟩
    ·rw[List.mapM_cons];simp only[Sem.run_bind,h1,Result.andThen_ok,h3,Sem.run_pure]
    cases j with
    | zero =>
     simp at e1 e2;subst e1;subst e2;exact h2
    | succ j=>exact h5 j c w (by simpa using e1) (by simpa using e2)
def uf(aS:fM)(rv:List ResultVar)(sh:Bool)(k:Nat)(R:ae->List ay->Prop):dw->St->Prop
 | .exit _,_=>False
 | _,σ=>on (gq aS σ rv) fun rs=>k<=σ.objs.length∧(∀o∈σ.objs.take k,o.upto k)∧(iO (if sh then rs.map ae.share else rs)).upto k∧R (iO (if sh then rs.map ae.share else rs)) (σ.objs.take k)
theorem RV.iO{g:G}{xs:List ae}{us:List Value}(h:kI g xs us.toArray):RV g (iO xs) (if h:us.toArray.size=1 then us.toArray[0]else .tuple us.toArray):=by
 obtain⟨h1,h2⟩:=h
 match xs,us,h1,h2 with
 | [],[],_,h2=>exact .c5 rfl (by simp)
 | [x],[u],_,h2 =>
  simp only[List.size_toArray,List.length_singleton,dite_true];exact h2 0 x u rfl rfl
 | x::y::r,u0::u1::s,h1,h2 =>
  rw[dif_neg (by simp)];exact .c5 h1 h2
 | [],_::_,h1,_=>simp at h1
 | _::_,[],h1,_=>simp at h1
 | [_],_::_::_,h1,_=>simp at h1
 | _::_::_,[_],h1,_=>simp at h1
theorem js{P:Program}{aS:fM}(hT:cG P aS){f:FuncId}{fn:Func}{c:Code}{O:List ay}{args:List ae}{R:ae->List ay->Prop}(sh:Bool)(k:Nat)(hf:P.funcs[f]?=some fn)(hb:fn.body=some c)
  (AI : (fn.name == "runtime.NumGoroutine") = false) (hn : args.length <= fn.ntmps) (hk : O.length <= k) (h : cy P O.length c (uf aS fn.results.toList sh k R) ⟨fn.ntmps, ax 0 args, O⟩) : aY P f O args R := by
 refine⟨⟨fn,hf,AI,by simp[hb]⟩,fun g vs hg ho ha=>?_⟩;refine calls_of_wp hf hb ?_;have cu:Rel g ⟨fn.ntmps,ax 0 args,O⟩ { tmps:=vs++Array.replicate (fn.ntmps-vs.size) undef,defers:=[] } g:={
  le:=Le.refl g
  good:=hg
  objs:=ho
  size:=by
   have:=ha.1;simp only[Array.size_append,Array.size_replicate];omega
  defers:=rfl
  slot:=fun s x hx=>by
   obtain⟨_,h1⟩:=rF args 0 s x hx;simp only[Nat.sub_zero]at h1;have aN:=ag h1;have iB:s<vs.size:=by rw[ha.1];exact aN
   refine⟨vs[s],?_,ha.2 s x _ h1 (by simp[iB])⟩;simp only;rw[Array.getElem?_append,if_pos iB];simp[iB] }
 refine wp_mono (h g _ g (by rw[ho];exact Nat.le_refl _) cu) fun e a w hp=>?_;have key:∀g' ji,g'.w=w->Rel g ji a g'->(on (gq aS ji fn.results.toList) fun rs=>k<=ji.objs.length∧(∀o∈ji.objs.take k,o.upto k)∧(Av.iO (if sh then rs.map ae.share else rs)).upto k∧R (Av.iO (if sh then rs.map ae.share else rs)) (ji.objs.take k)) ->
   a.defers=[]∧∃v,(results fn a.tmps).run P w=.ok v w∧∃g' v' r,Ending.returned v=.returned v'∧g'.w=w∧Le g g'∧Good g'∧RV g' r v'∧R r g'.objs:=by
  intro g' ji hw hr hq;subst hw;obtain⟨rs,wV,h1,h2,h3,h4⟩:=aK hq;obtain⟨us,q1,q2⟩:=rT hT hr wV;have hO:g'.objs=ji.objs:=hr.objs;refine⟨hr.defers,(if h:us.toArray.size=1 then us.toArray[0]else .tuple us.toArray),?_,g'.cJ k,_,_,rfl,rfl,hr.le.cJ (by rw[ho];exact hk),hr.good.cJ (by rw[hO];exact h1) (by rw[hO];exact h2),?_,by simp only[G.cJ,hO];exact h4⟩
  ·have hm:fn.results.mapM (oT a)=Functor.map List.toArray (fn.results.toList.mapM (oT a)):=Array.mapM_eq_mapM_toList;have fm:results fn a.tmps=(do
    let vs <-fn.results.mapM (oT a)
    pure (if h:vs.size=1 then vs[0]else .tuple vs)):=rfl
   rw[fm,hm];simp only[Sem.run_bind,Sem.run_map,q1,Result.andThen_ok,Sem.run_pure]
  have ml:kI g' (if sh then rs.map ae.share else rs) us.toArray:=by
   cases sh
   ·exact q2
   exact q2.share
  exact(RV.iO ml).cJ (by rw[hO];exact h1) h3
 cases e with
 | normal =>
  obtain⟨g',ji,h1,h2,h3⟩:=hp;exact key g' ji h1 h2 h3
 | ret =>
  obtain⟨g',ji,h1,h2,h3⟩:=hp;exact key g' ji h1 h2 h3
 | exit id =>
  obtain⟨g',ji,h1,h2,h3⟩:=hp;exact h3.elim
 | goto l=>exact hp.elim
 | panic c=>exact hp.elim
 | outgrown=>exact hp.elim
theorem zk(P:Program)(kb:Nat)(c:Code)(Q:dw->St->Prop)(σ:St):aZ P kb c Q .norm σ=cy P kb c Q σ:=rfl
theorem oW(P:Program)(kb:Nat)(c:Code)(Q:dw->St->Prop)(σ:St):aZ P kb c Q .ret σ=Q .ret σ:=rfl
theorem zh(P:Program)(kb:Nat)(c:Code)(Q:dw->St->Prop)(σ:St)(id:Nat):aZ P kb c Q (.exit id) σ=Q (.exit id) σ:=rfl
theorem uB(id:Nat)(Q:dw->St->Prop)(σ:St):bJ id Q .norm σ=Q .norm σ:=rfl
theorem me(id:Nat)(Q:dw->St->Prop)(σ:St):bJ id Q .ret σ=Q .ret σ:=rfl
theorem uC(id:Nat)(Q:dw->St->Prop)(σ:St):bJ id Q (.exit id) σ=Q .norm σ:=by simp[bJ]
theorem tv{id oP:Nat}(h:oP≠id)(Q:dw->St->Prop)(σ:St):bJ id Q (.exit oP) σ=Q (.exit oP) σ:=by simp[bJ,h]
theorem w8{ι:Type}(L:ι->St)(μ:ι->Nat)(i:ι)(Q:dw->St->Prop)(σ:St):gB L μ i Q .norm σ = ∃j,μ j<μ i∧bn σ (L j):=rfl
theorem nv{ι:Type}(L:ι->St)(μ:ι->Nat)(i:ι)(Q:dw->St->Prop)(σ:St):gB L μ i Q .ret σ=Q .ret σ:=rfl
theorem w7{ι:Type}(L:ι->St)(μ:ι->Nat)(i:ι)(Q:dw->St->Prop)(σ:St)(id:Nat):gB L μ i Q (.exit id) σ=Q (.exit id) σ:=rfl
def Dt:ae->Value->Bool
 | .v (.int k n),.int k' n'=>decide (k=k')&&decide (n=n')&&decide (k.min<=n)&&decide (n<=k.max)
 | .v (.bool b),.bool b'=>b == b'
 | .v (.string s),.string s'=>decide (s=s')
 | .v (.pointer none),.pointer none=>true
 | .v (.map none),.map none=>true
 | .v .nilFunc,.nilFunc=>true
 | .v .nilIface,.nilIface=>true
 | .aC _ [] .ex,.slice none 0 0=>true
 | _,_=>false
theorem Bv{x:ae}{u:Value}(h:Dt x u=true):(∀g:G,RV g x u)∧x.scalar:=by
 unfold Dt at h;split at h
 ·simp only[Bool.and_eq_true,decide_eq_true_eq]at h;obtain⟨⟨⟨h1,h2⟩,h3⟩,h4⟩:=h;subst h1;subst h2;exact⟨fun g=>.v ⟨h3,h4⟩,trivial⟩
 ·simp only[beq_iff_eq]at h;subst h;exact⟨fun g=>.v trivial,trivial⟩
 ·simp only[decide_eq_true_eq]at h;subst h;exact⟨fun g=>.v trivial,trivial⟩
 ·exact⟨fun g=>.v trivial,trivial⟩
 ·exact⟨fun g=>.v trivial,trivial⟩
 ·exact⟨fun g=>.v trivial,trivial⟩
 ·exact⟨fun g=>.v trivial,trivial⟩
 ·exact⟨fun g=>.nil (fun id e=>by cases e) (by simp),trivial⟩
 cases h
def pE:List ae->List Value->Bool
 | [],[]=>true
 | x::xs,u::us=>Dt x u&&pE xs us
 | _,_=>false
theorem r8:∀{xs:List ae} {us:List Value},pE xs us=true->us.length=xs.length∧(∀g:G,∀(j:Nat) (c:ae) (u:Value),xs[j]?=some c->us[j]?=some u->RV g c u)∧∀c∈xs,c.scalar
 | [],[],_=>⟨rfl,by simp,by simp⟩
 | x::xs,u::us,h=>by
  simp only[pE,Bool.and_eq_true]at h;obtain⟨h1,h2⟩:=Bv h.1;obtain⟨h3,h4,h5⟩:=r8 h.2;refine⟨by simp[h3],fun g j c w a b=>?_,fun c hc=>?_⟩
  ·cases j with
   | zero =>
    simp at a b;subst a;subst b;exact h1 g
   | succ j=>exact h4 g j c w (by simpa using a) (by simpa using b)
  rcases List.mem_cons.1 hc with e|e
  ·subst e;exact h2
  exact h5 c e
 | [],_::_,h=>by simp[pE]at h
 | _::_,[],h=>by simp[pE]at h
def pe:List Field->List (Nat×TypeId)->Bool
 | [],[]=>true
 | f::r,p::q=>decide (f.offset=p.1)&&decide (f.type=p.2)&&pe r q
 | _,_=>false
theorem ri:∀{fs:List Field} {ps:List (Nat×TypeId)},pe fs ps=true->fs.map (fun f=>(f.offset,f.type))=ps
 | [],[],_=>rfl
 | f::r,p::q,h=>by
  simp only[pe,Bool.and_eq_true,decide_eq_true_eq]at h;obtain⟨⟨h1,h2⟩,h3⟩:=h;rw[List.map_cons,ri h3,h1,h2]
 | [],_::_,h=>by simp[pe]at h
 | _::_,[],h=>by simp[pe]at h
def Hg:TypeDesc->TD->Bool
 | .struct fields,.struct fs=>pe fields.toList fs
 | .slice e,.slice e'=>decide (e=e')
 | .array n e,.array n' e'=>decide (n=n')&&decide (e=e')
 | .map k e,.map k' e'=>decide (k=k')&&decide (e=e')
 | .struct _,.other=>false
 | .array _ _,.other=>false
 | _,.other=>true
 | _,_=>false
theorem Cg{d:TypeDesc}{td:TD}(h:Hg d td=true):sm d td:=by
 unfold Hg at h;split at h
 ·exact⟨_,rfl,ri h⟩
 ·simp only[decide_eq_true_eq]at h;subst h;rfl
 ·simp only[Bool.and_eq_true,decide_eq_true_eq]at h;obtain⟨h1,h2⟩:=h;subst h1;subst h2;rfl
 ·simp only[Bool.and_eq_true,decide_eq_true_eq]at h;obtain⟨h1,h2⟩:=h;subst h1;subst h2;rfl
 ·cases h
 ·cases h
 ·rename_i h1 h2;cases d<;>first|trivial|exact(h1 _ rfl).elim|exact(h2 _ _ rfl).elim
 cases h
def Db(agg:Bool):Value->Bool
 | .agg _=>agg
 | _=>!agg
def br(P:Program)(t:TypeId)(ti:cQ):Bool :=
 match P.info? t,P.underlying t with
 | some i,some d=>decide (i.size=ti.size)&&decide (i.bytes=ti.bytes)&&Hg d ti.desc&&decide (ti.zero.length=ti.size) &&
  (match i.zero with
  | some z=>pE ti.zero z.cells.toList&&Db ti.desc.agg z
  | none=>false)
 | _,_=>false
theorem az{P:Program}{t:TypeId}{ti:cQ}(h:br P t ti=true):Dv P t ti:=by
 unfold br at h;split at h
 ·rename_i i d hi hd;split at h
  ·rename_i z hz;simp only[Bool.and_eq_true,decide_eq_true_eq]at h;obtain⟨⟨⟨⟨h1,h2⟩,h3⟩,h4⟩,h5,h6⟩:=h;obtain⟨q1,q2,q3⟩:=r8 h5;refine⟨⟨i,z,hi,h1,h2,hz,by simpa using q1,h4,⟨fun ha=>?_,fun ha=>?_⟩,fun g j c u a b=>q2 g j c u a (by simpa using b),q3⟩,d,hd,Cg h3⟩
   ·cases z with
    | agg cs=>exact⟨cs,rfl⟩
    | _=>simp[Db,ha]at h6
   cases z with
   | agg cs=>simp[Db,ha]at h6
   | _=>rfl
  simp at h
 cases h
theorem Lq{P:Program}{kb:Nat}{c:Code}{Q:dw->St->Prop}{σ:St}{F:Prop}(hf:∀base a g,Rel base σ a g->F)(h:F->cy P kb c Q σ):cy P kb c Q σ:=fun base a g hb hr=>h (hf base a g hr) base a g hb hr
theorem bT{P:Program}{kb:Nat}{c:Code}{Q:dw->St->Prop}{n:Nat}{bC:List (Nat×ae)}{O:List ay}(s:Nat){sz:Nat}{xs:List ae}{o:od}(hs:look bC s=some (.aC sz xs o))
  (h:xs.length<=2 ^ 62->cy P kb c Q ⟨n,bC,O⟩):cy P kb c Q ⟨n,bC,O⟩ :=
 Lq (fun _ _ _ hr=>by
  obtain⟨u,_,h2⟩:=hr.slot s _ hs;exact h2.D0) h
theorem rE:∀{l:List (Nat×ae)} {s:Nat} {x:ae},look l s=some x->(s,x)∈l
 | (k,y)::r,s,x,h=>by
  simp only[look]at h;split at h
  ·rename_i e;subst e;simp only[Option.some.injEq]at h;subst h;exact List.mem_cons_self
  exact List.mem_cons_of_mem _ (rE h)
theorem ba{P:Program}{kb:Nat}{c:Code}{Q:dw->St->Prop}{n:Nat}{bC:List (Nat×ae)}{O:List ay}(k:Nat)(cV:List (Nat×ae))(hk:k<=O.length)(L5:kb<=k)(O':List ay)(Rn:O.take k=O')(hb:∀o∈O',o.upto k)
  (hs:dy ⟨n,bC,O⟩ cV) (wx:∀p∈cV,p.2.upto k) (h:cy P kb c Q ⟨n,cV,O'⟩):cy P kb c Q ⟨n,bC,O⟩ :=
 se k hk L5 cV (by rw[Rn];exact hb) hs (fun s x hx=>wx _ (rE hx)) (by rw[Rn];exact h)
theorem oY{α:Type}(l:List α)(x:α):(l++[x])[l.length]?=some x:=by simp
theorem vS{α:Type}(l:List α)(x y:α):(l++[x]).set l.length y=l++[y]:=by simp
theorem jY{α:Type}(l m:List α):(l++m).take l.length=l:=by simp
theorem jC{α:Type}{l:List α}{i:Nat}{y:α}(h:l[i]?=some y)(m:List α):(l++m)[i]?=some y:=by
 rw[List.getElem?_append,if_pos (ag h)];exact h
theorem nE{α:Type}{l:List α}{i:Nat}{y:α}(h:l[i]?=some y)(m:List α)(z:α):(l++m).set i z=l.set i z++m:=by
 rw[List.set_append,if_pos (ag h)]
theorem De(cs:List ae):bu cs 0 []=cs:=by simp[bu]
theorem Bf(c x:ae)(cs xs:List ae):bu (c::cs) 0 (x::xs)=x::bu cs 0 xs:=by simp[bu]
theorem Bh(c:ae)(cs xs:List ae)(k:Nat):bu (c::cs) (k+1) xs=c::bu cs k xs:=by
 simp only[bu,List.take_succ_cons,List.cons_append,List.cons.injEq,true_and];rw[show k+1+xs.length=(k+xs.length)+1 by omega,List.drop_succ_cons]
theorem zv{α β:Type}(f:α->β)(l:List α):(l.map f).take l.length=l.map f:=List.take_of_length_le (by simp)
mutual
theorem ae.ep{n m:Nat}(h:n<=m):∀x:ae,x.upto n->x.upto m
 | .v _,_=>trivial
 | .agg cs,hx=>ig h cs hx
 | .aC _ xs o,hx=>by
  refine⟨ig h xs hx.1,?_⟩;have:=hx.2;cases o<;>first|trivial|exact Nat.lt_of_lt_of_le this h
 | .ip _ cs,hx=>ig h cs hx
 | .mp _ _,hx=>Nat.lt_of_lt_of_le hx h
 | .ms _ _ _ _,hx=>Nat.lt_of_lt_of_le hx h
 | .os _ _ _,hx=>Nat.lt_of_lt_of_le hx h
 | .raw _ _ _,hx=>Nat.lt_of_lt_of_le hx h
 | .mm _,hx=>Nat.lt_of_lt_of_le hx h
 | .im _ es,hx=>qH h es hx
 | .fn _ fs cs,hx=>⟨ig h fs hx.1,ig h cs hx.2⟩
 | .c5 cs,hx=>ig h cs hx
theorem ig{n m:Nat}(h:n<=m):∀l:List ae,aq n l->aq m l
 | [],_=>trivial
 | x::r,hx=>⟨ae.ep h x hx.1,ig h r hx.2⟩
theorem qH{n m:Nat}(h:n<=m):∀l:List (Value×ae),kC n l->kC m l
 | [],_=>trivial
 | (k,x)::r,hx=>⟨ae.ep h x hx.1,qH h r hx.2⟩
end
theorem ay.ep{n m:Nat}(h:n<=m){o:ay}(ho:o.upto n):o.upto m:=by
 cases o with
 | cells cs=>exact ig h cs ho
 | map kt es=>exact qH h es ho
 | _=>trivial
abbrev OP{α:Type}(sz:Nat)(f:α->ae)(l:List α):ae:=.aC sz (l.map f) .sh
theorem sub_self(O:List ay)(x:ae):Sub O x x=True:=by simp[Sub.refl]
theorem Sub.int{O:List ay}{k:IntKind}{a b:Int}(h:a=b):Sub O (.v (.int k a)) (.v (.int k b)):=.of_eq (by rw[h])
theorem Sub.aC{O:List ay}{sz:Nat}{xs ys:List ae}{o:od}(h:xs=ys):Sub O (.aC sz xs o) (.aC sz ys o):=.of_eq (by rw[h])
theorem ah{p:Unit->Prop}{t:Tag p}(h:p ()):ue p t:=h
theorem Lv(x:Value):ae.cells (.v x)=[.v x]:=rfl
theorem Pf(x:Value):ae.flat (.v x)=True:=rfl
theorem uc(x:Value):ae.share (.v x)=.v x:=rfl
theorem c4(x:Value):ae.bp (.v x)=.v x:=rfl
theorem Fe(sz:Nat)(xs:List ae)(o:od):ae.cells (.aC sz xs o)=[.aC sz xs o]:=rfl
theorem Hu(sz:Nat)(xs:List ae)(o:od):ae.flat (.aC sz xs o)=True:=rfl
theorem Gg(sz:Nat)(xs:List ae)(o:od):ae.share (.aC sz xs o)=.aC sz xs .sh:=rfl
theorem cw(sz:Nat)(xs:List ae)(o:od):ae.bp (.aC sz xs o)=.aC sz xs .sh:=rfl
theorem G1(oa:Option Addr)(cs:List ae):ae.cells (.ip oa cs)=[.ip oa cs]:=rfl
theorem LD(oa:Option Addr)(cs:List ae):ae.flat (.ip oa cs)=True:=rfl
theorem IF(oa:Option Addr)(cs:List ae):ae.share (.ip oa cs)=.ip oa cs:=rfl
theorem dX(oa:Option Addr)(cs:List ae):ae.bp (.ip oa cs)=.ip oa cs:=rfl
theorem G3(id off:Nat):ae.cells (.mp id off)=[.mp id off]:=rfl
theorem LG(id off:Nat):ae.flat (.mp id off)=True:=rfl
theorem IH(id off:Nat):ae.share (.mp id off)=.mp id off:=rfl
theorem dZ(id off:Nat):ae.bp (.mp id off)=.mp id off:=rfl
theorem Ff(sz n id:Nat):ae.cells (.raw sz n id)=[.raw sz n id]:=rfl
theorem Hv(sz n id:Nat):ae.flat (.raw sz n id)=True:=rfl
theorem Gh(sz n id:Nat):ae.share (.raw sz n id)=.raw sz n id:=rfl
theorem xb(sz n id:Nat):ae.bp (.raw sz n id)=.raw sz n id:=rfl
theorem G4(id off len cap:Nat):ae.cells (.ms id off len cap)=[.ms id off len cap]:=rfl
theorem LH(id off len cap:Nat):ae.flat (.ms id off len cap)=True:=rfl
theorem II(id off len cap:Nat):ae.share (.ms id off len cap)=.ms id off len cap:=rfl
theorem zm(id off len cap:Nat):ae.bp (.ms id off len cap)=.ms id off len cap:=rfl
theorem G2(id:Nat):ae.cells (.mm id)=[.mm id]:=rfl
theorem LF(id:Nat):ae.flat (.mm id)=True:=rfl
theorem IG(id:Nat):ae.share (.mm id)=.mm id:=rfl
theorem dY(id:Nat):ae.bp (.mm id)=.mm id:=rfl
theorem G0(kt:KT)(es:List (Value×ae)):ae.cells (.im kt es)=[.im kt es]:=rfl
theorem LC(kt:KT)(es:List (Value×ae)):ae.flat (.im kt es)=True:=rfl
theorem IE(kt:KT)(es:List (Value×ae)):ae.share (.im kt es)=.im kt es:=rfl
theorem dW(kt:KT)(es:List (Value×ae)):ae.bp (.im kt es)=.im kt es:=rfl
theorem GZ(f:Fn)(fs cs:List ae):ae.cells (.fn f fs cs)=[.fn f fs cs]:=rfl
theorem LB(f:Fn)(fs cs:List ae):ae.flat (.fn f fs cs)=True:=rfl
theorem ID(f:Fn)(fs cs:List ae):ae.share (.fn f fs cs)=.fn f fs cs:=rfl
theorem dV(f:Fn)(fs cs:List ae):ae.bp (.fn f fs cs)=.fn f fs cs:=rfl
theorem Fc(cs:List ae):ae.cells (.agg cs)=cs:=rfl
theorem flat_agg(cs:List ae):ae.flat (.agg cs)=True:=rfl
theorem Gf(cs:List ae):ae.share (.agg cs)=.agg (cs.map ae.bp):=rfl
theorem Gi(cs:List ae):ae.share (.c5 cs)=.c5 cs:=rfl
def aa:=And.intro @dh.eq_1 <|
 And.intro @dh.eq_2 <|
 And.intro @KR.eq_1 <|
 And.intro @wg.eq_1 <|
 And.intro @y1 <|
 And.intro @Aj <|
 And.intro @Cj <|
 And.intro @ew <|
 And.intro @dE <|
 And.intro @Dn.eq_1 <|
 And.intro @o5.eq_1 <|
 And.intro @zA.eq_1 <|
 And.intro @Dm.eq_1 <|
 And.intro @zC.eq_1 <|
 And.intro @o6.eq_1 <|
 And.intro @pT.eq_1 <|
 And.intro @pT.eq_2 <|
 And.intro @pT.eq_3 <|
 And.intro @pT.eq_4 <|
 And.intro @pT.eq_5 <|
 And.intro @pT.eq_6 <|
 And.intro @pT.eq_7 <|
 And.intro @O5.eq_1 <|
 And.intro @F3.eq_1 <|
 And.intro @F3.eq_2 <|
 And.intro @F3.eq_3 <|
 And.intro @EV.eq_1 <|
 And.intro @KU.eq_1 <|
 And.intro @KU.eq_2 <|
 And.intro @KU.eq_3 <|
 And.intro @Gz.eq_1 <|
 And.intro @Gz.eq_2 <|
 And.intro @zB.eq_1 <|
 And.intro @Bo.eq_1 <|
 And.intro @Bo.eq_2 <|
 And.intro @zw.eq_1 <|
 And.intro @nI.eq_1 <|
 And.intro @o7.eq_1 <|
 And.intro @we.eq_1 <|
 And.intro @kD.eq_1 <|
 And.intro @sN.eq_1 <|
 And.intro @KO.eq_1 <|
 And.intro @v8.eq_1 <|
 And.intro @KQ.eq_1 <|
 And.intro @KN.eq_1 <|
 And.intro @zz.eq_1 <|
 And.intro @zy.eq_1 <|
 And.intro @zy.eq_2 <|
 And.intro @eQ.eq_1 <|
 And.intro @eQ.eq_2 <|
 And.intro @eQ.eq_3 <|
 And.intro @eQ.eq_4 <|
 And.intro @eQ.eq_5 <|
 And.intro @eQ.eq_6 <|
 And.intro @eQ.eq_7 <|
 And.intro @eQ.eq_8 <|
 And.intro @eQ.eq_9 <|
 And.intro @eQ.eq_10 <|
 And.intro @eQ.eq_11 <|
 And.intro @eQ.eq_12 <|
 And.intro @eQ.eq_13 <|
 And.intro @eQ.eq_14 <|
 And.intro @KS.eq_1 <|
 And.intro @KP.eq_1 <|
 And.intro @lA.eq_1 <|
 And.intro @lA.eq_2 <|
 @lA.eq_3
def SU:=And.intro @Qa <|
 And.intro @rL.eq_1 <|
 And.intro @rL.eq_2 <|
 And.intro @rL.eq_3 <|
 And.intro @rL.eq_4 <|
 And.intro @rL.eq_5 <|
 And.intro @q8.eq_1 <|
 And.intro @q8.eq_2 <|
 And.intro @isNil.eq_1 <|
 And.intro @isNil.eq_2 <|
 And.intro @St.ev.eq_1 <|
 And.intro @St.ev.eq_2 <|
 And.intro @St.ev.eq_3 <|
 And.intro @St.ev.eq_4 <|
 And.intro @St.get.eq_1 <|
 And.intro @ly.eq_1 <|
 And.intro @ly.eq_2 <|
 And.intro @lI.eq_1 <|
 And.intro @lI.eq_2 <|
 And.intro @look.eq_1 <|
 And.intro @look.eq_2 <|
 And.intro @ax.eq_1 <|
 And.intro @ax.eq_2 <|
 And.intro @Hi.eq_1 <|
 And.intro @Hi.eq_2 <|
 And.intro @tR.eq_1 <|
 And.intro @tR.eq_2 <|
 And.intro @cq.eq_1 <|
 And.intro @bL.eq_1 <|
 And.intro @bL.eq_2 <|
 And.intro @re.eq_1 <|
 And.intro @re.eq_2 <|
 And.intro @Mode.post.eq_1 <|
 And.intro @Mode.post.eq_2 <|
 And.intro @Mode.post.eq_3 <|
 And.intro @Mode.post.eq_4 <|
 And.intro @Mode.kind.eq_1 <|
 And.intro @Mode.kind.eq_2 <|
 And.intro @Mode.kind.eq_3 <|
 And.intro @Mode.kind.eq_4 <|
 And.intro @Mode.kind.eq_5 <|
 And.intro @Mode.kind.eq_6 <|
 And.intro @Lv <|
 And.intro @Pf <|
 And.intro @uc <|
 And.intro @c4 <|
 And.intro @Fe <|
 And.intro @Hu <|
 And.intro @Gg <|
 And.intro @cw <|
 And.intro @G1 <|
 And.intro @LD <|
 And.intro @IF <|
 And.intro @dX <|
 And.intro @G3 <|
 And.intro @LG <|
 And.intro @IH <|
 And.intro @dZ <|
 And.intro @Ff <|
 And.intro @Hv <|
 And.intro @Gh <|
 And.intro @xb <|
 And.intro @G4 <|
 And.intro @LH <|
 And.intro @II <|
 And.intro @zm <|
 And.intro @G2 <|
 And.intro @LF <|
 And.intro @IG <|
 And.intro @dY <|
 And.intro @G0 <|
 And.intro @LC <|
 And.intro @IE <|
 And.intro @dW <|
 And.intro @GZ <|
 And.intro @LB <|
 And.intro @ID <|
 And.intro @dV <|
 And.intro @Fc <|
 And.intro @flat_agg <|
 And.intro @Gf <|
 And.intro @Gi <|
 And.intro @sd.eq_1 <|
 And.intro @sd.eq_2 <|
 And.intro @sd.eq_3 <|
 And.intro @sd.eq_4 <|
 And.intro @ln.eq_1 <|
 And.intro @ln.eq_2 <|
 And.intro @ln.eq_3 <|
 And.intro @ln.eq_4 <|
 And.intro @ln.eq_5 <|
 And.intro @ln.eq_6 <|
 And.intro @ln.eq_7 <|
 And.intro @fe.eq_1 <|
 And.intro @fe.eq_2 <|
 And.intro @fe.eq_3 <|
 And.intro @fe.eq_4 <|
 And.intro @fe.eq_5 <|
 And.intro @fe.eq_6 <|
 And.intro @fe.eq_7 <|
 And.intro @fe.eq_8 <|
 And.intro @fe.eq_9 <|
 And.intro @fK.eq_1 <|
 And.intro @dU.eq_1 <|
 And.intro @dU.eq_2 <|
 And.intro @dU.eq_3 <|
 And.intro @dU.eq_4 <|
 And.intro @dU.eq_5 <|
 And.intro @dU.eq_6 <|
 And.intro @dU.eq_7 <|
 And.intro @dU.eq_8 <|
 And.intro @dU.eq_9 <|
 And.intro @dU.eq_10 <|
 And.intro @dU.eq_11 <|
 And.intro @dU.eq_12 <|
 And.intro @dU.eq_13 <|
 And.intro @dU.eq_14 <|
 And.intro @dU.eq_15 <|
 And.intro @dU.eq_16 <|
 And.intro @dU.eq_17 <|
 And.intro @uV.eq_1 <|
 And.intro @uV.eq_2 <|
 And.intro @uV.eq_3 <|
 And.intro @q9.eq_1 <|
 And.intro @q9.eq_2 <|
 And.intro @q9.eq_3 <|
 And.intro @Bool.and_true <|
 And.intro @Bool.true_and <|
 And.intro @Bool.and_false <|
 And.intro @Bool.false_and <|
 And.intro @Bool.and_self <|
 And.intro @CU.eq_1 <|
 And.intro @CU.eq_2 <|
 And.intro @CU.eq_3 <|
 And.intro @CU.eq_4 <|
 And.intro @j8.eq_1 <|
 And.intro @j8.eq_2 <|
 And.intro @j8.eq_3 <|
 And.intro @GW.eq_1 <|
 And.intro @GW.eq_2 <|
 And.intro @St.Bx.eq_1 <|
 And.intro @St.Bx.eq_2 <|
 And.intro @St.gk.eq_1 <|
 And.intro @St.gk.eq_2 <|
 And.intro @m4.eq_1 <|
 And.intro @m4.eq_2 <|
 And.intro @qO.eq_1 <|
 And.intro @qO.eq_2 <|
 And.intro @kO.eq_1 <|
 And.intro @kO.eq_2 <|
 And.intro @De <|
 And.intro @Bf <|
 And.intro @Bh <|
 And.intro @jB.eq_1 <|
 And.intro @jB.eq_2 <|
 And.intro @jA.eq_1 <|
 And.intro @jA.eq_2 <|
 And.intro @TD.agg.eq_1 <|
 And.intro @TD.agg.eq_2 <|
 And.intro @TD.agg.eq_3 <|
 And.intro @TD.elem.eq_1 <|
 And.intro @TD.elem.eq_2 <|
 And.intro @FW.eq_1 <|
 And.intro @FW.eq_2 <|
 And.intro @FW.eq_3 <|
 And.intro @lX.eq_1 <|
 And.intro @zeroOf.eq_1 <|
 And.intro @Lh.eq_1 <|
 And.intro @Lh.eq_2 <|
 And.intro @Lh.eq_3 <|
 And.intro @Lh.eq_4 <|
 And.intro @Lh.eq_5 <|
 And.intro @FE.eq_1 <|
 And.intro @FE.eq_2 <|
 And.intro @FE.eq_3 <|
 And.intro @FE.eq_4 <|
 And.intro @FE.eq_5 <|
 And.intro @FE.eq_6 <|
 And.intro @FE.eq_7 <|
 And.intro @FE.eq_8 <|
 And.intro @and_self <|
 And.intro @true_and <|
 And.intro @and_true <|
 And.intro @not_false_eq_true <|
 And.intro @List.nil_append.{0} <|
 And.intro @List.cons_append.{0} <|
 And.intro @List.append_nil.{0} <|
 And.intro @List.length_nil.{0} <|
 And.intro @List.length_cons.{0} <|
 And.intro @List.getElem?_cons_zero.{0} <|
 And.intro @List.getElem?_cons_succ.{0} <|
 And.intro @List.getElem?_nil.{0} <|
 And.intro @List.take_succ_cons.{0} <|
 And.intro @List.take_zero.{0} <|
 And.intro @List.take_nil.{0} <|
 And.intro @List.drop_succ_cons.{0} <|
 And.intro @List.drop_zero.{0} <|
 And.intro @List.drop_nil.{0} <|
 And.intro @List.set_cons_zero.{0} <|
 And.intro @List.set_cons_succ.{0} <|
 And.intro @List.map_cons.{0,0} <|
 And.intro @List.map_nil.{0,0} <|
 And.intro @Option.map_none.{0,0} <|
 And.intro @Option.map_some.{0,0} <|
 And.intro @Option.isSome_some.{0} <|
 And.intro @Option.isSome_none.{0} <|
 And.intro @Option.bind_some.{0,0} <|
 And.intro @Bool.false_eq_true <|
 And.intro @Bool.not_true <|
 And.intro @Bool.not_false <|
 And.intro @beq_self_eq_true.{0} <|
 And.intro @List.getElem?_toArray.{0} <|
 And.intro @Nat.zero_add <|
 And.intro @Nat.add_zero <|
 And.intro @decide_true <|
 And.intro @decide_false <|
 And.intro @beq_true <|
 And.intro @beq_false <|
 And.intro @Bool.true_beq <|
 And.intro @Bool.false_beq <|
 And.intro @Bool.not_not <|
 And.intro @decide_eq_true_eq <|
 And.intro @decide_eq_false_iff_not <|
 And.intro @Bool.not_eq_true' <|
 And.intro @Bool.not_eq_false' <|
 And.intro @Bool.not_eq_true <|
 And.intro @Bool.not_eq_false <|
 And.intro @Int.toNat_natCast <|
 And.intro @Int.natCast_zero <|
 And.intro @Int.sub_zero <|
 And.intro @Int.add_zero <|
 And.intro @Int.zero_add <|
 And.intro @Int.toNat_zero <|
 And.intro @List.getElem?_map.{0,0} <|
 And.intro @Int.natCast_nonneg <|
 And.intro @List.length_map.{0,0} <|
 And.intro @List.not_mem_nil.{0} <|
 And.intro @false_implies <|
 And.intro @List.length_append.{0} <|
 And.intro @or_false <|
 And.intro @or_true <|
 And.intro @true_or <|
 And.intro @false_or <|
 And.intro @or_self <|
 And.intro @oY <|
 And.intro @vS <|
 And.intro @zv <|
 @Nat.le_refl
def ai:=And.intro @zk <|
 And.intro @zh <|
 And.intro @oW <|
 And.intro @uB <|
 And.intro @me <|
 And.intro @uC <|
 And.intro @tv <|
 And.intro @w8 <|
 And.intro @nv <|
 And.intro @w7 <|
 @not_false_eq_true
def G.cut(g:G)(n:Nat):G:=⟨g.w,fun b off=>g.fr b off∨∃(id:Nat) (l:Loc) (o:ay),n<=id∧g.env[id]?=some (some l)∧g.objs[id]?=some o∧o.live∧l.block=b∧l.lo<=off,g.env.take n,g.objs.take n⟩
theorem bB{α:Type}{l:List α}{n i:Nat}{x:α}:(l.take n)[i]?=some x↔i<n∧l[i]?=some x:=by
 rw[List.getElem?_take];split
 ·rename_i h;simp[h]
 rename_i h;simp[h]
theorem ym{g:G}{n b off:Nat}:lD (g.cut n) b off↔lD g b off:=by
 constructor
 ·rintro((h|⟨id,l,o,_,h1,h2,h3,h4,h5⟩)|⟨id,l,o,h1,h2,h3,h4,h5⟩)
  ·exact .inl h
  ·exact .inr ⟨id,l,o,h1,h2,h3,h4,h5⟩
  exact .inr ⟨id,l,o,(bB.1 h1).2,(bB.1 h2).2,h3,h4,h5⟩
 rintro(h|⟨id,l,o,h1,h2,h3,h4,h5⟩)
 ·exact .inl (.inl h)
 rcases Nat.lt_or_ge id n with aN|ql
 ·exact .inr ⟨id,l,o,bB.2 ⟨aN,h1⟩,bB.2 ⟨aN,h2⟩,h3,h4,h5⟩
 exact .inl (.inr ⟨id,l,o,ql,h1,h2,h3,h4,h5⟩)
theorem RV.cut{g:G}{n:Nat}(sr:n<=g.objs.length){x:ae}{u:Value}(h:RV g x u)(hb:x.upto n):RV (g.cut n) x u:=by
 induction h with
 | v hx=>exact .v hx
 | agg hl en _ ih =>
  simp only[ae.upto,a9]at hb;exact .agg hl en fun i c u a b=>ih i c u a b (hb c (List.mem_of_getElem? a))
 | nil ho nX =>
  simp only[ae.upto]at hb;refine .nil (fun id e=>?_) nX;subst e;have:=hb.2;simp only at this;simp only[G.cut,List.length_take];omega
 | aC dk en di cZ hs f hm hr ho ih =>
  rename_i sz xs o a cap;simp only[ae.upto,a9]at hb;refine .aC dk en di cZ hs f (fun j c hj=>⟨(hm j c hj).1,fun q=>(hm j c hj).2 (ym.1 q)⟩) (fun j c hj=>ih j c hj ?_) ?_
  ·have hc:=List.mem_of_getElem? hj;simp only[ar,List.mem_flatMap]at hc;obtain⟨x,hx,hc⟩:=hc;have:=hb.1 x hx;cases x with
   | agg cs =>
    simp only[ae.upto,a9]at this;exact this c hc
   | _=>simp only[ae.cells,List.mem_singleton]at hc;subst hc;exact this
  cases o with
  | sh=>trivial
  | nn=>trivial
  | ex=>exact ho
  | loc a=>exact ho
  | tok id =>
   have jE:=hb.2;simp only at jE;refine⟨by simp only[G.cut,List.length_take];omega,fun m eS=>?_⟩;obtain⟨h1,h2⟩:=ho.2 m (bB.1 eS).2;refine⟨h1,fun e=>?_⟩;rcases h2 e with q|⟨l,arr,t,q1,q2⟩
   ·exact .inl q
   exact .inr ⟨l,arr,t,bB.2 ⟨jE,q1⟩,q2⟩
 | ip ha en f hm hr ih =>
  simp only[ae.upto,a9]at hb;exact .ip ha en f (fun j c hj=>⟨(hm j c hj).1,fun q=>(hm j c hj).2 (ym.1 q)⟩) fun j c hj=>ih j c hj (hb c (List.mem_of_getElem? hj))
 | mp he ho kX =>
  simp only[ae.upto]at hb;exact .mp (bB.2 ⟨hb,he⟩) (bB.2 ⟨hb,ho⟩) kX
 | ms he ho kX hc nO cZ =>
  simp only[ae.upto]at hb;exact .ms (bB.2 ⟨hb,he⟩) (bB.2 ⟨hb,ho⟩) kX hc nO cZ
 | os he ho kX hc nO cZ =>
  simp only[ae.upto]at hb;exact .os (bB.2 ⟨hb,he⟩) (bB.2 ⟨hb,ho⟩) kX hc nO cZ
 | raw nX ho =>
  rename_i sz n0 id a cap;have jE:id<n:=hb;refine .raw nX ⟨by simp only[G.cut,List.length_take];omega,fun m eS=>?_⟩;obtain⟨h1,h2⟩:=ho.2 m (bB.1 eS).2;refine⟨h1,fun e=>?_⟩;rcases h2 e with q|⟨l,arr,t,q1,q2⟩
  ·exact .inl q
  exact .inr ⟨l,arr,t,bB.2 ⟨jE,q1⟩,q2⟩
 | mm he ho kX =>
  simp only[ae.upto]at hb;exact .mm (bB.2 ⟨hb,he⟩) (bB.2 ⟨hb,ho⟩) kX
 | im hh kX hl hk wR _ ih =>
  simp only[ae.upto,je]at hb;exact .im hh (fun off q=>kX off (ym.1 q)) hl hk wR fun i e kx a b=>ih i e kx a b (hb kx (List.mem_of_getElem? b))
 | fn hl rB _ _ ih DY =>
  simp only[ae.upto,a9]at hb;exact .fn hl rB (fun i c u a b=>ih i c u a b (hb.1 c (List.mem_of_getElem? a))) fun i c u a b=>DY i c u a b (hb.2 c (List.mem_of_getElem? a))
 | c5 hl _ ih =>
  simp only[ae.upto,a9]at hb;exact .c5 hl fun i c u a b=>ih i c u a b (hb c (List.mem_of_getElem? a))
theorem Good.cut{g:G}(hg:Good g){n:Nat}(hn:n<=g.objs.length)(hb:∀o∈g.objs.take n,o.upto n):Good (g.cut n) where
 frlt:=fun b off h=>by
  rcases h with h|⟨id,l,o,_,h1,h2,h3,h4,_⟩
  ·exact hg.frlt b off h
  exact h4 ▸ hg.loc id l o h1 h2 h3
 fU:=fun id l o h1 h2 h3 off h=>by
  obtain⟨q1,h1⟩:=bB.1 h1;obtain⟨_,h2⟩:=bB.1 h2;rcases h with h|⟨oP,l',o',k0,k1,k2,k3,k4,_⟩
  ·exact hg.fU id l o h1 h2 h3 off h
  have:=hg.apart id oP l l' o o' h1 h2 h3 k1 k2 k3 k4.symm;omega
 len:=by simp[G.cut,hg.len]
 loc:=fun id l o h1 h2 h3=>hg.loc id l o (bB.1 h1).2 (bB.1 h2).2 h3
 apart:=fun id oP l l' o o' h1 h2 h3 k1 k2 k3=>hg.apart id oP l l' o o' (bB.1 h1).2 (bB.1 h2).2 h3 (bB.1 k1).2 (bB.1 k2).2 k3
 cells:=fun id cs h1=>by
  have sa:=hb _ (List.mem_of_getElem? h1);obtain⟨q,h1⟩:=bB.1 h1;obtain⟨l,arr,t,e1,e0,e2,e3,e4,e5⟩:=hg.cells id cs h1;simp only[ay.upto,a9]at sa;exact⟨l,arr,t,bB.2 ⟨q,e1⟩,e0,e2,e3,fun j c u a b=>(e4 j c u a b).cut hn (sa c (List.mem_of_getElem? a)),e5⟩
 spare:=fun id m l h1 h2=>hg.spare id m l (bB.1 h1).2 (bB.1 h2).2
 map:=fun id kt es h1=>by
  have sa:=hb _ (List.mem_of_getElem? h1);obtain⟨q,h1⟩:=bB.1 h1;obtain⟨l,arr,clk,e1,e0,e2,e3,e6,e4⟩:=hg.map id kt es h1;simp only[ay.upto,je]at sa;exact⟨l,arr,clk,bB.2 ⟨q,e1⟩,e0,e2,e3,e6,fun i e kx a b=>⟨(e4 i e kx a b).1,(e4 i e kx a b).2.1,(e4 i e kx a b).2.2.cut hn (sa kx (List.mem_of_getElem? b))⟩⟩
def G.gI(g:G)(n:Nat)(g':G):G:=⟨g'.w,g.fr,g'.env++g.env.drop n,g'.objs++g.objs.drop n⟩
theorem aT{α:Type}{a l:List α}{n i:Nat}{x:α}(ha:a.length=n):(a++l.drop n)[i]?=some x↔(i<n∧a[i]?=some x)∨(n<=i∧l[i]?=some x):=by
 rw[List.getElem?_append];split
 ·rename_i h;constructor
  ·intro e;exact .inl ⟨by omega,e⟩
  rintro(⟨_,e⟩|⟨q,_⟩)
  ·exact e
  omega
 rename_i h;rw[List.getElem?_drop,show n+(i-a.length)=i by omega];constructor
 ·intro e;exact .inr ⟨by omega,e⟩
 rintro(⟨q,_⟩|⟨_,e⟩)
 ·omega
 exact e
structure qL(g:G)(n:Nat)(g':G):Prop where
 good:Good g
 le:Le (g.cut n) g'
 rp:Good g'
 lt:n<=g.objs.length
 same:g'.objs.length=n
theorem qL.env{g g':G}{n:Nat}(h:qL g n g'):g'.env.length=n:=h.rp.len.trans h.same
theorem qL.U0{g g':G}{n b:Nat}(h:qL g n g')(hn:gv (g.gI n g') b):gv g' b∨∃(id:Nat) (l:Loc) (o:ay),n<=id∧g.env[id]?=some (some l)∧g.objs[id]?=some o∧o.live∧l.block=b:=by
 obtain⟨id,l,o,h1,h2,h3,h4⟩:=hn;rcases(aT h.env).1 h1 with⟨q1,h1⟩|⟨q1,h1⟩
 ·rcases(aT h.same).1 h2 with⟨q2,h2⟩|⟨q2,h2⟩
  ·exact .inl ⟨id,l,o,h1,h2,h3,h4⟩
  omega
 rcases(aT h.same).1 h2 with⟨q2,h2⟩|⟨q2,h2⟩
 ·omega
 exact .inr ⟨id,l,o,q1,h1,h2,h3,h4⟩
theorem qL.own{g g':G}{n b off:Nat}(h:qL g n g'):lD (g.gI n g') b off->lD g' b off:=by
 rintro(hf|⟨id,l,o,h1,h2,h3,h4,h5⟩)
 ·refine .inl ?_;rw[h.le.fr];exact .inl hf
 rcases(aT h.env).1 h1 with⟨q1,h1⟩|⟨q1,h1⟩
 ·rcases(aT h.same).1 h2 with⟨q2,h2⟩|⟨q2,h2⟩
  ·exact .inr ⟨id,l,o,h1,h2,h3,h4,h5⟩
  omega
 rcases(aT h.same).1 h2 with⟨q2,h2⟩|⟨q2,h2⟩
 ·omega
 refine .inl ?_;rw[h.le.fr];exact .inr ⟨id,l,o,q1,h1,h2,h3,h4,h5⟩
theorem He{g:G}{n b:Nat}(h:gv (g.cut n) b):gv g b:=by
 obtain⟨id,l,o,h1,h2,h3,h4⟩:=h;exact⟨id,l,o,(bB.1 h1).2,(bB.1 h2).2,h3,h4⟩
theorem Hf{g:G}{n b off:Nat}(h:kd (g.cut n) b off):kd g b off:=by
 obtain⟨id,l,o,h1,h2,h3,h4,h5⟩:=h;exact⟨id,l,o,(bB.1 h1).2,(bB.1 h2).2,h3,h4,h5⟩
theorem qL.block{g g':G}{n:Nat}(h:qL g n g'){id:Nat}{l:Loc}{o:ay}(jE:n<=id)(h1:g.env[id]?=some (some l))(h2:g.objs[id]?=some o)(h3:o.live):g'.w.heap[l.block]?=g.w.heap[l.block]?:=by
 refine(h.le.block l.block (h.good.loc id l o h1 h2 h3) ?_).1;rintro⟨oP,l',o',k1,k2,k3,k4⟩;obtain⟨q,k1⟩:=bB.1 k1;have:=h.good.apart oP id l' l o' o k1 (bB.1 k2).2 k3 h1 h2 h3 k4;omega
theorem qL.UZ{g g':G}{n:Nat}(h:qL g n g'):Le g (g.gI n g') where
 os:=h.le.os
 tape:=h.le.tape
 output:=h.le.output
 fr:=rfl
 size:=h.le.size
 block:=fun k hk hh=>by
  obtain⟨q1,q2⟩:=h.le.block k hk (fun q=>hh (He q));refine⟨q1,fun q=>?_⟩;rcases h.U0 q with q|⟨id,l,o,_,q⟩
  ·exact q2 q
  exact hh ⟨id,l,o,q⟩
 cell:=fun b off x hx hh=>by
  obtain⟨q1,q2⟩:=h.le.cell b off x hx (fun q=>hh (Hf q));refine⟨q1,fun q=>?_⟩;obtain⟨id,l,o,h1,h2,h3,h4,h5⟩:=q;rcases(aT h.env).1 h1 with⟨e1,h1⟩|⟨e1,h1⟩
  ·rcases(aT h.same).1 h2 with⟨e2,h2⟩|⟨e2,h2⟩
   ·exact q2 ⟨id,l,o,h1,h2,h3,h4,h5⟩
   omega
  rcases(aT h.same).1 h2 with⟨e2,h2⟩|⟨e2,h2⟩
  ·omega
  exact hh ⟨id,l,o,h1,h2,h3,h4,h5⟩
 len:=by
  simp only[G.gI,List.length_append,List.length_drop,h.same];omega
 spare:=fun id m hm=>by
  rcases Nat.lt_or_ge id n with q|q
  ·rcases h.le.spare id m (bB.2 ⟨q,hm⟩)with⟨m',k1,k2⟩|⟨o',k1,k2⟩
   ·exact .inl ⟨m',(aT h.same).2 (.inl ⟨q,k1⟩),k2⟩
   exact .inr ⟨o',(aT h.same).2 (.inl ⟨q,k1⟩),k2⟩
  exact .inl ⟨m,(aT h.same).2 (.inr ⟨q,hm⟩),Nat.le_refl _⟩
 plain:=fun id o ho hs=>by
  have aN:=ag ho;have he:g.env[id]?=some (g.env[id]'(by rw[h.good.len];exact aN)):=List.getElem?_eq_getElem _;rcases Nat.lt_or_ge id n with q|q
  ·obtain⟨⟨o',k1,k2⟩,k3⟩:=h.le.plain id o (bB.2 ⟨q,ho⟩) hs;refine⟨⟨o',(aT h.same).2 (.inl ⟨q,k1⟩),k2⟩,?_⟩;rw[he];refine(aT h.env).2 (.inl ⟨q,?_⟩);rw[k3];exact bB.2 ⟨q,he⟩
  refine⟨⟨o,(aT h.same).2 (.inr ⟨q,ho⟩),hs⟩,?_⟩;rw[he];exact(aT h.env).2 (.inr ⟨q,he⟩)
 gone:=fun id ho=>by
  rcases Nat.lt_or_ge id n with q|q
  ·exact(aT h.same).2 (.inl ⟨q,h.le.gone id (bB.2 ⟨q,ho⟩)⟩)
  exact(aT h.same).2 (.inr ⟨q,ho⟩)
 tok:=fun id m hm eS=>by
  have aN:=ag hm;have he:g.env[id]?=some (g.env[id]'(by rw[h.good.len];exact aN)):=List.getElem?_eq_getElem _;rcases(aT h.same).1 eS with⟨q,eS⟩|⟨q,eS⟩
  ·obtain⟨k1,k2⟩:=h.le.tok id m (bB.2 ⟨q,hm⟩) eS;refine⟨?_,fun l hl=>k2 l (bB.2 ⟨q,hl⟩)⟩;rw[he];refine(aT h.env).2 (.inl ⟨q,?_⟩);rw[k1];exact bB.2 ⟨q,he⟩
  refine⟨?_,fun l hl=>h.block q hl hm trivial⟩;rw[he];exact(aT h.env).2 (.inr ⟨q,he⟩)
theorem RV.gI{g g':G}{n:Nat}(hc:qL g n g'){x:ae}{u:Value}(h:RV g' x u):RV (g.gI n g') x u:=by
 have aN:∀{id:Nat} {o:ay},g'.objs[id]?=some o->id<n:=fun ho=>by
  have:=ag ho;rw[hc.same]at this;exact this
 induction h with
 | v hx=>exact .v hx
 | agg hl en _ ih=>exact .agg hl en ih
 | nil ho nX =>
  refine .nil (fun id e=>?_) nX;have:=ho id e;simp only[G.gI,List.length_append];omega
 | aC dk en di cZ hs f hm hr ho ih =>
  rename_i sz xs o a cap;refine .aC dk en di cZ hs f (fun j c hj=>⟨(hm j c hj).1,fun q=>(hm j c hj).2 (hc.own q)⟩) ih ?_;cases o with
  | sh=>trivial
  | nn=>trivial
  | ex=>exact ho
  | loc a=>exact ho
  | tok id =>
   have jE:=ho.1;rw[hc.same]at jE;refine⟨by simp only[G.gI,List.length_append,hc.same];omega,fun m eS=>?_⟩;rcases(aT hc.same).1 eS with⟨q,eS⟩|⟨q,_⟩
   ·obtain⟨h1,h2⟩:=ho.2 m eS;refine⟨h1,fun e=>?_⟩;rcases h2 e with k|⟨l,arr,t,k1,k2⟩
    ·exact .inl k
    exact .inr ⟨l,arr,t,(aT hc.env).2 (.inl ⟨q,k1⟩),k2⟩
   omega
 | ip ha en f hm hr ih=>exact .ip ha en f (fun j c hj=>⟨(hm j c hj).1,fun q=>(hm j c hj).2 (hc.own q)⟩) ih
 | mp he ho kX=>exact .mp ((aT hc.env).2 (.inl ⟨aN ho,he⟩)) ((aT hc.same).2 (.inl ⟨aN ho,ho⟩)) kX
 | ms he ho kX nh nO cZ=>exact .ms ((aT hc.env).2 (.inl ⟨aN ho,he⟩)) ((aT hc.same).2 (.inl ⟨aN ho,ho⟩)) kX nh nO cZ
 | os he ho kX nh nO cZ=>exact .os ((aT hc.env).2 (.inl ⟨aN ho,he⟩)) ((aT hc.same).2 (.inl ⟨aN ho,ho⟩)) kX nh nO cZ
 | raw nX ho =>
  rename_i sz n0 id a cap;have jE:=ho.1;rw[hc.same]at jE;refine .raw nX ⟨by simp only[G.gI,List.length_append,hc.same];omega,fun m eS=>?_⟩;rcases(aT hc.same).1 eS with⟨q,eS⟩|⟨q,_⟩
  ·obtain⟨h1,h2⟩:=ho.2 m eS;refine⟨h1,fun e=>?_⟩;rcases h2 e with k|⟨l,arr,t,k1,k2⟩
   ·exact .inl k
   exact .inr ⟨l,arr,t,(aT hc.env).2 (.inl ⟨q,k1⟩),k2⟩
  omega
 | mm he ho kX=>exact .mm ((aT hc.env).2 (.inl ⟨aN ho,he⟩)) ((aT hc.same).2 (.inl ⟨aN ho,ho⟩)) kX
 | im hh kX hl hk wR _ ih=>exact .im hh (fun off q=>kX off (hc.own q)) hl hk wR ih
 | fn hl rB _ _ ih DY=>exact .fn hl rB ih DY
 | c5 hl _ ih=>exact .c5 hl ih
theorem qL.Pj{g g':G}{n:Nat}(h:qL g n g'):Good (g.gI n g') where
 frlt:=fun b off hf=>Nat.lt_of_lt_of_le (h.good.frlt b off hf) h.le.size
 fU:=fun id l o h1 h2 h3 off hf=>by
  rcases(aT h.env).1 h1 with⟨q,h1⟩|⟨q,h1⟩
  ·rcases(aT h.same).1 h2 with⟨_,h2⟩|⟨q2,_⟩
   ·refine h.rp.fU id l o h1 h2 h3 off ?_;rw[h.le.fr];exact .inl hf
   omega
  rcases(aT h.same).1 h2 with⟨q2,_⟩|⟨_,h2⟩
  ·omega
  exact h.good.fU id l o h1 h2 h3 off hf
 len:=by simp[G.gI,h.env,h.same,h.good.len]
 loc:=fun id l o h1 h2 h3=>by
  rcases(aT h.env).1 h1 with⟨q,h1⟩|⟨q,h1⟩
  ·rcases(aT h.same).1 h2 with⟨_,h2⟩|⟨q2,_⟩
   ·exact h.rp.loc id l o h1 h2 h3
   omega
  rcases(aT h.same).1 h2 with⟨q2,_⟩|⟨_,h2⟩
  ·omega
  exact Nat.lt_of_lt_of_le (h.good.loc id l o h1 h2 h3) h.le.size
 apart:=fun id oP l l' o o' h1 h2 h3 k1 k2 k3 zF=>by
  have hx:∀{i:Nat} {l:Loc} {o:ay},(g.gI n g').env[i]?=some (some l)->(g.gI n g').objs[i]?=some o->(i<n∧g'.env[i]?=some (some l)∧g'.objs[i]?=some o)∨(n<=i∧g.env[i]?=some (some l)∧g.objs[i]?=some o):=by
   intro i l o h1 h2;rcases(aT h.env).1 h1 with⟨q,h1⟩|⟨q,h1⟩
   ·rcases(aT h.same).1 h2 with⟨_,h2⟩|⟨q2,_⟩
    ·exact .inl ⟨q,h1,h2⟩
    omega
   rcases(aT h.same).1 h2 with⟨q2,_⟩|⟨_,h2⟩
   ·omega
   exact .inr ⟨q,h1,h2⟩
  rcases hx h1 h2 with⟨q,e1,e2⟩|⟨q,e1,e2⟩
  ·rcases hx k1 k2 with⟨q',f1,f2⟩|⟨q',f1,f2⟩
   ·exact h.rp.apart id oP l l' o o' e1 e2 h3 f1 f2 k3 zF
   refine absurd ?_ (h.rp.fU id l o e1 e2 h3 l'.lo);rw[h.le.fr];exact .inr ⟨oP,l',o',q',f1,f2,k3,zF.symm,Nat.le_refl _⟩
  rcases hx k1 k2 with⟨q',f1,f2⟩|⟨q',f1,f2⟩
  ·refine absurd ?_ (h.rp.fU oP l' o' f1 f2 k3 l.lo);rw[h.le.fr];exact .inr ⟨id,l,o,q,e1,e2,h3,zF,Nat.le_refl _⟩
  exact h.good.apart id oP l l' o o' e1 e2 h3 f1 f2 k3 zF
 cells:=fun id cs h1=>by
  rcases(aT h.same).1 h1 with⟨q,h1⟩|⟨q,h1⟩
  ·obtain⟨l,arr,t,e1,e0,e2,e3,e4,e5⟩:=h.rp.cells id cs h1;exact⟨l,arr,t,(aT h.env).2 (.inl ⟨q,e1⟩),e0,e2,e3,fun j c u a b=>(e4 j c u a b).gI h,e5⟩
  obtain⟨l,arr,t,e1,e0,e2,e3,e4,e5⟩:=h.good.cells id cs h1;exact⟨l,arr,t,(aT h.env).2 (.inr ⟨q,e1⟩),e0,(h.block q e1 h1 trivial).trans e2,e3,fun j c u a b=>(e4 j c u a b).mono h.UZ,e5⟩
 spare:=fun id m l h1 h2=>by
  rcases(aT h.same).1 h1 with⟨q,h1⟩|⟨q,h1⟩
  ·rcases(aT h.env).1 h2 with⟨_,h2⟩|⟨q2,_⟩
   ·exact h.rp.spare id m l h1 h2
   omega
  rcases(aT h.env).1 h2 with⟨q2,_⟩|⟨_,h2⟩
  ·omega
  obtain⟨arr,t,e⟩:=h.good.spare id m l h1 h2;exact⟨arr,t,(h.block q h2 h1 trivial).trans e⟩
 map:=fun id kt es h1=>by
  rcases(aT h.same).1 h1 with⟨q,h1⟩|⟨q,h1⟩
  ·obtain⟨l,arr,clk,e1,e0,e2,e3,e6,e4⟩:=h.rp.map id kt es h1;exact⟨l,arr,clk,(aT h.env).2 (.inl ⟨q,e1⟩),e0,e2,e3,e6,fun i e kx a b=>⟨(e4 i e kx a b).1,(e4 i e kx a b).2.1,(e4 i e kx a b).2.2.gI h⟩⟩
  obtain⟨l,arr,clk,e1,e0,e2,e3,e6,e4⟩:=h.good.map id kt es h1;exact⟨l,arr,clk,(aT h.env).2 (.inr ⟨q,e1⟩),e0,(h.block q e1 h1 trivial).trans e2,e3,e6,fun i e kx a b=>⟨(e4 i e kx a b).1,(e4 i e kx a b).2.1,(e4 i e kx a b).2.2.mono h.UZ⟩⟩
theorem aY.frame{P:Program}{f:FuncId}{O O':List ay}{args:List ae}{r:ae}(h:aY P f O args fun r' O1=>r'=r∧O1=O')(hlen:O'.length=O.length)(hb:aq O.length args)(hO:∀o∈O,o.upto O.length)(X:List ay) :
  aY P f (O++X) args fun r' O1=>r'=r∧O1=O'++X:=by
 refine⟨h.1,?_⟩;intro g vs hg ho ha;have hn:O.length<=g.objs.length:=by simp[ho]
 have iw:g.objs.take O.length=O:=by simp[ho]
 have GB:kI (g.cut O.length) args vs:=⟨ha.1,fun j c u a b=>(ha.2 j c u a b).cut hn (a9.1 hb c (List.mem_of_getElem? a))⟩
 refine(h.2 (g.cut O.length) vs (hg.cut hn (by rw[iw];exact hO)) iw GB).mono ?_;rintro e w' ⟨g',v,r',h1,h2,h3,h4,h5,h6,h7⟩;subst h6;have hc:qL g O.length g':=⟨hg,h3,h4,hn,by rw[h7,hlen]⟩
 exact⟨g.gI O.length g',v,r',h1,h2,hc.UZ,hc.Pj,h5.gI hc,rfl,by simp[G.gI,h7,ho]⟩
theorem gm{O O' X:List ay}(h:O'.length=O.length):∀i,i<(O++X).length->i ∉ List.range O.length->(O'++X)[i]?=(O++X)[i]?:=fun i _ hl=>by
 have:O.length<=i:=by simpa using hl
 rw[List.getElem?_append_right (by omega),List.getElem?_append_right this,h]
end Go.Av
namespace Go.Av
open Go.ChangeShapes Go.WideShapes Go.RowKit
def g0(w:World):G:=⟨w,fun _ _=>False,[],[]⟩
theorem Ph{w:World}{b off:Nat}:¬lD (g0 w) b off:=by
 rintro(h|⟨id,l,o,h1,_⟩)
 ·exact h
 simp[g0]at h1
theorem Hw{w:World}{b:Nat}:¬gv (g0 w) b:=by
 rintro⟨id,l,o,h1,_⟩;simp[g0]at h1
theorem LJ(w:World):Good (g0 w) where
 frlt:=fun _ _ h=>h.elim
 fU:=fun _ _ _ h=>by simp[g0]at h
 len:=rfl
 loc:=fun _ _ _ h=>by simp[g0]at h
 apart:=fun _ _ _ _ _ _ h=>by simp[g0]at h
 cells:=fun _ _ h=>by simp[g0]at h
 spare:=fun _ _ _ h=>by simp[g0]at h
 map:=fun _ _ _ h=>by simp[g0]at h
def zN(P:Program)(t:TypeId):Bool :=
 match P.underlying t with
 | some (.struct _)=>true
 | some (.array _ _)=>true
 | _=>false
def AX(P:Program)(e:TypeId)(cs:List ae):ae:=if zN P e then .agg cs else cs.getD 0 (.v (.bool false))
def Oa(S:TypeId->List ae->Prop):List TypeId->List ae->Prop
 | [],cs=>cs=[]
 | t::ts,cs=>∃a b,cs=a++b∧S t a∧Oa S ts b
def mR(P:Program):Nat->TypeId->List ae->Prop
 | 0,_,_=>False
 | n+1,t,cs=>match P.underlying t with
  | some .bool=>∃b,cs=[.v (.bool b)]
  | some (.int k)=>∃m:Int,cs=[.v (.int k m)]∧k.min<=m∧m<=k.max
  | some .string=>∃s:ByteArray,cs=[.v (.string s)]∧s.size<=reachBytes
  | some (.slice e)=>∃xs:List (List ae),cs=[.aC (P.cellsOf e) (xs.map (AX P e)) .sh]∧(∀x∈xs,mR P n e x)∧xs.length*P.bytesOf e<=reachBytes
  | some (.struct fs)=>Oa (mR P n) (fs.toList.map (·.type)) cs
  | _=>False
def Pb(P:Program)(ts:List TypeId):Bool :=
 ts.all fun t=>decide (t<P.types.size)&&match P.underlying t with
  | some .bool=>true
  | some (.int _)=>true
  | some .string=>true
  | some (.slice e)=>ts.contains e&&decide (0<P.bytesOf e)&&decide (0<P.cellsOf e)&&(zN P e || decide (P.cellsOf e=1))
  | some (.struct fs)=>fs.toList.all fun f=>ts.contains f.type
  | _=>false
def Gy(g:G)(eK:List ae)(us:List Value):Prop:=eK.length=us.length∧(∀c∈eK,c.scalar)∧∀(i:Nat) c u,eK[i]?=some c->us[i]?=some u->RV g c u
theorem Gy.append{g:G}{eK bs:List ae}{us vs:List Value}(h:Gy g eK us)(k:Gy g bs vs):Gy g (eK++bs) (us++vs):=by
 obtain⟨h1,h2,h3⟩:=h;obtain⟨k1,k2,k3⟩:=k;refine⟨by simp[h1,k1],fun c hc=>(List.mem_append.1 hc).elim (h2 c) (k2 c),fun i c u hc hu=>?_⟩;rw[List.getElem?_append]at hc hu;by_cases hi:i<eK.length
 ·rw[if_pos hi]at hc;rw[if_pos (by omega)]at hu;exact h3 i c u hc hu
 rw[if_neg hi]at hc;rw[if_neg (by omega),<-h1]at hu;exact k3 _ c u hc hu
theorem Gy.one{g:G}{a:ae}{u:Value}(hs:a.scalar)(h:RV g a u):Gy g [a] [u]:=by
 refine⟨rfl,by simpa using hs,fun i c u' hc hu=>?_⟩;cases i with
 | zero =>
  simp at hc hu;subst hc;subst hu;exact h
 | succ i=>simp at hc
section
variable {H:Type} {enc:TypeId×Value->H} {P:Program} {w:World} {sp:Nat->Bool} {held:Bool}
theorem tu{e:TypeId}:∀{ds:List (DataW H)} {d:DataW H},d∈ds->∀n∈d.weights P e,n∈DataW.weightsAll P e ds
 | d0::ds,d,hd,n,hn=>by
  simp only[DataW.weightsAll,List.mem_append];rcases List.mem_cons.1 hd with rfl|hd
  ·exact .inl hn
  exact .inr (tu hd n hn)
theorem AS{α β:Type}{f:α->Option β}:∀{l:List α} {r:List β},l.mapM f=some r->r.length=l.length∧∀(i:Nat) x y,l[i]?=some x->r[i]?=some y->f x=some y
 | [],r,h=>by
  simp at h;subst h;exact⟨rfl,fun i x y hx=>by simp at hx⟩
 | a::l,r,h=>by
  rw[List.mapM_cons]at h;obtain⟨b,hb,h⟩:=Option.bind_eq_some_iff.1 h;obtain⟨r',hr,h⟩:=Option.bind_eq_some_iff.1 h;cases h;obtain⟨h1,h2⟩:=AS hr;refine⟨by simp[h1],fun i x y hx hy=>?_⟩;cases i with
  | zero =>
   simp at hx hy;subst hx;subst hy;exact hb
  | succ i=>exact h2 i x y (by simpa using hx) (by simpa using hy)
theorem sg{base:Nat}{a:Addr}{n:Nat}{cs:List Value}(h:w.cells? base a n=some cs):cs.length=n∧∀(i:Nat) u,cs[i]?=some u->w.cell? (a.add i)=some u:=by
 unfold World.cells? at h;split at h
 ·obtain⟨h1,h2⟩:=AS h;have hl:cs.length=n:=by simpa using h1
  refine⟨hl,fun i u hu=>?_⟩;have hi:=ag hu;exact h2 i i u (by simp[List.getElem?_range (show i<n by omega)]) hu
 cases h
theorem lW{α β:Type}{p:α->β->Prop}:∀n:Nat,∀f:Nat->α,(∀i,i<n->∃b,p (f i) b)->∃bs:List β,bs.length=n∧∀i b,bs[i]?=some b->p (f i) b
 | 0,_,_=>⟨[],rfl,fun i b h=>by simp at h⟩
 | n+1,f,h=>by
  obtain⟨bs,h1,h2⟩:=lW n f (fun i hi=>h i (by omega));obtain⟨b,hb⟩:=h n (by omega);refine⟨bs++[b],by simp[h1],fun i c hc=>?_⟩;rcases aU hc with hc|⟨rfl,rfl⟩
  ·exact h2 i c hc
  rw[h1];exact hb
theorem z3{e:TypeId}(fv:zN P e=true∨P.cellsOf e=1){xs:List (List ae)}(hx:∀x∈xs,x.length=P.cellsOf e∧∀c∈x,c.scalar):ar (xs.map (AX P e))=xs.flatten∧∀x∈xs,(AX P e x).cells=x:=by
 have key:∀x∈xs,(AX P e x).cells=x:=fun x OM=>by
  unfold AX;split
  ·rfl
  rename_i hn;rcases fv with h|h
  ·exact absurd h hn
  obtain⟨h1,h2⟩:=hx x OM;rw[h]at h1
  match x,h1 with
  | [c],_ =>
   have:=h2 c (by simp);cases c<;>first|rfl|exact this.elim
 refine⟨?_,key⟩;clear hx;induction xs with
 | nil=>rfl
 | cons x xs ih =>
  simp only[List.map_cons,ar,List.flatMap_cons,List.flatten_cons];rw[key x (by simp)];congr 1;exact ih fun y hy=>key y (by simp[hy])
theorem sZ{n:Nat}:∀{xs:List (List ae)} (_:∀x∈xs,x.length=n) {j:Nat} {c:ae},xs.flatten[j]?=some c->∃i k x,j=i*n+k∧k<n∧xs[i]?=some x∧x[k]?=some c
 | [],_,j,c,h=>by simp at h
 | x::xs,hx,j,c,h=>by
  have hl:=hx x (by simp);rw[List.flatten_cons,List.getElem?_append]at h;split at h
  ·rename_i hj;exact⟨0,j,x,by omega,by omega,by simp,h⟩
  rename_i hj;obtain⟨i,k,y,h1,h2,h3,h4⟩:=sZ (fun y hy=>hx y (by simp[hy])) h;refine⟨i+1,k,y,?_,h2,by simpa using h3,h4⟩;rw[Nat.add_mul,Nat.one_mul];omega
theorem vP{n:Nat}{cs:List Value}{S:TypeId->List ae->Prop}{ts:List TypeId}
  (ih:∀t cs' (x:DataW H×List MemPlace),t∈ts->DataW.trod enc P w 0 sp held n t cs'=some x->(∀m∈x.1.weights P t,m<=reachBytes)->∃eK,S t eK∧Gy (g0 w) eK cs') :
  ∀(fl:List Field) (o:Nat) (xs:List (DataW H×List MemPlace)),(∀f∈fl,f.type∈ts)->(∀(j:Nat) f,fl[j]?=some f->f.offset=o+((fl.take j).map fun f=>P.cellsOf f.type).sum) ->
   o+(fl.map fun f=>P.cellsOf f.type).sum<=cs.length->xs.length=fl.length ->
   (∀(i:Nat) f,fl[i]?=some f->DataW.trod enc P w 0 sp held n f.type ((cs.drop f.offset).take (P.cellsOf f.type))=xs[i]?) ->
   (∀m∈DataW.weightsEach P (fl.map (·.type)) (xs.map (·.1)),m<=reachBytes) ->
   ∃eK,Oa S (fl.map (·.type)) eK∧Gy (g0 w) eK ((cs.drop o).take (fl.map fun f=>P.cellsOf f.type).sum)
 | [],o,xs,_,_,_,_,_,_=>⟨[],rfl,by simp[Gy]⟩
 | f::fl,o,[],_,_,_,hx,_,_=>by simp at hx
 | f::fl,o,y::ys,SB,Sj,hlen,hx,hm,hw=>by
  have ho:f.offset=o:=by simpa using Sj 0 f rfl
  simp only[List.map_cons,DataW.weightsEach,List.mem_append]at hw;simp only[List.map_cons,List.sum_cons]at hlen ⊢;obtain⟨eK,h1,h2⟩:=ih f.type _ y (SB f (by simp)) (by simpa using hm 0 f rfl) (fun m hm=>hw m (.inl hm));obtain⟨bs,k1,k2⟩:=vP ih fl (o+P.cellsOf f.type) ys (fun g hg=>SB g (by simp[hg])) (fun j g hg=>by
   have:=Sj (j+1) g (by simpa using hg);simp only[List.take_succ_cons,List.map_cons,List.sum_cons]at this;omega) (cs:=cs) (by omega) (by simpa using hx) (fun i g hg=>by simpa using hm (i+1) g (by simpa using hg)) (fun m hm=>hw m (.inr hm))
  refine⟨eK++bs,⟨eK,bs,rfl,h1,k1⟩,?_⟩;rw[List.take_add,List.drop_drop];rw[ho]at h2;exact h2.append k2
theorem add_add{a:Addr}(hs:a.spot=none)(m k:Nat):(a.add m).add k=⟨a.block,a.off+(m+k),none⟩:=by
 cases a with
 | mk b off spot =>
  subst hs;unfold Addr.add;by_cases hm:m=0<;>by_cases hk:k=0<;>simp[hm,hk,Nat.add_assoc]
theorem zn{a:Addr}{u:Value}(h:w.cell? a=some u):a.spot=none:=by
 unfold World.cell? at h;split at h
 ·split at h
  ·cases h
  rename_i hs;simpa using hs
 cases h
theorem Ba(hl:laidOutB P=true){ts:List TypeId}(hc:Pb P ts=true)(n:Nat):∀(t:TypeId) (cs:List Value) (x:DataW H×List MemPlace),t∈ts ->
  DataW.trod enc P w 0 sp held n t cs=some x->(∀m∈x.1.weights P t,m<=reachBytes)->∃eK,mR P n t eK∧Gy (g0 w) eK cs:=by
 induction n with
 | zero=>intro _ _ _ _ h;simp[DataW.trod]at h
 | succ n ih =>
  intro t cs x ht h hw;have tJ:=List.all_eq_true.1 hc t ht;simp only[Bool.and_eq_true,decide_eq_true_eq]at tJ;obtain⟨dk,tJ⟩:=tJ;cases hu:P.underlying t with
  | none=>rw[hu]at tJ;cases tJ
  | some d =>
   rw[hu]at tJ;cases d with
   | bool =>
    obtain⟨b,rfl,rfl⟩:=DataW.trod_bool hu h;exact⟨[.v (.bool b)],by simp only[mR,hu];exact⟨b,rfl⟩,.one trivial (.v trivial)⟩
   | int k =>
    obtain⟨m,rfl,rfl,OJ⟩:=DataW.trod_int hu h;simp only[Lit.wf,Bool.and_eq_true,decide_eq_true_eq]at OJ;exact⟨[.v (.int k m)],by simp only[mR,hu];exact⟨m,rfl,OJ⟩,.one trivial (.v OJ)⟩
   | string =>
    obtain⟨s,rfl,rfl,hs⟩:=DataW.trod_string hu h;have hb:s.size<=reachBytes:=by
     have:=hw s.data.toList.length (by simp[DataW.weights]);simpa using this
    exact⟨[.v (.string s)],by simp only[mR,hu];exact⟨s,rfl,hb⟩,.one trivial (.v trivial)⟩
   | slice e =>
    simp only[Bool.and_eq_true,decide_eq_true_eq,Bool.or_eq_true,List.contains_iff_mem]at tJ;obtain⟨⟨⟨he,hb⟩,XS⟩,fv⟩:=tJ;rcases DataW.trod_slice hu h with⟨rfl,rfl⟩|⟨a,len,cap,elems,rest,n',kX,rfl,rfl,_,zJ,Cz,Wy,bq,_,_⟩
    ·exact⟨[.aC (P.cellsOf e) [] .sh],by simp only[mR,hu];exact⟨[],rfl,by simp,by simp[reachBytes]⟩,.one trivial (.nil (fun id h=>by cases h) (by simp))⟩
    cases kX;simp only[DataW.weights,hu,List.mem_cons,List.mem_append]at hw;have hlen:(len+rest.length)*P.bytesOf e<=reachBytes:=by
     have:=hw _ (.inl rfl);simpa[Wy]using this
    have Ow:len*P.bytesOf e<=reachBytes:=Nat.le_trans (Nat.mul_le_mul_right _ (by omega)) hlen;have hle:len<=reachBytes:=Nat.le_trans (Nat.le_mul_of_pos_right _ hb) Ow;have H0:∀i,i<len->∃eK:List ae,mR P n e eK∧∃us,Gy (g0 w) eK us∧w.cells? 0 (a.add (i*P.cellsOf e)) (P.cellsOf e)=some us:=fun i hi=>by
     have hy:elems[i]?=some elems[i]:=List.getElem?_eq_getElem (by omega);have h2:=bq i hi;rw[hy]at h2;obtain⟨us,h3,h4⟩:=Option.bind_eq_some_iff.1 h2;obtain⟨eK,k1,k2⟩:=ih e us elems[i] he h4 (fun m hm=>hw m (.inr (.inl (tu (List.mem_map.2 ⟨elems[i],List.getElem_mem _,rfl⟩) m hm))));exact⟨eK,k1,us,k2,h3⟩
    obtain⟨xs,P6,CH⟩:=lW (p:=fun(i:Nat) (eK:List ae)=>mR P n e eK∧∃us,Gy (g0 w) eK us∧w.cells? 0 (a.add (i*P.cellsOf e)) (P.cellsOf e)=some us) len id H0;have QT:∀y∈xs,y.length=P.cellsOf e∧∀c∈y,c.scalar:=fun y hy=>by
     obtain⟨i,hi⟩:=List.mem_iff_getElem?.1 hy;obtain⟨_,us,h2,h3⟩:=CH i y hi;exact⟨h2.1.trans (sg h3).1,h2.2.1⟩
    obtain⟨RC,Vv⟩:=z3 (P:=P) (by simpa using fv) QT;have AL:xs≠[]->a.spot=none:=fun cA=>by
     match xs,cA,CH,QT with
     | y::ys,_,CH,QT =>
      obtain⟨_,us,h2,h3⟩:=CH 0 y rfl;obtain⟨h4,h5⟩:=sg h3;have h6:=h5 0 (us[0]'(by omega)) (List.getElem?_eq_getElem _);have:=zn h6;simpa[Addr.add]using this
    refine⟨[.aC (P.cellsOf e) (xs.map (AX P e)) .sh],?_,.one trivial ?_⟩
    ·simp only[mR,hu];refine⟨xs,rfl,fun y hy=>?_,by rw[P6];exact Ow⟩;obtain⟨i,hi⟩:=List.mem_iff_getElem?.1 hy;exact(CH i y hi).1
    have iM:∀(j:Nat) (c:ae),xs.flatten[j]?=some c->∃u,w.cell? ⟨a.block,a.off+j,none⟩=some u∧RV (g0 w) c u:=fun j c hj=>by
     obtain⟨i,k,y,h1,h2,h3,h4⟩:=sZ (n:=P.cellsOf e) (fun y hy=>(QT y hy).1) hj;obtain⟨_,us,h5,h6⟩:=CH i y h3;obtain⟨h7,h8⟩:=sg h6;have hk:us[k]?=some (us[k]'(by omega)):=List.getElem?_eq_getElem _;have h9:=h8 k _ hk;have cA:xs≠[]:=fun e=>by rw[e]at h3;simp at h3
     have gl:(a.add (id i*P.cellsOf e)).add k=⟨a.block,a.off+(i*P.cellsOf e+k),none⟩:=add_add (AL cA) _ _;rw[gl,<-h1]at h9;exact⟨_,h9,h5.2.2 k c _ h4 hk⟩
    have key:=@RV.aC (g0 w) (P.cellsOf e) (xs.map (AX P e)) .sh a cap (fun x hx=>by
     obtain⟨y,hy,rfl⟩:=List.mem_map.1 hx;rw[Vv y hy];exact(QT y hy).1) (fun x hx c hc=>by
     obtain⟨y,hy,rfl⟩:=List.mem_map.1 hx;rw[Vv y hy]at hc;exact(QT y hy).2 c hc) (by simp[P6];exact zJ) (by simp[P6];unfold reachBytes at hle;omega) (fun cA=>AL (fun e=>cA (by rw[e];rfl)))
     (fun j=>(w.cell? ⟨a.block,a.off+j,none⟩).getD (.bool false)) (fun j c hj=>by
      rw[RC]at hj;obtain⟨u,h1,_⟩:=iM j c hj;refine⟨?_,Ph⟩;show w.cell? _=_;rw[h1];rfl) (fun j c hj=>by
      rw[RC]at hj;obtain⟨u,h1,h2⟩:=iM j c hj;rw[h1];exact h2) trivial
    rw[List.length_map,P6]at key;exact key
   | struct fs =>
    simp only[List.all_eq_true,List.contains_iff_mem]at tJ;obtain⟨xs,n',kX,rfl,lB,P6,bq⟩:=DataW.trod_struct hu h;cases kX;obtain⟨k1,k2,k3⟩:=kid_struct hl dk hu;simp only[DataW.weights,hu]at hw;obtain⟨eK,h1,h2⟩:=vP ih fs.toList 0 xs tJ (fun j f hj=>by rw[k3 j f hj];omega) (by rw[lB,k2];omega) (by simpa using P6) (fun i f hf=>bq i f (by simpa using hf)) hw;refine⟨eK,by simp only[mR,hu];exact h1,?_⟩;rw[List.drop_zero,<-k2,<-lB,List.take_length]at h2;exact h2
   | _=>cases tJ
theorem qD(hl:laidOutB P=true){ts:List TypeId}(hc:Pb P ts=true){t:TypeId}(ht:t∈ts){v:Value}{d:DataW H}{ps:List MemPlace}(h:DataW.Trod enc P w 0 sp held t v d ps)
  (hv:v.cells = #[v]) (hw:∀m∈d.weights P t,m<=reachBytes):∃n a,mR P n t [a]∧RV (g0 w) a v:=by
 obtain⟨n,h⟩:=h;obtain⟨eK,h1,h2⟩:=Ba hl hc n t _ (d,ps) ht h hw;rw[hv]at h2;obtain⟨h3,h4,h5⟩:=h2
 match eK,h3 with
 | [a],_=>exact⟨n,a,h1,h5 0 a v rfl rfl⟩
theorem sF{t e:TypeId}{r:Reach}{b:Nat}{v:Value}(hu:P.underlying t=some (.slice e))(h:Value.okWide P w r b t v):v.cells = #[v]:=by
 cases v<;>first|rfl|simp[Value.okWide,hu,Cell.okWide,Cell.ok]at h
theorem pS(hl:laidOutB P=true){W W':World}{V7:Nat->Bool}:∀{ts:List TypeId} {vs:List Value} {ds:List (DataW H)} {ps:List MemPlace},(∀t∈ts,P.readableRec t=true∧t<P.types.size) ->
  DataW.TrodAll enc P W 0 (fun _=>true) true ts vs ds ps->(∀p∈ps,W.sameAt W' p)->(∀p∈ps,V7 p.block=true)->DataW.TrodAll enc P W' 0 V7 true ts vs ds ps
 | [],vs,ds,ps,_,h,_,_=>by
  obtain⟨rfl,rfl,rfl⟩:=trodAll_nil h;rfl
 | t::ts,vs,ds,ps,SB,h,h1,h2=>by
  obtain⟨v,KV,d,XJ,p,q,rfl,rfl,rfl,hd,hr⟩:=trodAll_cons h;obtain⟨k1,k2⟩:=SB t (by simp);exact⟨p,q,WideElems.Trod_stays hl k1 k2 hd (fun x hx=>h1 x (List.mem_append.2 (.inl hx))) (fun x hx=>h2 x (List.mem_append.2 (.inl hx))),
   pS hl (fun t ht=>SB t (by simp[ht])) hr (fun x hx=>h1 x (List.mem_append.2 (.inr hx))) (fun x hx=>h2 x (List.mem_append.2 (.inr hx))),rfl⟩
theorem y7(hl:laidOutB P=true){fn:Func}{s:ChangeSpec}{apart fresh handsOn again:Bool}{W:World}{args:Array Value}{ds gs:List (DataW H)}{before:List MemPlace}{f:FuncId}{xs:List ae}{tb:TypeId}
  (Uu:∀t∈fn.params.toList,P.readableRec t=true∧t<P.types.size) (OH:s.vars=[]) (fm:fn.resultTypes = #[tb]) (VX:P.underlying tb=some .bool)
  (hW:DataW.Whole enc P fn.params.toList s.vars apart W args.toList ds gs before)
  (rA:s.fn H (ds++gs) = { results:=[.lit (.bool true)],args:=ds })
  (Uv:aV P f xs (.v (.bool true))) (Wo:kI (g0 W) xs args) :
  Calls P f args W fun e W'=>∃v,e=.returned v∧s.post enc P fn apart fresh handsOn again W args v W':=by
 refine(Uv.2 (g0 W) args (LJ W) rfl Wo).mono fun e W' ⟨g',v,r,h1,h2,h3,_,h5,h6,_⟩=>?_;subst h6;cases h5;subst h2;have Cx:Below W.heap.size W g'.w:=⟨h3.os,h3.tape,h3.output,h3.size,fun k hk=>(h3.block k hk Hw).1⟩
 have aN:=hW.lt;obtain⟨p,q,hA,hV,rfl,VG,vl⟩:=id hW;have hq:gs=[]∧q=[]:=trodVars_none (by rw[OH]at hV;exact hV);obtain⟨rfl,rfl⟩:=hq;simp only[List.append_nil]at aN VG vl rA;have gO:∀x∈p,W.sameAt g'.w x:=fun x hx=>Cx.same (aN x hx);have dt:∀sp:Nat->Bool,(∀x∈p,sp x.block=true)->DataW.TrodAll enc P g'.w 0 sp true fn.params.toList args.toList ds p:=fun sp wy=>pS hl Uu hA gO wy;have hR:∀(b:Nat) (sp:Nat->Bool) (hd:Bool),DataW.TrodAll enc P g'.w b sp hd fn.resultTypes.toList ((Value.bool true).resultList fn.resultTypes.size) [.lit (.bool true)] []:=fun b sp hd=>by
  rw[fm];exact trodAll_mk1 (shut_bool VX true)
 have V1:∀sp:Nat->Bool,DataW.TrodVars enc P g'.w sp s.vars [] []:=fun sp=>by
  rw[OH];rfl
 refine⟨_,h1,ds,[],p++[],[],p,[],hW,?_,?_,?_,Cx.frame _,fun _=>⟨?_,[.lit (.bool true)]++ds,[],([]++p)++[],⟨[]++p,[],?_,V1 _,rfl,?_,?_⟩,?_⟩⟩
 ·rw[List.append_nil,rA];exact hR _ _ _
 ·rw[List.append_nil,rA];exact dt _ fun x hx=>by simpa using aN x hx
 ·rw[List.append_nil,rA];exact V1 _
 ·exact ok_one fm rfl (okWide_bool_mk VX true)
 ·exact trodAll_append (dt (fun _=>true) fun _ _=>rfl) (hR _ _ _)
 ·intro b off hx;simp only[List.nil_append,List.append_nil]at hx;rw[Cx.frozen (p:=⟨b,off,none⟩) (aN _ hx)];exact VG b off hx
 ·intro ha;simpa using vl ha
 intro x hx _;simpa using hx
end
section
variable {P:Program} {n:Nat} {t:TypeId} {cs:List ae}
theorem mR.int{k:IntKind}(hu:P.underlying t=some (.int k))(h:mR P n t cs):∃m:Int,cs=[.v (.int k m)]∧k.min<=m∧m<=k.max:=by
 cases n with
 | zero=>exact h.elim
 | succ n =>
  simp only[mR,hu]at h;exact h
theorem mR.string(hu:P.underlying t=some .string)(h:mR P n t cs):∃s:ByteArray,cs=[.v (.string s)]∧s.size<=reachBytes:=by
 cases n with
 | zero=>exact h.elim
 | succ n =>
  simp only[mR,hu]at h;exact h
theorem mR.struct{fs:Array Field}(hu:P.underlying t=some (.struct fs))(h:mR P n t cs):∃m,n=m+1∧Oa (mR P m) (fs.toList.map (·.type)) cs:=by
 cases n with
 | zero=>exact h.elim
 | succ n =>
  simp only[mR,hu]at h;exact⟨n,rfl,h⟩
theorem mR.slice{e:TypeId}(hu:P.underlying t=some (.slice e))(h:mR P n t cs):∃m,n=m+1∧∃xs:List (List ae),cs=[.aC (P.cellsOf e) (xs.map (AX P e)) .sh]∧(∀x∈xs,mR P m e x)∧xs.length*P.bytesOf e<=reachBytes:=by
 cases n with
 | zero=>exact h.elim
 | succ n =>
  simp only[mR,hu]at h;exact⟨n,rfl,h⟩
theorem AT{α:Type}{f:α->ae}{Q:α->Prop}{g:List ae->ae}:∀{xs:List (List ae)},(∀x∈xs,∃a,g x=f a∧Q a)->∃l:List α,xs.map g=l.map f∧∀a∈l,Q a
 | [],_=>⟨[],rfl,by simp⟩
 | x::xs,h=>by
  obtain⟨a,ha,hq⟩:=h x (by simp);obtain⟨l,hl,Uz⟩:=AT (xs:=xs) fun y hy=>h y (by simp[hy]);exact⟨a::l,by simp[ha,hl],by simpa using⟨hq,Uz⟩⟩
theorem mR.Ib{α:Type}{f:α->ae}{Q:α->Prop}{e:TypeId}(hu:P.underlying t=some (.slice e))(h:mR P n t cs)(hd:∀m,m<n->∀x,mR P m e x->∃a,AX P e x=f a∧Q a) :
  ∃l:List α,cs=[.aC (P.cellsOf e) (l.map f) .sh]∧l.length*P.bytesOf e<=reachBytes∧∀a∈l,Q a:=by
 obtain⟨m,rfl,xs,rfl,h1,h2⟩:=h.slice hu;obtain⟨l,hl,hq⟩:=AT (f:=f) (Q:=Q) fun x hx=>hd m (by omega) x (h1 x hx);refine⟨l,by rw[hl],?_,hq⟩;have:xs.length=l.length:=by
  have:=congrArg List.length hl;simpa using this
 rw[<-this];exact h2
theorem mR.list{α:Type}{f:α->ae}{e:TypeId}(hu:P.underlying t=some (.slice e))(h:mR P n t cs)(hd:∀m,m<n->∀x,mR P m e x->∃a,AX P e x=f a) :
  ∃l:List α,cs=[.aC (P.cellsOf e) (l.map f) .sh]∧l.length*P.bytesOf e<=reachBytes:=by
 obtain⟨l,h1,h2,_⟩:=h.Ib (Q:=fun _=>True) hu fun m hm x hx=>by
  obtain⟨a,ha⟩:=hd m hm x hx;exact⟨a,ha,trivial⟩
 exact⟨l,h1,h2⟩
end
end Go.Av
namespace Go.Proofs.YtkkookchlddbkaaGreat
open Go.Av
def aS:fM
 | 1=>some ⟨1,8,[.v .nilFunc],.other⟩
 | 2=>some ⟨1,8,[.v (.int .i64 0)],.other⟩
 | 3=>some ⟨1,8,[.v (.int .i64 0)],.other⟩
 | 4=>some ⟨1,1,[.v (.bool false)],.other⟩
 | 5=>some ⟨1,1,[.v (.int .u8 0)],.other⟩
 | 9=>some ⟨1,16,[.v (.string ByteArray.empty)],.other⟩
 | 12=>some ⟨1,8,[.v (.int .u64 0)],.other⟩
 | 13=>some ⟨2,24,[.v (.string ByteArray.empty),.v (.int .u64 0)],.struct [(0,9),(1,12)]⟩
 | 21=>some ⟨1,4,[.v (.int .i32 0)],.other⟩
 | 22=>some ⟨1,24,[.aC 3 [] .ex],.slice 96⟩
 | 23=>some ⟨1,24,[.aC 1 [] .ex],.slice 24⟩
 | 24=>some ⟨1,24,[.aC 4 [] .ex],.slice 81⟩
 | 25=>some ⟨1,8,[.v .nilFunc],.other⟩
 | 27=>some ⟨1,8,[.v (.int .i64 0)],.other⟩
 | 29=>some ⟨1,8,[.v .nilFunc],.other⟩
 | 30=>some ⟨1,24,[.aC 6 [] .ex],.slice 77⟩
 | 32=>some ⟨1,8,[.v .nilFunc],.other⟩
 | 34=>some ⟨1,8,[.v .nilFunc],.other⟩
 | 35=>some ⟨1,24,[.aC 1 [] .ex],.slice 3⟩
 | 37=>some ⟨4,48,[.v (.int .i64 0),.v (.int .i64 0),.v (.int .i64 0),.aC 1 [] .ex],.struct [(0,3),(1,3),(2,3),(3,35)]⟩
 | 38=>some ⟨1,24,[.aC 4 [] .ex],.slice 37⟩
 | 39=>some ⟨1,24,[.aC 2 [] .ex],.slice 187⟩
 | 41=>some ⟨5,72,[.v (.int .i64 0),.v (.int .i64 0),.v (.int .i64 0),.aC 1 [] .ex,.aC 2 [] .ex],.struct [(0,3),(1,3),(2,3),(3,35),(4,39)]⟩
 | 43=>some ⟨7,120,[.aC 1 [] .ex,.aC 4 [] .ex,.v (.int .i64 0),.v (.int .i64 0),.v (.int .i64 0),.aC 1 [] .ex,.aC 2 [] .ex],.struct [(0,35),(1,38),(2,41)]⟩
 | 44=>some ⟨1,24,[.aC 7 [] .ex],.slice 43⟩
 | 46=>some ⟨2,32,[.v (.int .i64 0),.aC 7 [] .ex],.struct [(0,3),(1,44)]⟩
 | 47=>some ⟨1,24,[.aC 2 [] .ex],.slice 46⟩
 | 49=>some ⟨2,32,[.aC 2 [] .ex,.v (.int .i64 0)],.struct [(0,47),(1,3)]⟩
 | 51=>some ⟨3,40,[.aC 1 [] .ex,.v (.int .i64 0),.v (.int .i64 0)],.struct [(0,35),(1,3),(2,3)]⟩
 | 54=>some ⟨1,8,[.v .nilFunc],.other⟩
 | 55=>some ⟨1,8,[.v .nilFunc],.other⟩
 | 56=>some ⟨1,8,[.v (.map none)],.map 9 98⟩
 | 57=>some ⟨2,32,[.aC 3 [] .ex,.v (.map none)],.struct [(0,22),(1,56)]⟩
 | 58=>some ⟨2,32,[.aC 3 [] .ex,.v (.map none)],.struct [(0,22),(1,56)]⟩
 | 60=>some ⟨1,8,[.v .nilFunc],.other⟩
 | 62=>some ⟨1,8,[.v .nilFunc],.other⟩
 | 63=>some ⟨1,8,[.v (.map none)],.map 9 104⟩
 | 65=>some ⟨1,8,[.v .nilFunc],.other⟩
 | 66=>some ⟨1,8,[.v (.pointer none)],.other⟩
 | 67=>some ⟨4,48,[.v (.map none),.aC 6 [] .ex,.v (.int .i64 0),.v (.bool false)],.struct [(0,63),(1,30),(2,3),(3,4)]⟩
 | 68=>some ⟨4,48,[.v (.map none),.aC 6 [] .ex,.v (.int .i64 0),.v (.bool false)],.struct [(0,63),(1,30),(2,3),(3,4)]⟩
 | 69=>some ⟨1,24,[.aC 2 [] .ex],.slice 72⟩
 | 70=>some ⟨1,24,[.aC 1 [] .ex],.slice 35⟩
 | 71=>some ⟨2,32,[.v (.int .i64 0),.aC 4 [] .ex],.struct [(0,3),(1,24)]⟩
 | 72=>some ⟨2,32,[.v (.int .i64 0),.aC 4 [] .ex],.struct [(0,3),(1,24)]⟩
 | 73=>some ⟨1,8,[.v .nilFunc],.other⟩
 | 74=>some ⟨1,8,[.v .nilFunc],.other⟩
 | 75=>some ⟨1,24,[.aC 1 [] .ex],.slice 9⟩
 | 76=>some ⟨6,112,[.v (.int .i64 0),.v (.int .i64 0),.aC 1 [] .ex,.aC 1 [] .ex,.aC 1 [] .ex,.aC 1 [] .ex],.struct [(0,3),(1,3),(2,35),(3,75),(4,35),(5,35)]⟩
 | 77=>some ⟨6,112,[.v (.int .i64 0),.v (.int .i64 0),.aC 1 [] .ex,.aC 1 [] .ex,.aC 1 [] .ex,.aC 1 [] .ex],.struct [(0,3),(1,3),(2,35),(3,75),(4,35),(5,35)]⟩
 | 78=>some ⟨1,8,[.v .nilFunc],.other⟩
 | 79=>some ⟨1,8,[.v .nilFunc],.other⟩
 | 80=>some ⟨4,56,[.v (.int .i64 0),.v (.string ByteArray.empty),.v (.int .i64 0),.aC 4 [] .ex],.struct [(0,3),(1,9),(2,3),(3,24)]⟩
 | 81=>some ⟨4,56,[.v (.int .i64 0),.v (.string ByteArray.empty),.v (.int .i64 0),.aC 4 [] .ex],.struct [(0,3),(1,9),(2,3),(3,24)]⟩
 | 83=>some ⟨1,8,[.v .nilFunc],.other⟩
 | 84=>some ⟨1,8,[.v .nilFunc],.other⟩
 | 85=>some ⟨1,8,[.v .nilFunc],.other⟩
 | 88=>some ⟨1,8,[.v .nilFunc],.other⟩
 | 89=>some ⟨1,8,[.v .nilFunc],.other⟩
 | 90=>some ⟨1,8,[.v .nilFunc],.other⟩
 | 91=>some ⟨1,8,[.v .nilFunc],.other⟩
 | 92=>some ⟨1,8,[.v .nilFunc],.other⟩
 | 93=>some ⟨1,8,[.v .nilFunc],.other⟩
 | 94=>some ⟨1,24,[.aC 2 [] .ex],.slice 101⟩
 | 95=>some ⟨3,48,[.v (.string ByteArray.empty),.v (.int .i64 0),.aC 2 [] .ex],.struct [(0,9),(1,3),(2,94)]⟩
 | 96=>some ⟨3,48,[.v (.string ByteArray.empty),.v (.int .i64 0),.aC 2 [] .ex],.struct [(0,9),(1,3),(2,94)]⟩
 | 97=>some ⟨3,24,[.v (.int .i64 0),.v (.int .i64 0),.v (.int .i64 0)],.struct [(0,3),(1,3),(2,3)]⟩
 | 98=>some ⟨3,24,[.v (.int .i64 0),.v (.int .i64 0),.v (.int .i64 0)],.struct [(0,3),(1,3),(2,3)]⟩
 | 99=>some ⟨1,24,[.aC 4 [] .ex],.slice 221⟩
 | 100=>some ⟨2,40,[.v (.string ByteArray.empty),.aC 4 [] .ex],.struct [(0,9),(1,99)]⟩
 | 101=>some ⟨2,40,[.v (.string ByteArray.empty),.aC 4 [] .ex],.struct [(0,9),(1,99)]⟩
 | 102=>some ⟨1,8,[.v .nilFunc],.other⟩
 | 103=>some ⟨1,8,[.v .nilFunc],.other⟩
 | 104=>some ⟨1,8,[.v (.pointer none)],.other⟩
 | 105=>some ⟨1,8,[.v .nilFunc],.other⟩
 | 106=>some ⟨1,8,[.v .nilFunc],.other⟩
 | 107=>some ⟨1,8,[.v .nilFunc],.other⟩
 | 108=>some ⟨1,8,[.v .nilFunc],.other⟩
 | 109=>some ⟨1,8,[.v .nilFunc],.other⟩
 | 110=>some ⟨1,8,[.v .nilFunc],.other⟩
 | 111=>some ⟨1,8,[.v .nilFunc],.other⟩
 | 112=>some ⟨1,8,[.v .nilFunc],.other⟩
 | 113=>some ⟨1,8,[.v .nilFunc],.other⟩
 | 116=>some ⟨1,8,[.v (.pointer none)],.other⟩
 | 117=>some ⟨1,24,[.aC 1 [] .ex],.slice 151⟩
 | 119=>some ⟨9,112,[.aC 2 [] .ex,.v (.int .i64 0),.aC 1 [] .ex,.v (.int .i64 0),.v (.bool false),.v (.bool false),.aC 1 [] .ex,.v (.int .i64 0),.v (.int .i64 0)],.struct [(0,49),(2,117),(3,3),(4,4),(5,4),(6,51)]⟩
 | 121=>some ⟨1,8,[.v .nilFunc],.other⟩
 | 122=>some ⟨1,8,[.v .nilFunc],.other⟩
 | 123=>some ⟨1,8,[.v (.pointer none)],.other⟩
 | 124=>some ⟨1,8,[.v .nilFunc],.other⟩
 | 125=>some ⟨1,8,[.v .nilFunc],.other⟩
 | 127=>some ⟨1,8,[.v .nilFunc],.other⟩
 | 128=>some ⟨1,8,[.v .nilFunc],.other⟩
 | 129=>some ⟨1,8,[.v .nilFunc],.other⟩
 | 130=>some ⟨1,8,[.v .nilFunc],.other⟩
 | 131=>some ⟨1,8,[.v .nilFunc],.other⟩
 | 132=>some ⟨1,8,[.v .nilFunc],.other⟩
 | 133=>some ⟨1,8,[.v .nilFunc],.other⟩
 | 134=>some ⟨1,8,[.v .nilFunc],.other⟩
 | 135=>some ⟨1,8,[.v .nilFunc],.other⟩
 | 136=>some ⟨1,8,[.v .nilFunc],.other⟩
 | 137=>some ⟨1,8,[.v .nilFunc],.other⟩
 | 138=>some ⟨1,8,[.v .nilFunc],.other⟩
 | 139=>some ⟨1,8,[.v .nilFunc],.other⟩
 | 140=>some ⟨1,8,[.v .nilFunc],.other⟩
 | 141=>some ⟨1,8,[.v .nilFunc],.other⟩
 | 142=>some ⟨1,8,[.v .nilFunc],.other⟩
 | 143=>some ⟨1,8,[.v .nilFunc],.other⟩
 | 144=>some ⟨1,8,[.v (.pointer none)],.other⟩
 | 145=>some ⟨1,8,[.v (.map none)],.map 3 174⟩
 | 147=>some ⟨3,40,[.v (.int .i64 0),.aC 7 [] .ex,.v (.map none)],.struct [(0,46),(2,145)]⟩
 | 150=>some ⟨1,24,[.aC 4 [] .ex],.slice 157⟩
 | 151=>some ⟨1,8,[.v (.pointer none)],.other⟩
 | 152=>some ⟨1,8,[.v (.map none)],.map 3 157⟩
 | 154=>some ⟨5,40,[.v (.int .i64 0),.v (.int .i64 0),.v (.int .i64 0),.v (.int .i64 0),.v (.map none)],.struct [(0,3),(1,3),(2,3),(3,3),(4,152)]⟩
 | 155=>some ⟨1,8,[.v (.pointer none)],.other⟩
 | 157=>some ⟨4,48,[.v (.int .i64 0),.v (.int .i64 0),.aC 4 [] .ex,.v (.pointer none)],.struct [(0,3),(1,3),(2,150),(3,155)]⟩
 | 163=>some ⟨1,8,[.v .nilFunc],.other⟩
 | 164=>some ⟨1,8,[.v .nilFunc],.other⟩
 | 165=>some ⟨1,8,[.v .nilFunc],.other⟩
 | 166=>some ⟨1,8,[.v .nilFunc],.other⟩
 | 167=>some ⟨1,24,[.aC 1 [] .ex],.slice 70⟩
 | 168=>some ⟨1,8,[.v .nilFunc],.other⟩
 | 169=>some ⟨1,8,[.v .nilFunc],.other⟩
 | 170=>some ⟨1,8,[.v .nilFunc],.other⟩
 | 171=>some ⟨1,8,[.v .nilFunc],.other⟩
 | 174=>some ⟨2,16,[.v (.int .i64 0),.v (.int .i64 0)],.struct [(0,3),(1,3)]⟩
 | 177=>some ⟨1,24,[.aC 2 [] .ex],.slice 180⟩
 | 178=>some ⟨1,8,[.v (.int .u64 0)],.other⟩
 | 180=>some ⟨2,16,[.v (.int .u64 0),.v (.int .u64 0)],.array 2 178⟩
 | 187=>some ⟨2,32,[.v (.int .i64 0),.aC 1 [] .ex],.struct [(0,3),(1,35)]⟩
 | 195=>some ⟨1,8,[.v .nilFunc],.other⟩
 | 204=>some ⟨1,8,[.v .nilFunc],.other⟩
 | 210=>some ⟨1,8,[.v .nilFunc],.other⟩
 | 211=>some ⟨1,4,[.v (.int .u32 0)],.other⟩
 | 215=>some ⟨1,8,[.v (.pointer none)],.other⟩
 | 220=>some ⟨4,56,[.v (.int .i64 0),.v (.string ByteArray.empty),.v (.int .i64 0),.aC 4 [] .ex],.struct [(0,3),(1,9),(2,3),(3,99)]⟩
 | 221=>some ⟨4,56,[.v (.int .i64 0),.v (.string ByteArray.empty),.v (.int .i64 0),.aC 4 [] .ex],.struct [(0,3),(1,9),(2,3),(3,99)]⟩
 | _=>none
theorem OU:aS 1=some ⟨1,8,[.v .nilFunc],.other⟩:=rfl
theorem OV:aS 2=some ⟨1,8,[.v (.int .i64 0)],.other⟩:=rfl
theorem OW:aS 3=some ⟨1,8,[.v (.int .i64 0)],.other⟩:=rfl
theorem OX:aS 4=some ⟨1,1,[.v (.bool false)],.other⟩:=rfl
theorem OY:aS 5=some ⟨1,1,[.v (.int .u8 0)],.other⟩:=rfl
theorem OZ:aS 9=some ⟨1,16,[.v (.string ByteArray.empty)],.other⟩:=rfl
theorem IN:aS 12=some ⟨1,8,[.v (.int .u64 0)],.other⟩:=rfl
theorem IP:aS 13=some ⟨2,24,[.v (.string ByteArray.empty),.v (.int .u64 0)],.struct [(0,9),(1,12)]⟩:=rfl
theorem IQ:aS 21=some ⟨1,4,[.v (.int .i32 0)],.other⟩:=rfl
theorem IS:aS 22=some ⟨1,24,[.aC 3 [] .ex],.slice 96⟩:=rfl
theorem IT:aS 23=some ⟨1,24,[.aC 1 [] .ex],.slice 24⟩:=rfl
theorem IU:aS 24=some ⟨1,24,[.aC 4 [] .ex],.slice 81⟩:=rfl
theorem IV:aS 25=some ⟨1,8,[.v .nilFunc],.other⟩:=rfl
theorem IW:aS 27=some ⟨1,8,[.v (.int .i64 0)],.other⟩:=rfl
theorem IX:aS 29=some ⟨1,8,[.v .nilFunc],.other⟩:=rfl
theorem IY:aS 30=some ⟨1,24,[.aC 6 [] .ex],.slice 77⟩:=rfl
theorem IZ:aS 32=some ⟨1,8,[.v .nilFunc],.other⟩:=rfl
theorem I0:aS 34=some ⟨1,8,[.v .nilFunc],.other⟩:=rfl
theorem I1:aS 35=some ⟨1,24,[.aC 1 [] .ex],.slice 3⟩:=rfl
theorem Qh:aS 37=some ⟨4,48,[.v (.int .i64 0),.v (.int .i64 0),.v (.int .i64 0),.aC 1 [] .ex],.struct [(0,3),(1,3),(2,3),(3,35)]⟩:=rfl
theorem Qi:aS 38=some ⟨1,24,[.aC 4 [] .ex],.slice 37⟩:=rfl
theorem Qj:aS 39=some ⟨1,24,[.aC 2 [] .ex],.slice 187⟩:=rfl
theorem Qk:aS 41=some ⟨5,72,[.v (.int .i64 0),.v (.int .i64 0),.v (.int .i64 0),.aC 1 [] .ex,.aC 2 [] .ex],.struct [(0,3),(1,3),(2,3),(3,35),(4,39)]⟩:=rfl
theorem Ql:aS 43=some ⟨7,120,[.aC 1 [] .ex,.aC 4 [] .ex,.v (.int .i64 0),.v (.int .i64 0),.v (.int .i64 0),.aC 1 [] .ex,.aC 2 [] .ex],.struct [(0,35),(1,38),(2,41)]⟩:=rfl
theorem Qm:aS 44=some ⟨1,24,[.aC 7 [] .ex],.slice 43⟩:=rfl
theorem Qn:aS 46=some ⟨2,32,[.v (.int .i64 0),.aC 7 [] .ex],.struct [(0,3),(1,44)]⟩:=rfl
theorem Qo:aS 47=some ⟨1,24,[.aC 2 [] .ex],.slice 46⟩:=rfl
theorem Qp:aS 49=some ⟨2,32,[.aC 2 [] .ex,.v (.int .i64 0)],.struct [(0,47),(1,3)]⟩:=rfl
theorem Qq:aS 51=some ⟨3,40,[.aC 1 [] .ex,.v (.int .i64 0),.v (.int .i64 0)],.struct [(0,35),(1,3),(2,3)]⟩:=rfl
theorem I2:aS 54=some ⟨1,8,[.v .nilFunc],.other⟩:=rfl
theorem I3:aS 55=some ⟨1,8,[.v .nilFunc],.other⟩:=rfl
theorem I4:aS 56=some ⟨1,8,[.v (.map none)],.map 9 98⟩:=rfl
theorem I5:aS 57=some ⟨2,32,[.aC 3 [] .ex,.v (.map none)],.struct [(0,22),(1,56)]⟩:=rfl
theorem I6:aS 58=some ⟨2,32,[.aC 3 [] .ex,.v (.map none)],.struct [(0,22),(1,56)]⟩:=rfl
theorem I7:aS 60=some ⟨1,8,[.v .nilFunc],.other⟩:=rfl
theorem I8:aS 62=some ⟨1,8,[.v .nilFunc],.other⟩:=rfl
theorem I9:aS 63=some ⟨1,8,[.v (.map none)],.map 9 104⟩:=rfl
theorem I':aS 65=some ⟨1,8,[.v .nilFunc],.other⟩:=rfl
theorem Ja:aS 66=some ⟨1,8,[.v (.pointer none)],.other⟩:=rfl
theorem Jb:aS 67=some ⟨4,48,[.v (.map none),.aC 6 [] .ex,.v (.int .i64 0),.v (.bool false)],.struct [(0,63),(1,30),(2,3),(3,4)]⟩:=rfl
theorem Jc:aS 68=some ⟨4,48,[.v (.map none),.aC 6 [] .ex,.v (.int .i64 0),.v (.bool false)],.struct [(0,63),(1,30),(2,3),(3,4)]⟩:=rfl
theorem Jd:aS 69=some ⟨1,24,[.aC 2 [] .ex],.slice 72⟩:=rfl
theorem Je:aS 70=some ⟨1,24,[.aC 1 [] .ex],.slice 35⟩:=rfl
theorem Jf:aS 71=some ⟨2,32,[.v (.int .i64 0),.aC 4 [] .ex],.struct [(0,3),(1,24)]⟩:=rfl
theorem Jg:aS 72=some ⟨2,32,[.v (.int .i64 0),.aC 4 [] .ex],.struct [(0,3),(1,24)]⟩:=rfl
theorem Jh:aS 73=some ⟨1,8,[.v .nilFunc],.other⟩:=rfl
theorem Ji:aS 74=some ⟨1,8,[.v .nilFunc],.other⟩:=rfl
theorem Jj:aS 75=some ⟨1,24,[.aC 1 [] .ex],.slice 9⟩:=rfl
theorem Jk:aS 76=some ⟨6,112,[.v (.int .i64 0),.v (.int .i64 0),.aC 1 [] .ex,.aC 1 [] .ex,.aC 1 [] .ex,.aC 1 [] .ex],.struct [(0,3),(1,3),(2,35),(3,75),(4,35),(5,35)]⟩:=rfl
theorem Jl:aS 77=some ⟨6,112,[.v (.int .i64 0),.v (.int .i64 0),.aC 1 [] .ex,.aC 1 [] .ex,.aC 1 [] .ex,.aC 1 [] .ex],.struct [(0,3),(1,3),(2,35),(3,75),(4,35),(5,35)]⟩:=rfl
theorem Jm:aS 78=some ⟨1,8,[.v .nilFunc],.other⟩:=rfl
theorem Jn:aS 79=some ⟨1,8,[.v .nilFunc],.other⟩:=rfl
theorem Jo:aS 80=some ⟨4,56,[.v (.int .i64 0),.v (.string ByteArray.empty),.v (.int .i64 0),.aC 4 [] .ex],.struct [(0,3),(1,9),(2,3),(3,24)]⟩:=rfl
theorem Jp:aS 81=some ⟨4,56,[.v (.int .i64 0),.v (.string ByteArray.empty),.v (.int .i64 0),.aC 4 [] .ex],.struct [(0,3),(1,9),(2,3),(3,24)]⟩:=rfl
theorem Jq:aS 83=some ⟨1,8,[.v .nilFunc],.other⟩:=rfl
theorem Jr:aS 84=some ⟨1,8,[.v .nilFunc],.other⟩:=rfl
theorem Js:aS 85=some ⟨1,8,[.v .nilFunc],.other⟩:=rfl
theorem Jt:aS 88=some ⟨1,8,[.v .nilFunc],.other⟩:=rfl
theorem Ju:aS 89=some ⟨1,8,[.v .nilFunc],.other⟩:=rfl
theorem Jv:aS 90=some ⟨1,8,[.v .nilFunc],.other⟩:=rfl
theorem Jw:aS 91=some ⟨1,8,[.v .nilFunc],.other⟩:=rfl
theorem Jx:aS 92=some ⟨1,8,[.v .nilFunc],.other⟩:=rfl
theorem Jy:aS 93=some ⟨1,8,[.v .nilFunc],.other⟩:=rfl
theorem Jz:aS 94=some ⟨1,24,[.aC 2 [] .ex],.slice 101⟩:=rfl
theorem JA:aS 95=some ⟨3,48,[.v (.string ByteArray.empty),.v (.int .i64 0),.aC 2 [] .ex],.struct [(0,9),(1,3),(2,94)]⟩:=rfl
theorem Dg:aS 96=some ⟨3,48,[.v (.string ByteArray.empty),.v (.int .i64 0),.aC 2 [] .ex],.struct [(0,9),(1,3),(2,94)]⟩:=rfl
theorem JB:aS 97=some ⟨3,24,[.v (.int .i64 0),.v (.int .i64 0),.v (.int .i64 0)],.struct [(0,3),(1,3),(2,3)]⟩:=rfl
theorem JC:aS 98=some ⟨3,24,[.v (.int .i64 0),.v (.int .i64 0),.v (.int .i64 0)],.struct [(0,3),(1,3),(2,3)]⟩:=rfl
theorem JD:aS 99=some ⟨1,24,[.aC 4 [] .ex],.slice 221⟩:=rfl
theorem D4:aS 100=some ⟨2,40,[.v (.string ByteArray.empty),.aC 4 [] .ex],.struct [(0,9),(1,99)]⟩:=rfl
theorem D5:aS 101=some ⟨2,40,[.v (.string ByteArray.empty),.aC 4 [] .ex],.struct [(0,9),(1,99)]⟩:=rfl
theorem D6:aS 102=some ⟨1,8,[.v .nilFunc],.other⟩:=rfl
theorem D7:aS 103=some ⟨1,8,[.v .nilFunc],.other⟩:=rfl
theorem D8:aS 104=some ⟨1,8,[.v (.pointer none)],.other⟩:=rfl
theorem D9:aS 105=some ⟨1,8,[.v .nilFunc],.other⟩:=rfl
theorem D':aS 106=some ⟨1,8,[.v .nilFunc],.other⟩:=rfl
theorem Ea:aS 107=some ⟨1,8,[.v .nilFunc],.other⟩:=rfl
theorem Eb:aS 108=some ⟨1,8,[.v .nilFunc],.other⟩:=rfl
theorem Ec:aS 109=some ⟨1,8,[.v .nilFunc],.other⟩:=rfl
theorem Ed:aS 110=some ⟨1,8,[.v .nilFunc],.other⟩:=rfl
theorem Ee:aS 111=some ⟨1,8,[.v .nilFunc],.other⟩:=rfl
theorem Ef:aS 112=some ⟨1,8,[.v .nilFunc],.other⟩:=rfl
theorem Eg:aS 113=some ⟨1,8,[.v .nilFunc],.other⟩:=rfl
theorem ML:aS 116=some ⟨1,8,[.v (.pointer none)],.other⟩:=rfl
theorem MM:aS 117=some ⟨1,24,[.aC 1 [] .ex],.slice 151⟩:=rfl
theorem MN:aS 119=some ⟨9,112,[.aC 2 [] .ex,.v (.int .i64 0),.aC 1 [] .ex,.v (.int .i64 0),.v (.bool false),.v (.bool false),.aC 1 [] .ex,.v (.int .i64 0),.v (.int .i64 0)],.struct [(0,49),(2,117),(3,3),(4,4),(5,4),(6,51)]⟩:=rfl
theorem MO:aS 121=some ⟨1,8,[.v .nilFunc],.other⟩:=rfl
theorem Eh:aS 122=some ⟨1,8,[.v .nilFunc],.other⟩:=rfl
theorem Ei:aS 123=some ⟨1,8,[.v (.pointer none)],.other⟩:=rfl
theorem Ej:aS 124=some ⟨1,8,[.v .nilFunc],.other⟩:=rfl
theorem Ek:aS 125=some ⟨1,8,[.v .nilFunc],.other⟩:=rfl
theorem El:aS 127=some ⟨1,8,[.v .nilFunc],.other⟩:=rfl
theorem Em:aS 128=some ⟨1,8,[.v .nilFunc],.other⟩:=rfl
theorem En:aS 129=some ⟨1,8,[.v .nilFunc],.other⟩:=rfl
theorem Eo:aS 130=some ⟨1,8,[.v .nilFunc],.other⟩:=rfl
theorem Ep:aS 131=some ⟨1,8,[.v .nilFunc],.other⟩:=rfl
theorem Er:aS 132=some ⟨1,8,[.v .nilFunc],.other⟩:=rfl
theorem Es:aS 133=some ⟨1,8,[.v .nilFunc],.other⟩:=rfl
theorem Et:aS 134=some ⟨1,8,[.v .nilFunc],.other⟩:=rfl
theorem Eu:aS 135=some ⟨1,8,[.v .nilFunc],.other⟩:=rfl
theorem Ev:aS 136=some ⟨1,8,[.v .nilFunc],.other⟩:=rfl
theorem Ew:aS 137=some ⟨1,8,[.v .nilFunc],.other⟩:=rfl
theorem Ex:aS 138=some ⟨1,8,[.v .nilFunc],.other⟩:=rfl
theorem Ey:aS 139=some ⟨1,8,[.v .nilFunc],.other⟩:=rfl
theorem Ez:aS 140=some ⟨1,8,[.v .nilFunc],.other⟩:=rfl
theorem EA:aS 141=some ⟨1,8,[.v .nilFunc],.other⟩:=rfl
theorem EB:aS 142=some ⟨1,8,[.v .nilFunc],.other⟩:=rfl
theorem EC:aS 143=some ⟨1,8,[.v .nilFunc],.other⟩:=rfl
theorem MP:aS 144=some ⟨1,8,[.v (.pointer none)],.other⟩:=rfl
theorem MQ:aS 145=some ⟨1,8,[.v (.map none)],.map 3 174⟩:=rfl
theorem MR:aS 147=some ⟨3,40,[.v (.int .i64 0),.aC 7 [] .ex,.v (.map none)],.struct [(0,46),(2,145)]⟩:=rfl
theorem MS:aS 150=some ⟨1,24,[.aC 4 [] .ex],.slice 157⟩:=rfl
theorem MT:aS 151=some ⟨1,8,[.v (.pointer none)],.other⟩:=rfl
theorem MU:aS 152=some ⟨1,8,[.v (.map none)],.map 3 157⟩:=rfl
theorem MV:aS 154=some ⟨5,40,[.v (.int .i64 0),.v (.int .i64 0),.v (.int .i64 0),.v (.int .i64 0),.v (.map none)],.struct [(0,3),(1,3),(2,3),(3,3),(4,152)]⟩:=rfl
theorem MW:aS 155=some ⟨1,8,[.v (.pointer none)],.other⟩:=rfl
theorem MX:aS 157=some ⟨4,48,[.v (.int .i64 0),.v (.int .i64 0),.aC 4 [] .ex,.v (.pointer none)],.struct [(0,3),(1,3),(2,150),(3,155)]⟩:=rfl
theorem ED:aS 163=some ⟨1,8,[.v .nilFunc],.other⟩:=rfl
theorem EE:aS 164=some ⟨1,8,[.v .nilFunc],.other⟩:=rfl
theorem EF:aS 165=some ⟨1,8,[.v .nilFunc],.other⟩:=rfl
theorem EG:aS 166=some ⟨1,8,[.v .nilFunc],.other⟩:=rfl
theorem EH:aS 167=some ⟨1,24,[.aC 1 [] .ex],.slice 70⟩:=rfl
theorem EI:aS 168=some ⟨1,8,[.v .nilFunc],.other⟩:=rfl
theorem EJ:aS 169=some ⟨1,8,[.v .nilFunc],.other⟩:=rfl
theorem EK:aS 170=some ⟨1,8,[.v .nilFunc],.other⟩:=rfl
theorem EL:aS 171=some ⟨1,8,[.v .nilFunc],.other⟩:=rfl
theorem MY:aS 174=some ⟨2,16,[.v (.int .i64 0),.v (.int .i64 0)],.struct [(0,3),(1,3)]⟩:=rfl
theorem MZ:aS 177=some ⟨1,24,[.aC 2 [] .ex],.slice 180⟩:=rfl
theorem EM:aS 178=some ⟨1,8,[.v (.int .u64 0)],.other⟩:=rfl
theorem M0:aS 180=some ⟨2,16,[.v (.int .u64 0),.v (.int .u64 0)],.array 2 178⟩:=rfl
theorem M3:aS 187=some ⟨2,32,[.v (.int .i64 0),.aC 1 [] .ex],.struct [(0,3),(1,35)]⟩:=rfl
theorem M4:aS 195=some ⟨1,8,[.v .nilFunc],.other⟩:=rfl
theorem EN:aS 204=some ⟨1,8,[.v .nilFunc],.other⟩:=rfl
theorem EO:aS 210=some ⟨1,8,[.v .nilFunc],.other⟩:=rfl
theorem EP:aS 211=some ⟨1,4,[.v (.int .u32 0)],.other⟩:=rfl
theorem ER:aS 215=some ⟨1,8,[.v (.pointer none)],.other⟩:=rfl
theorem ES:aS 220=some ⟨4,56,[.v (.int .i64 0),.v (.string ByteArray.empty),.v (.int .i64 0),.aC 4 [] .ex],.struct [(0,3),(1,9),(2,3),(3,99)]⟩:=rfl
theorem ET:aS 221=some ⟨4,56,[.v (.int .i64 0),.v (.string ByteArray.empty),.v (.int .i64 0),.aC 4 [] .ex],.struct [(0,3),(1,9),(2,3),(3,99)]⟩:=rfl
theorem Qr:br Go.Proofs.Tryz.prog 1 ⟨1,8,[.v .nilFunc],.other⟩=true:=by kernel_rfl
theorem Qs:br Go.Proofs.Tryz.prog 2 ⟨1,8,[.v (.int .i64 0)],.other⟩=true:=by kernel_rfl
theorem Qt:br Go.Proofs.Tryz.prog 3 ⟨1,8,[.v (.int .i64 0)],.other⟩=true:=by kernel_rfl
theorem Qu:br Go.Proofs.Tryz.prog 4 ⟨1,1,[.v (.bool false)],.other⟩=true:=by kernel_rfl
theorem Qv:br Go.Proofs.Tryz.prog 5 ⟨1,1,[.v (.int .u8 0)],.other⟩=true:=by kernel_rfl
theorem Qw:br Go.Proofs.Tryz.prog 9 ⟨1,16,[.v (.string ByteArray.empty)],.other⟩=true:=by kernel_rfl
theorem M5:br Go.Proofs.Tryz.prog 12 ⟨1,8,[.v (.int .u64 0)],.other⟩=true:=by kernel_rfl
theorem M6:br Go.Proofs.Tryz.prog 13 ⟨2,24,[.v (.string ByteArray.empty),.v (.int .u64 0)],.struct [(0,9),(1,12)]⟩=true:=by kernel_rfl
theorem M7:br Go.Proofs.Tryz.prog 21 ⟨1,4,[.v (.int .i32 0)],.other⟩=true:=by kernel_rfl
theorem M8:br Go.Proofs.Tryz.prog 22 ⟨1,24,[.aC 3 [] .ex],.slice 96⟩=true:=by kernel_rfl
theorem M9:br Go.Proofs.Tryz.prog 23 ⟨1,24,[.aC 1 [] .ex],.slice 24⟩=true:=by kernel_rfl
theorem M':br Go.Proofs.Tryz.prog 24 ⟨1,24,[.aC 4 [] .ex],.slice 81⟩=true:=by kernel_rfl
theorem Na:br Go.Proofs.Tryz.prog 25 ⟨1,8,[.v .nilFunc],.other⟩=true:=by kernel_rfl
theorem Nb:br Go.Proofs.Tryz.prog 27 ⟨1,8,[.v (.int .i64 0)],.other⟩=true:=by kernel_rfl
theorem Nc:br Go.Proofs.Tryz.prog 29 ⟨1,8,[.v .nilFunc],.other⟩=true:=by kernel_rfl
theorem Nd:br Go.Proofs.Tryz.prog 30 ⟨1,24,[.aC 6 [] .ex],.slice 77⟩=true:=by kernel_rfl
theorem Nf:br Go.Proofs.Tryz.prog 32 ⟨1,8,[.v .nilFunc],.other⟩=true:=by kernel_rfl
theorem Ng:br Go.Proofs.Tryz.prog 34 ⟨1,8,[.v .nilFunc],.other⟩=true:=by kernel_rfl
theorem Nh:br Go.Proofs.Tryz.prog 35 ⟨1,24,[.aC 1 [] .ex],.slice 3⟩=true:=by kernel_rfl
theorem Ni:br Go.Proofs.Tryz.prog 37 ⟨4,48,[.v (.int .i64 0),.v (.int .i64 0),.v (.int .i64 0),.aC 1 [] .ex],.struct [(0,3),(1,3),(2,3),(3,35)]⟩=true:=by kernel_rfl
theorem Nj:br Go.Proofs.Tryz.prog 38 ⟨1,24,[.aC 4 [] .ex],.slice 37⟩=true:=by kernel_rfl
theorem Nk:br Go.Proofs.Tryz.prog 39 ⟨1,24,[.aC 2 [] .ex],.slice 187⟩=true:=by kernel_rfl
theorem Nl:br Go.Proofs.Tryz.prog 41 ⟨5,72,[.v (.int .i64 0),.v (.int .i64 0),.v (.int .i64 0),.aC 1 [] .ex,.aC 2 [] .ex],.struct [(0,3),(1,3),(2,3),(3,35),(4,39)]⟩=true:=by kernel_rfl
theorem Nm:br Go.Proofs.Tryz.prog 43 ⟨7,120,[.aC 1 [] .ex,.aC 4 [] .ex,.v (.int .i64 0),.v (.int .i64 0),.v (.int .i64 0),.aC 1 [] .ex,.aC 2 [] .ex],.struct [(0,35),(1,38),(2,41)]⟩=true:=by kernel_rfl
theorem Nn:br Go.Proofs.Tryz.prog 44 ⟨1,24,[.aC 7 [] .ex],.slice 43⟩=true:=by kernel_rfl
theorem No:br Go.Proofs.Tryz.prog 46 ⟨2,32,[.v (.int .i64 0),.aC 7 [] .ex],.struct [(0,3),(1,44)]⟩=true:=by kernel_rfl
theorem Np:br Go.Proofs.Tryz.prog 47 ⟨1,24,[.aC 2 [] .ex],.slice 46⟩=true:=by kernel_rfl
theorem Nq:br Go.Proofs.Tryz.prog 49 ⟨2,32,[.aC 2 [] .ex,.v (.int .i64 0)],.struct [(0,47),(1,3)]⟩=true:=by kernel_rfl
theorem Nr:br Go.Proofs.Tryz.prog 51 ⟨3,40,[.aC 1 [] .ex,.v (.int .i64 0),.v (.int .i64 0)],.struct [(0,35),(1,3),(2,3)]⟩=true:=by kernel_rfl
theorem Ns:br Go.Proofs.Tryz.prog 54 ⟨1,8,[.v .nilFunc],.other⟩=true:=by kernel_rfl
theorem Nt:br Go.Proofs.Tryz.prog 55 ⟨1,8,[.v .nilFunc],.other⟩=true:=by kernel_rfl
theorem Nu:br Go.Proofs.Tryz.prog 56 ⟨1,8,[.v (.map none)],.map 9 98⟩=true:=by kernel_rfl
theorem Nv:br Go.Proofs.Tryz.prog 57 ⟨2,32,[.aC 3 [] .ex,.v (.map none)],.struct [(0,22),(1,56)]⟩=true:=by kernel_rfl
theorem Nw:br Go.Proofs.Tryz.prog 58 ⟨2,32,[.aC 3 [] .ex,.v (.map none)],.struct [(0,22),(1,56)]⟩=true:=by kernel_rfl
theorem Nx:br Go.Proofs.Tryz.prog 60 ⟨1,8,[.v .nilFunc],.other⟩=true:=by kernel_rfl
theorem Ny:br Go.Proofs.Tryz.prog 62 ⟨1,8,[.v .nilFunc],.other⟩=true:=by kernel_rfl
theorem Nz:br Go.Proofs.Tryz.prog 63 ⟨1,8,[.v (.map none)],.map 9 104⟩=true:=by kernel_rfl
theorem NA:br Go.Proofs.Tryz.prog 65 ⟨1,8,[.v .nilFunc],.other⟩=true:=by kernel_rfl
theorem NB:br Go.Proofs.Tryz.prog 66 ⟨1,8,[.v (.pointer none)],.other⟩=true:=by kernel_rfl
theorem NC:br Go.Proofs.Tryz.prog 67 ⟨4,48,[.v (.map none),.aC 6 [] .ex,.v (.int .i64 0),.v (.bool false)],.struct [(0,63),(1,30),(2,3),(3,4)]⟩=true:=by kernel_rfl
theorem ND:br Go.Proofs.Tryz.prog 68 ⟨4,48,[.v (.map none),.aC 6 [] .ex,.v (.int .i64 0),.v (.bool false)],.struct [(0,63),(1,30),(2,3),(3,4)]⟩=true:=by kernel_rfl
theorem NF:br Go.Proofs.Tryz.prog 69 ⟨1,24,[.aC 2 [] .ex],.slice 72⟩=true:=by kernel_rfl
theorem NG:br Go.Proofs.Tryz.prog 70 ⟨1,24,[.aC 1 [] .ex],.slice 35⟩=true:=by kernel_rfl
theorem NH:br Go.Proofs.Tryz.prog 71 ⟨2,32,[.v (.int .i64 0),.aC 4 [] .ex],.struct [(0,3),(1,24)]⟩=true:=by kernel_rfl
theorem NI:br Go.Proofs.Tryz.prog 72 ⟨2,32,[.v (.int .i64 0),.aC 4 [] .ex],.struct [(0,3),(1,24)]⟩=true:=by kernel_rfl
theorem NJ:br Go.Proofs.Tryz.prog 73 ⟨1,8,[.v .nilFunc],.other⟩=true:=by kernel_rfl
theorem NK:br Go.Proofs.Tryz.prog 74 ⟨1,8,[.v .nilFunc],.other⟩=true:=by kernel_rfl
theorem NL:br Go.Proofs.Tryz.prog 75 ⟨1,24,[.aC 1 [] .ex],.slice 9⟩=true:=by kernel_rfl
theorem NM:br Go.Proofs.Tryz.prog 76 ⟨6,112,[.v (.int .i64 0),.v (.int .i64 0),.aC 1 [] .ex,.aC 1 [] .ex,.aC 1 [] .ex,.aC 1 [] .ex],.struct [(0,3),(1,3),(2,35),(3,75),(4,35),(5,35)]⟩=true:=by kernel_rfl
theorem NN:br Go.Proofs.Tryz.prog 77 ⟨6,112,[.v (.int .i64 0),.v (.int .i64 0),.aC 1 [] .ex,.aC 1 [] .ex,.aC 1 [] .ex,.aC 1 [] .ex],.struct [(0,3),(1,3),(2,35),(3,75),(4,35),(5,35)]⟩=true:=by kernel_rfl
theorem NO:br Go.Proofs.Tryz.prog 78 ⟨1,8,[.v .nilFunc],.other⟩=true:=by kernel_rfl
theorem NP:br Go.Proofs.Tryz.prog 79 ⟨1,8,[.v .nilFunc],.other⟩=true:=by kernel_rfl
theorem NQ:br Go.Proofs.Tryz.prog 80 ⟨4,56,[.v (.int .i64 0),.v (.string ByteArray.empty),.v (.int .i64 0),.aC 4 [] .ex],.struct [(0,3),(1,9),(2,3),(3,24)]⟩=true:=by kernel_rfl
theorem NR:br Go.Proofs.Tryz.prog 81 ⟨4,56,[.v (.int .i64 0),.v (.string ByteArray.empty),.v (.int .i64 0),.aC 4 [] .ex],.struct [(0,3),(1,9),(2,3),(3,24)]⟩=true:=by kernel_rfl
theorem NS:br Go.Proofs.Tryz.prog 83 ⟨1,8,[.v .nilFunc],.other⟩=true:=by kernel_rfl
theorem NT:br Go.Proofs.Tryz.prog 84 ⟨1,8,[.v .nilFunc],.other⟩=true:=by kernel_rfl
theorem NU:br Go.Proofs.Tryz.prog 85 ⟨1,8,[.v .nilFunc],.other⟩=true:=by kernel_rfl
theorem NV:br Go.Proofs.Tryz.prog 88 ⟨1,8,[.v .nilFunc],.other⟩=true:=by kernel_rfl
theorem NW:br Go.Proofs.Tryz.prog 89 ⟨1,8,[.v .nilFunc],.other⟩=true:=by kernel_rfl
theorem NX:br Go.Proofs.Tryz.prog 90 ⟨1,8,[.v .nilFunc],.other⟩=true:=by kernel_rfl
theorem NY:br Go.Proofs.Tryz.prog 91 ⟨1,8,[.v .nilFunc],.other⟩=true:=by kernel_rfl
theorem NZ:br Go.Proofs.Tryz.prog 92 ⟨1,8,[.v .nilFunc],.other⟩=true:=by kernel_rfl
theorem N0:br Go.Proofs.Tryz.prog 93 ⟨1,8,[.v .nilFunc],.other⟩=true:=by kernel_rfl
theorem N1:br Go.Proofs.Tryz.prog 94 ⟨1,24,[.aC 2 [] .ex],.slice 101⟩=true:=by kernel_rfl
theorem N2:br Go.Proofs.Tryz.prog 95 ⟨3,48,[.v (.string ByteArray.empty),.v (.int .i64 0),.aC 2 [] .ex],.struct [(0,9),(1,3),(2,94)]⟩=true:=by kernel_rfl
theorem N3:br Go.Proofs.Tryz.prog 96 ⟨3,48,[.v (.string ByteArray.empty),.v (.int .i64 0),.aC 2 [] .ex],.struct [(0,9),(1,3),(2,94)]⟩=true:=by kernel_rfl
theorem N4:br Go.Proofs.Tryz.prog 97 ⟨3,24,[.v (.int .i64 0),.v (.int .i64 0),.v (.int .i64 0)],.struct [(0,3),(1,3),(2,3)]⟩=true:=by kernel_rfl
theorem N5:br Go.Proofs.Tryz.prog 98 ⟨3,24,[.v (.int .i64 0),.v (.int .i64 0),.v (.int .i64 0)],.struct [(0,3),(1,3),(2,3)]⟩=true:=by kernel_rfl
theorem N6:br Go.Proofs.Tryz.prog 99 ⟨1,24,[.aC 4 [] .ex],.slice 221⟩=true:=by kernel_rfl
theorem JF:br Go.Proofs.Tryz.prog 100 ⟨2,40,[.v (.string ByteArray.empty),.aC 4 [] .ex],.struct [(0,9),(1,99)]⟩=true:=by kernel_rfl
theorem JG:br Go.Proofs.Tryz.prog 101 ⟨2,40,[.v (.string ByteArray.empty),.aC 4 [] .ex],.struct [(0,9),(1,99)]⟩=true:=by kernel_rfl
theorem JH:br Go.Proofs.Tryz.prog 102 ⟨1,8,[.v .nilFunc],.other⟩=true:=by kernel_rfl
theorem JI:br Go.Proofs.Tryz.prog 103 ⟨1,8,[.v .nilFunc],.other⟩=true:=by kernel_rfl
theorem JJ:br Go.Proofs.Tryz.prog 104 ⟨1,8,[.v (.pointer none)],.other⟩=true:=by kernel_rfl
theorem JK:br Go.Proofs.Tryz.prog 105 ⟨1,8,[.v .nilFunc],.other⟩=true:=by kernel_rfl
theorem JL:br Go.Proofs.Tryz.prog 106 ⟨1,8,[.v .nilFunc],.other⟩=true:=by kernel_rfl
theorem JM:br Go.Proofs.Tryz.prog 107 ⟨1,8,[.v .nilFunc],.other⟩=true:=by kernel_rfl
theorem JN:br Go.Proofs.Tryz.prog 108 ⟨1,8,[.v .nilFunc],.other⟩=true:=by kernel_rfl
theorem JO:br Go.Proofs.Tryz.prog 109 ⟨1,8,[.v .nilFunc],.other⟩=true:=by kernel_rfl
theorem JP:br Go.Proofs.Tryz.prog 110 ⟨1,8,[.v .nilFunc],.other⟩=true:=by kernel_rfl
theorem JQ:br Go.Proofs.Tryz.prog 111 ⟨1,8,[.v .nilFunc],.other⟩=true:=by kernel_rfl
theorem JR:br Go.Proofs.Tryz.prog 112 ⟨1,8,[.v .nilFunc],.other⟩=true:=by kernel_rfl
theorem JS:br Go.Proofs.Tryz.prog 113 ⟨1,8,[.v .nilFunc],.other⟩=true:=by kernel_rfl
theorem JT:br Go.Proofs.Tryz.prog 116 ⟨1,8,[.v (.pointer none)],.other⟩=true:=by kernel_rfl
theorem JU:br Go.Proofs.Tryz.prog 117 ⟨1,24,[.aC 1 [] .ex],.slice 151⟩=true:=by kernel_rfl
theorem JV:br Go.Proofs.Tryz.prog 119 ⟨9,112,[.aC 2 [] .ex,.v (.int .i64 0),.aC 1 [] .ex,.v (.int .i64 0),.v (.bool false),.v (.bool false),.aC 1 [] .ex,.v (.int .i64 0),.v (.int .i64 0)],.struct [(0,49),(2,117),(3,3),(4,4),(5,4),(6,51)]⟩=true:=by kernel_rfl
theorem JW:br Go.Proofs.Tryz.prog 121 ⟨1,8,[.v .nilFunc],.other⟩=true:=by kernel_rfl
theorem JX:br Go.Proofs.Tryz.prog 122 ⟨1,8,[.v .nilFunc],.other⟩=true:=by kernel_rfl
theorem JY:br Go.Proofs.Tryz.prog 123 ⟨1,8,[.v (.pointer none)],.other⟩=true:=by kernel_rfl
theorem JZ:br Go.Proofs.Tryz.prog 124 ⟨1,8,[.v .nilFunc],.other⟩=true:=by kernel_rfl
theorem J0:br Go.Proofs.Tryz.prog 125 ⟨1,8,[.v .nilFunc],.other⟩=true:=by kernel_rfl
theorem J1:br Go.Proofs.Tryz.prog 127 ⟨1,8,[.v .nilFunc],.other⟩=true:=by kernel_rfl
theorem J2:br Go.Proofs.Tryz.prog 128 ⟨1,8,[.v .nilFunc],.other⟩=true:=by kernel_rfl
theorem J3:br Go.Proofs.Tryz.prog 129 ⟨1,8,[.v .nilFunc],.other⟩=true:=by kernel_rfl
theorem J4:br Go.Proofs.Tryz.prog 130 ⟨1,8,[.v .nilFunc],.other⟩=true:=by kernel_rfl
theorem J5:br Go.Proofs.Tryz.prog 131 ⟨1,8,[.v .nilFunc],.other⟩=true:=by kernel_rfl
theorem J6:br Go.Proofs.Tryz.prog 132 ⟨1,8,[.v .nilFunc],.other⟩=true:=by kernel_rfl
theorem J7:br Go.Proofs.Tryz.prog 133 ⟨1,8,[.v .nilFunc],.other⟩=true:=by kernel_rfl
theorem J8:br Go.Proofs.Tryz.prog 134 ⟨1,8,[.v .nilFunc],.other⟩=true:=by kernel_rfl
theorem J9:br Go.Proofs.Tryz.prog 135 ⟨1,8,[.v .nilFunc],.other⟩=true:=by kernel_rfl
theorem J':br Go.Proofs.Tryz.prog 136 ⟨1,8,[.v .nilFunc],.other⟩=true:=by kernel_rfl
theorem Ka:br Go.Proofs.Tryz.prog 137 ⟨1,8,[.v .nilFunc],.other⟩=true:=by kernel_rfl
theorem Kb:br Go.Proofs.Tryz.prog 138 ⟨1,8,[.v .nilFunc],.other⟩=true:=by kernel_rfl
theorem Kc:br Go.Proofs.Tryz.prog 139 ⟨1,8,[.v .nilFunc],.other⟩=true:=by kernel_rfl
theorem Kd:br Go.Proofs.Tryz.prog 140 ⟨1,8,[.v .nilFunc],.other⟩=true:=by kernel_rfl
theorem Ke:br Go.Proofs.Tryz.prog 141 ⟨1,8,[.v .nilFunc],.other⟩=true:=by kernel_rfl
theorem Kf:br Go.Proofs.Tryz.prog 142 ⟨1,8,[.v .nilFunc],.other⟩=true:=by kernel_rfl
theorem Kg:br Go.Proofs.Tryz.prog 143 ⟨1,8,[.v .nilFunc],.other⟩=true:=by kernel_rfl
theorem Kh:br Go.Proofs.Tryz.prog 144 ⟨1,8,[.v (.pointer none)],.other⟩=true:=by kernel_rfl
theorem Ki:br Go.Proofs.Tryz.prog 145 ⟨1,8,[.v (.map none)],.map 3 174⟩=true:=by kernel_rfl
theorem Kj:br Go.Proofs.Tryz.prog 147 ⟨3,40,[.v (.int .i64 0),.aC 7 [] .ex,.v (.map none)],.struct [(0,46),(2,145)]⟩=true:=by kernel_rfl
theorem Kk:br Go.Proofs.Tryz.prog 150 ⟨1,24,[.aC 4 [] .ex],.slice 157⟩=true:=by kernel_rfl
theorem Kl:br Go.Proofs.Tryz.prog 151 ⟨1,8,[.v (.pointer none)],.other⟩=true:=by kernel_rfl
theorem Km:br Go.Proofs.Tryz.prog 152 ⟨1,8,[.v (.map none)],.map 3 157⟩=true:=by kernel_rfl
theorem Kn:br Go.Proofs.Tryz.prog 154 ⟨5,40,[.v (.int .i64 0),.v (.int .i64 0),.v (.int .i64 0),.v (.int .i64 0),.v (.map none)],.struct [(0,3),(1,3),(2,3),(3,3),(4,152)]⟩=true:=by kernel_rfl
theorem Ko:br Go.Proofs.Tryz.prog 155 ⟨1,8,[.v (.pointer none)],.other⟩=true:=by kernel_rfl
theorem Kp:br Go.Proofs.Tryz.prog 157 ⟨4,48,[.v (.int .i64 0),.v (.int .i64 0),.aC 4 [] .ex,.v (.pointer none)],.struct [(0,3),(1,3),(2,150),(3,155)]⟩=true:=by kernel_rfl
theorem Kq:br Go.Proofs.Tryz.prog 163 ⟨1,8,[.v .nilFunc],.other⟩=true:=by kernel_rfl
theorem Kr:br Go.Proofs.Tryz.prog 164 ⟨1,8,[.v .nilFunc],.other⟩=true:=by kernel_rfl
theorem Ks:br Go.Proofs.Tryz.prog 165 ⟨1,8,[.v .nilFunc],.other⟩=true:=by kernel_rfl
theorem Kt:br Go.Proofs.Tryz.prog 166 ⟨1,8,[.v .nilFunc],.other⟩=true:=by kernel_rfl
theorem Ku:br Go.Proofs.Tryz.prog 167 ⟨1,24,[.aC 1 [] .ex],.slice 70⟩=true:=by kernel_rfl
theorem Kv:br Go.Proofs.Tryz.prog 168 ⟨1,8,[.v .nilFunc],.other⟩=true:=by kernel_rfl
theorem Kw:br Go.Proofs.Tryz.prog 169 ⟨1,8,[.v .nilFunc],.other⟩=true:=by kernel_rfl
theorem Kx:br Go.Proofs.Tryz.prog 170 ⟨1,8,[.v .nilFunc],.other⟩=true:=by kernel_rfl
theorem Ky:br Go.Proofs.Tryz.prog 171 ⟨1,8,[.v .nilFunc],.other⟩=true:=by kernel_rfl
theorem Kz:br Go.Proofs.Tryz.prog 174 ⟨2,16,[.v (.int .i64 0),.v (.int .i64 0)],.struct [(0,3),(1,3)]⟩=true:=by kernel_rfl
theorem KA:br Go.Proofs.Tryz.prog 177 ⟨1,24,[.aC 2 [] .ex],.slice 180⟩=true:=by kernel_rfl
theorem KB:br Go.Proofs.Tryz.prog 178 ⟨1,8,[.v (.int .u64 0)],.other⟩=true:=by kernel_rfl
theorem KC:br Go.Proofs.Tryz.prog 180 ⟨2,16,[.v (.int .u64 0),.v (.int .u64 0)],.array 2 178⟩=true:=by kernel_rfl
theorem KD:br Go.Proofs.Tryz.prog 187 ⟨2,32,[.v (.int .i64 0),.aC 1 [] .ex],.struct [(0,3),(1,35)]⟩=true:=by kernel_rfl
theorem KE:br Go.Proofs.Tryz.prog 195 ⟨1,8,[.v .nilFunc],.other⟩=true:=by kernel_rfl
theorem KF:br Go.Proofs.Tryz.prog 204 ⟨1,8,[.v .nilFunc],.other⟩=true:=by kernel_rfl
theorem KG:br Go.Proofs.Tryz.prog 210 ⟨1,8,[.v .nilFunc],.other⟩=true:=by kernel_rfl
theorem KH:br Go.Proofs.Tryz.prog 211 ⟨1,4,[.v (.int .u32 0)],.other⟩=true:=by kernel_rfl
theorem KI:br Go.Proofs.Tryz.prog 215 ⟨1,8,[.v (.pointer none)],.other⟩=true:=by kernel_rfl
theorem KJ:br Go.Proofs.Tryz.prog 220 ⟨4,56,[.v (.int .i64 0),.v (.string ByteArray.empty),.v (.int .i64 0),.aC 4 [] .ex],.struct [(0,3),(1,9),(2,3),(3,99)]⟩=true:=by kernel_rfl
theorem KK:br Go.Proofs.Tryz.prog 221 ⟨4,56,[.v (.int .i64 0),.v (.string ByteArray.empty),.v (.int .i64 0),.aC 4 [] .ex],.struct [(0,3),(1,9),(2,3),(3,99)]⟩=true:=by kernel_rfl
set_option maxRecDepth 100000 in
theorem hT:cG Go.Proofs.Tryz.prog aS:=by
 intro t ti h;unfold aS at h;split at h
 ·cases h;exact az Qr
 ·cases h;exact az Qs
 ·cases h;exact az Qt
 ·cases h;exact az Qu
 ·cases h;exact az Qv
 ·cases h;exact az Qw
 ·cases h;exact az M5
 ·cases h;exact az M6
 ·cases h;exact az M7
 ·cases h;exact az M8
 ·cases h;exact az M9
 ·cases h;exact az M'
 ·cases h;exact az Na
 ·cases h;exact az Nb
 ·cases h;exact az Nc
 ·cases h;exact az Nd
 ·cases h;exact az Nf
 ·cases h;exact az Ng
 ·cases h;exact az Nh
 ·cases h;exact az Ni
 ·cases h;exact az Nj
 ·cases h;exact az Nk
 ·cases h;exact az Nl
 ·cases h;exact az Nm
 ·cases h;exact az Nn
 ·cases h;exact az No
 ·cases h;exact az Np
 ·cases h;exact az Nq
 ·cases h;exact az Nr
 ·cases h;exact az Ns
 ·cases h;exact az Nt
 ·cases h;exact az Nu
 ·cases h;exact az Nv
 ·cases h;exact az Nw
 ·cases h;exact az Nx
 ·cases h;exact az Ny
 ·cases h;exact az Nz
 ·cases h;exact az NA
 ·cases h;exact az NB
 ·cases h;exact az NC
 ·cases h;exact az ND
 ·cases h;exact az NF
 ·cases h;exact az NG
 ·cases h;exact az NH
 ·cases h;exact az NI
 ·cases h;exact az NJ
 ·cases h;exact az NK
 ·cases h;exact az NL
 ·cases h;exact az NM
 ·cases h;exact az NN
 ·cases h;exact az NO
 ·cases h;exact az NP
 ·cases h;exact az NQ
 ·cases h;exact az NR
 ·cases h;exact az NS
 ·cases h;exact az NT
 ·cases h;exact az NU
 ·cases h;exact az NV
 ·cases h;exact az NW
 ·cases h;exact az NX
 ·cases h;exact az NY
 ·cases h;exact az NZ
 ·cases h;exact az N0
 ·cases h;exact az N1
 ·cases h;exact az N2
 ·cases h;exact az N3
 ·cases h;exact az N4
 ·cases h;exact az N5
 ·cases h;exact az N6
 ·cases h;exact az JF
 ·cases h;exact az JG
 ·cases h;exact az JH
 ·cases h;exact az JI
 ·cases h;exact az JJ
 ·cases h;exact az JK
 ·cases h;exact az JL
 ·cases h;exact az JM
 ·cases h;exact az JN
 ·cases h;exact az JO
 ·cases h;exact az JP
 ·cases h;exact az JQ
 ·cases h;exact az JR
 ·cases h;exact az JS
 ·cases h;exact az JT
 ·cases h;exact az JU
 ·cases h;exact az JV
 ·cases h;exact az JW
 ·cases h;exact az JX
 ·cases h;exact az JY
 ·cases h;exact az JZ
 ·cases h;exact az J0
 ·cases h;exact az J1
 ·cases h;exact az J2
 ·cases h;exact az J3
 ·cases h;exact az J4
 ·cases h;exact az J5
 ·cases h;exact az J6
 ·cases h;exact az J7
 ·cases h;exact az J8
 ·cases h;exact az J9
 ·cases h;exact az J'
 ·cases h;exact az Ka
 ·cases h;exact az Kb
 ·cases h;exact az Kc
 ·cases h;exact az Kd
 ·cases h;exact az Ke
 ·cases h;exact az Kf
 ·cases h;exact az Kg
 ·cases h;exact az Kh
 ·cases h;exact az Ki
 ·cases h;exact az Kj
 ·cases h;exact az Kk
 ·cases h;exact az Kl
 ·cases h;exact az Km
 ·cases h;exact az Kn
 ·cases h;exact az Ko
 ·cases h;exact az Kp
 ·cases h;exact az Kq
 ·cases h;exact az Kr
 ·cases h;exact az Ks
 ·cases h;exact az Kt
 ·cases h;exact az Ku
 ·cases h;exact az Kv
 ·cases h;exact az Kw
 ·cases h;exact az Kx
 ·cases h;exact az Ky
 ·cases h;exact az Kz
 ·cases h;exact az KA
 ·cases h;exact az KB
 ·cases h;exact az KC
 ·cases h;exact az KD
 ·cases h;exact az KE
 ·cases h;exact az KF
 ·cases h;exact az KG
 ·cases h;exact az KH
 ·cases h;exact az KI
 ·cases h;exact az KJ
 ·cases h;exact az KK
 cases h
theorem hm:Go.Proofs.Tryz.prog.follows .mixedOrders=true:=by kernel_rfl
end Go.Proofs.YtkkookchlddbkaaGreat
namespace Go.Proofs.YtkkookchlddbkaaGreat.V
open Go.Av
inductive Pat where
 | mk (kind:Int) (name:ByteArray) (n:Int) (args:List Pat)
namespace Pat
def kind:Pat->Int|mk k _ _ _=>k
def name:Pat->ByteArray|mk _ s _ _=>s
def n:Pat->Int|mk _ _ n _=>n
def args:Pat->List Pat|mk _ _ _ l=>l
mutual
def enc:Pat->ae
 | mk k s n l=>.agg [.v (.int .i64 k),.v (.string s),.v (.int .i64 n),.aC 4 (rh l) .sh]
def rh:List Pat->List ae
 | []=>[]
 | p::r=>p.enc::rh r
end
theorem mC:∀l:List Pat,rh l=l.map enc
 | []=>by simp[rh]
 | p::r=>by simp[rh,mC r]
theorem dN(p:Pat):p.enc=.agg [.v (.int .i64 p.kind),.v (.string p.name),.v (.int .i64 p.n),OP 4 enc p.args]:=by
 cases p with
 | mk k s n l=>simp[enc,kind,name,Pat.n,args,mC]
theorem fold(p:Pat):ae.agg [.v (.int .i64 p.kind),.v (.string p.name),.v (.int .i64 p.n),.aC 4 (p.args.map enc) .sh]=p.enc:=(dN p).symm
theorem al(p:Pat):p.enc.cells=[.v (.int .i64 p.kind),.v (.string p.name),.v (.int .i64 p.n),.aC 4 (p.args.map enc) .sh]:=by
 rw[dN];rfl
theorem ao(p:Pat):p.enc.share=p.enc:=by
 rw[dN];rfl
theorem aw(p:Pat):p.enc.flat:=by
 rw[dN];simp[ae.flat]
mutual
theorem aF(n:Nat):∀p:Pat,p.enc.upto n
 | mk k s m l=>by simp[enc,ae.upto,aq,sn n l]
theorem sn(n:Nat):∀l:List Pat,aq n (rh l)
 | []=>by simp[rh,aq]
 | p::r=>by simp[rh,aq,aF n p,sn n r]
end
theorem an(n:Nat)(l:List Pat):aq n (l.map enc):=by
 rw[<-mC];exact sn n l
theorem bV(l:List Pat):(l.map enc).map ae.share=l.map enc:=by
 rw[List.map_map];apply List.map_congr_left;intro p _;simp[ao]
theorem dL(n:Nat)(l:List Pat):aq n (ar (l.map enc)):=by
 rw[a9];intro c hc;simp only[ar,List.mem_flatMap,List.mem_map]at hc;obtain⟨_,⟨p,_,rfl⟩,hc⟩:=hc;have:=aF n p;rw[dN]at this;rw[al]at hc;simp only[ae.upto,a9]at this;exact this c hc
theorem bK(p:Pat):p.enc.cells.length=4:=by
 rw[al];rfl
theorem iv(l:List Pat):(ar (l.map enc)).length=l.length*4:=by
 rw[bI (sz:=4) (fun x hx=>by
  obtain⟨p,_,rfl⟩:=List.mem_map.1 hx;exact p.bK)]
 simp
theorem pz:∀{l:List Pat} {k:Nat} {p:Pat},l[k]?=some p->((ar (l.map enc)).drop (k*4)).take 4=p.enc.cells
 | q::r,0,p,h=>by
  simp only[List.getElem?_cons_zero,Option.some.injEq]at h;subst h;simp only[List.map_cons,ar,List.flatMap_cons,Nat.zero_mul,List.drop_zero];rw[List.take_append_of_le_length (by rw[bK];exact Nat.le_refl _),List.take_of_length_le (by rw[bK];exact Nat.le_refl _)]
 | q::r,k+1,p,h=>by
  have ih:=pz (l:=r) (k:=k) (p:=p) (by simpa using h);simp only[List.map_cons,ar,List.flatMap_cons]at ih ⊢;rw[List.drop_append,List.drop_of_length_le (by rw[bK];omega),bK,show(k+1)*4-4=k*4 by omega];exact ih
theorem zb{l:List Pat}{k:Nat}(h:k<l.length)(q:Pat):bu (ar (l.map enc)) (k*4) q.enc.cells=ar ((l.set k q).map enc):=by
 induction l generalizing k with
 | nil=>simp at h
 | cons p r ih =>
  cases k with
  | zero =>
   simp only[List.set_cons_zero,List.map_cons,ar,List.flatMap_cons,bu,Nat.zero_mul,List.take_zero,List.nil_append,Nat.zero_add,bK];rw[List.drop_append_of_le_length (by rw[bK];exact Nat.le_refl _),List.drop_of_length_le (by rw[bK];exact Nat.le_refl _)];rfl
  | succ k =>
   have:=ih (k:=k) (by simpa using h);simp only[List.set_cons_succ,List.map_cons,ar,List.flatMap_cons,bu,bK]at this ⊢;rw[List.take_append,List.drop_append,bK,List.take_of_length_le (by rw[bK];omega),List.drop_of_length_le (by rw[bK];omega),show(k+1)*4-4=k*4 by omega,show(k+1)*4+4-4=k*4+4 by omega,List.nil_append,List.append_assoc,this]
theorem jb(p:Pat):ae.agg p.enc.cells=p.enc:=by
 rw[al];exact fold p
end Pat
abbrev eR(l:List Pat):ae:=.aC 4 (l.map Pat.enc) .sh
abbrev kV(l:List (List Pat)):ae:=.aC 1 (l.map eR) .sh
structure fa where
 name:ByteArray
 args:List Pat
structure Data where
 name:ByteArray
 params:Int
 cons:List fa
def fa.enc(c:fa):ae:=.agg [.v (.string c.name),.aC 4 (c.args.map Pat.enc) .sh]
def Data.enc(d:Data):ae:=.agg [.v (.string d.name),.v (.int .i64 d.params),.aC 2 (d.cons.map fa.enc) .sh]
theorem fa.fold(c:fa):ae.agg [.v (.string c.name),.aC 4 (c.args.map Pat.enc) .sh]=c.enc:=rfl
theorem fa.al(c:fa):c.enc.cells=[.v (.string c.name),.aC 4 (c.args.map Pat.enc) .sh]:=rfl
theorem fa.ao(c:fa):c.enc.share=c.enc:=rfl
theorem fa.aw(c:fa):c.enc.flat:=trivial
theorem fa.aF(n:Nat)(c:fa):c.enc.upto n:=by
 simp[fa.enc,ae.upto,aq,Pat.an]
theorem fa.an(n:Nat)(l:List fa):aq n (l.map fa.enc):=by
 rw[a9];intro x hx;obtain⟨c,_,rfl⟩:=List.mem_map.1 hx;exact c.aF n
theorem fa.bV(l:List fa):(l.map fa.enc).map ae.share=l.map fa.enc:=by
 rw[List.map_map];rfl
theorem Data.fold(d:Data):ae.agg [.v (.string d.name),.v (.int .i64 d.params),.aC 2 (d.cons.map fa.enc) .sh]=d.enc:=rfl
theorem Data.al(d:Data):d.enc.cells=[.v (.string d.name),.v (.int .i64 d.params),.aC 2 (d.cons.map fa.enc) .sh]:=rfl
theorem Data.ao(d:Data):d.enc.share=d.enc:=rfl
theorem Data.aw(d:Data):d.enc.flat:=trivial
theorem Data.aF(n:Nat)(d:Data):d.enc.upto n:=by
 simp[Data.enc,ae.upto,aq,fa.an]
theorem Data.an(n:Nat)(l:List Data):aq n (l.map Data.enc):=by
 rw[a9];intro x hx;obtain⟨c,_,rfl⟩:=List.mem_map.1 hx;exact c.aF n
theorem Data.bV(l:List Data):(l.map Data.enc).map ae.share=l.map Data.enc:=by
 rw[List.map_map];rfl
abbrev eC(l:List fa):ae:=.aC 2 (l.map fa.enc) .sh
abbrev eD(l:List Data):ae:=.aC 3 (l.map Data.enc) .sh
structure K where
 data:Nat
 pos:Nat
 many:Nat
structure bF where
 datas:List Data
 cons:List (ByteArray×K)
def K.enc(k:K):ae:=.agg [.v (.int .i64 k.data),.v (.int .i64 k.pos),.v (.int .i64 k.many)]
def entry(p:ByteArray×K):Value×ae:=(.string p.1,p.2.enc)
def bF.enc(t:bF):ae:=.agg [.aC 3 (t.datas.map Data.enc) .sh,.im .str (t.cons.map entry)]
def find:List (ByteArray×K)->ByteArray->Option K
 | [],_=>none
 | (n,k)::r,s=>if n=s then some k else find r s
theorem vu:∀(l:List (ByteArray×K)) (s:ByteArray),iy (l.map entry) (.string s)=(find l s).map K.enc
 | [],_=>rfl
 | (n,k)::r,s=>by
  simp only[List.map_cons,entry,iy,find,vu r s];have:gN (.string n) (.string s)=decide (n=s):=by
   simp[gN]
  rw[this];by_cases h:n=s<;>simp[h]
theorem xM:∀(l:List (ByteArray×K)) (s:ByteArray) (k:K),find l s=none->jG (l.map entry) (.string s) k.enc=(l++[(s,k)]).map entry
 | [],_,_,_=>rfl
 | (n,k')::r,s,k,h=>by
  simp only[find]at h;split at h
  ·cases h
  rename_i hn;have:gN (.string n) (.string s)=decide (n=s):=by
   simp[gN]
  simp only[List.map_cons,List.cons_append,entry,jG,this,hn,decide_false,Bool.false_eq_true,if_false];have ih:=xM r s k h;rw[ih]
theorem UY:yT Tryz.prog 9=some .str:=by
 simp[yT,Tryz.underlying9]
theorem KT.Qc(s:ByteArray):KT.ok .str (.string s)=True:=by simp[KT.ok]
theorem K.al(k:K):k.enc.cells=[.v (.int .i64 k.data),.v (.int .i64 k.pos),.v (.int .i64 k.many)]:=rfl
theorem K.aw(k:K):k.enc.flat=True:=rfl
theorem K.ao(k:K):k.enc.share=k.enc:=rfl
theorem bF.fold(t:bF):ae.agg [.aC 3 (t.datas.map Data.enc) .sh,.im .str (t.cons.map entry)]=t.enc:=rfl
theorem bF.al(t:bF):t.enc.cells=[.aC 3 (t.datas.map Data.enc) .sh,.im .str (t.cons.map entry)]:=rfl
theorem bF.aw(t:bF):t.enc.flat=True:=rfl
theorem bF.ao(t:bF):t.enc.share=t.enc:=rfl
theorem bM(n:Nat)(l:List (ByteArray×K)):kC n (l.map entry):=by
 rw[je];intro x hx;obtain⟨p,_,rfl⟩:=List.mem_map.1 hx;simp[entry,K.enc,ae.upto,aq]
theorem bF.aF(n:Nat)(t:bF):t.enc.upto n:=by
 simp[bF.enc,ae.upto,aq,Data.an,bM]
def K.zero:K:=⟨0,0,0⟩
theorem xF(l:List (ByteArray×K))(s:ByteArray)(z:ae)(hz:z=K.zero.enc):((find l s).map K.enc).getD z=((find l s).getD K.zero).enc:=by
 subst hz;cases find l s<;>rfl
def Qy:=And.intro @OU <|
 And.intro @OV <|
 And.intro @OW <|
 And.intro @OX <|
 And.intro @OY <|
 And.intro @OZ <|
 And.intro @IN <|
 And.intro @IP <|
 And.intro @IQ <|
 And.intro @IS <|
 And.intro @IT <|
 And.intro @IV <|
 And.intro @IU <|
 And.intro @IW <|
 And.intro @IX <|
 And.intro @Jo <|
 And.intro @Jp <|
 And.intro @I1 <|
 And.intro @Eu <|
 And.intro @Jt <|
 And.intro @D7 <|
 And.intro @EF <|
 And.intro @IY <|
 And.intro @IZ <|
 And.intro @Jj <|
 And.intro @Jk <|
 And.intro @Jl <|
 And.intro @Jn <|
 And.intro @I3 <|
 And.intro @I2 <|
 And.intro @I0 <|
 And.intro @JD <|
 And.intro @D4 <|
 And.intro @D5 <|
 And.intro @Jz <|
 And.intro @JA <|
 And.intro @Dg <|
 And.intro @I4 <|
 And.intro @I5 <|
 And.intro @I6 <|
 And.intro @I7 <|
 And.intro @I8 <|
 And.intro @I9 <|
 And.intro @I' <|
 And.intro @Ja <|
 And.intro @Jb <|
 And.intro @Jc <|
 And.intro @Jd <|
 And.intro @Je <|
 And.intro @Jf <|
 And.intro @Jg <|
 And.intro @Jh <|
 And.intro @Ji <|
 And.intro @Jm <|
 And.intro @Eg <|
 And.intro @Jq <|
 And.intro @Jr <|
 And.intro @Js <|
 And.intro @Ju <|
 And.intro @Jv <|
 And.intro @Jw <|
 And.intro @Jx <|
 And.intro @Jy <|
 And.intro @JB <|
 And.intro @JC <|
 And.intro @D6 <|
 And.intro @Ep <|
 And.intro @Ea <|
 And.intro @Eo <|
 And.intro @D8 <|
 And.intro @D9 <|
 And.intro @D' <|
 And.intro @Eb <|
 And.intro @Ec <|
 And.intro @Ed <|
 And.intro @Ee <|
 And.intro @Ef <|
 And.intro @Ex <|
 And.intro @Et <|
 And.intro @Ey <|
 And.intro @Ez <|
 And.intro @EA <|
 And.intro @EB <|
 And.intro @EC <|
 And.intro @Eh <|
 And.intro @Ei <|
 And.intro @Ej <|
 And.intro @Ek <|
 And.intro @El <|
 And.intro @Em <|
 And.intro @En <|
 And.intro @EE <|
 And.intro @Er <|
 And.intro @Es <|
 And.intro @Ev <|
 And.intro @Ew <|
 And.intro @EJ <|
 And.intro @EK <|
 And.intro @EL <|
 And.intro @ED <|
 And.intro @EG <|
 And.intro @EH <|
 And.intro @EI <|
 And.intro @EN <|
 And.intro @EO <|
 And.intro @EP <|
 And.intro @ER <|
 And.intro @ES <|
 And.intro @ET <|
 And.intro @Pat.al <|
 And.intro @Pat.fold <|
 And.intro @Pat.ao <|
 And.intro @Pat.bV <|
 And.intro @Pat.aF <|
 And.intro @Pat.an <|
 And.intro @Pat.aw <|
 And.intro @fa.al <|
 And.intro @fa.fold <|
 And.intro @fa.ao <|
 And.intro @fa.bV <|
 And.intro @fa.aF <|
 And.intro @fa.an <|
 And.intro @fa.aw <|
 And.intro @Data.al <|
 And.intro @Data.fold <|
 And.intro @Data.ao <|
 And.intro @Data.bV <|
 And.intro @Data.aF <|
 And.intro @Data.an <|
 And.intro @Data.aw <|
 And.intro @K.al <|
 And.intro @K.aw <|
 And.intro @K.ao <|
 And.intro @bF.al <|
 And.intro @bF.aw <|
 And.intro @bF.ao <|
 And.intro @bF.fold <|
 And.intro @UY <|
 And.intro @KT.Qc <|
 @vu
def zp:=And.intro SU <|And.intro @ne_eq.{1} <|And.intro @implies_true.{0} <|And.intro @implies_true.{1} <|Qy
def zt:=And.intro and_true <|And.intro true_and and_self
def zu:=And.intro @Pat.aF <|And.intro @Pat.an <|And.intro @fa.aF <|And.intro @fa.an <|And.intro @Data.aF <|And.intro @Data.an <|And.intro @bF.aF <| @bM
theorem fq{kb:Nat}{id:Nat}{l:List Oper}{draw:Bool}{Q:dw->St->Prop}{σ:St}(h:dh Tryz.prog aS ⟨false,false⟩ l 0 [] σ [] fun τ ks=>dJ draw (fun _=>cr l.toArray ks.reverse)∧At τ (Q .norm)):cy Tryz.prog kb (.region id l.toArray draw) Q σ:=ee _ hT hm h
theorem aH{kb:Nat}{id:Nat}{l:List Oper}{draw:Bool}{Q:dw->St->Prop}{σ:St}{x:Code}(h:dh Tryz.prog aS ⟨false,false⟩ l 0 [] σ [] fun τ ks=>dJ draw (fun _=>cr l.toArray ks.reverse)∧At τ (aZ Tryz.prog kb x Q .norm)):cy Tryz.prog kb (.seq (.region id l.toArray draw) x) Q σ:=aG (fq h)
theorem cg{kb:Nat}{id:Nat}{l:List Oper}{draw:Bool}{Q:dw->St->Prop}{σ:St}{x y:Code}(h:dh Tryz.prog aS ⟨false,false⟩ l 0 [] σ [] fun τ ks=>dJ draw (fun _=>cr l.toArray ks.reverse)∧At τ (aZ Tryz.prog kb x (aZ Tryz.prog kb y Q) .norm)):cy Tryz.prog kb (.seq (.seq (.region id l.toArray draw) x) y) Q σ:=aG (aH h)
theorem U7{kb:Nat}{id:Nat}{l:List Oper}{draw:Bool}{Q:dw->St->Prop}{σ:St}{x y z:Code}(h:dh Tryz.prog aS ⟨false,false⟩ l 0 [] σ [] fun τ ks=>dJ draw (fun _=>cr l.toArray ks.reverse)∧At τ (aZ Tryz.prog kb x (aZ Tryz.prog kb y (aZ Tryz.prog kb z Q)) .norm)):cy Tryz.prog kb (.seq (.seq (.seq (.region id l.toArray draw) x) y) z) Q σ:=aG (cg h)
theorem Tt{kb:Nat}{id:Nat}{l:List Oper}{draw:Bool}{Q:dw->St->Prop}{σ:St}(h:dh Tryz.prog aS ⟨true,false⟩ l 0 [] σ [] fun τ ks=>dJ draw (fun _=>cr l.toArray ks.reverse)∧At τ (Q .norm)):cy Tryz.prog kb (.region id l.toArray draw) Q σ:=ee _ hT hm h
theorem SZ{kb:Nat}{id:Nat}{l:List Oper}{draw:Bool}{Q:dw->St->Prop}{σ:St}{x:Code}(h:dh Tryz.prog aS ⟨true,false⟩ l 0 [] σ [] fun τ ks=>dJ draw (fun _=>cr l.toArray ks.reverse)∧At τ (aZ Tryz.prog kb x Q .norm)):cy Tryz.prog kb (.seq (.region id l.toArray draw) x) Q σ:=aG (Tt h)
theorem XD{kb:Nat}{id:Nat}{l:List Oper}{draw:Bool}{Q:dw->St->Prop}{σ:St}{x y:Code}(h:dh Tryz.prog aS ⟨true,false⟩ l 0 [] σ [] fun τ ks=>dJ draw (fun _=>cr l.toArray ks.reverse)∧At τ (aZ Tryz.prog kb x (aZ Tryz.prog kb y Q) .norm)):cy Tryz.prog kb (.seq (.seq (.region id l.toArray draw) x) y) Q σ:=aG (SZ h)
theorem U'{kb:Nat}{id:Nat}{l:List Oper}{draw:Bool}{Q:dw->St->Prop}{σ:St}(h:dh Tryz.prog aS ⟨false,true⟩ l 0 [] σ [] fun τ ks=>dJ draw (fun _=>cr l.toArray ks.reverse)∧At τ (Q .norm)):cy Tryz.prog kb (.region id l.toArray draw) Q σ:=ee _ hT hm h
theorem S0{kb:Nat}{id:Nat}{l:List Oper}{draw:Bool}{Q:dw->St->Prop}{σ:St}{x:Code}(h:dh Tryz.prog aS ⟨false,true⟩ l 0 [] σ [] fun τ ks=>dJ draw (fun _=>cr l.toArray ks.reverse)∧At τ (aZ Tryz.prog kb x Q .norm)):cy Tryz.prog kb (.seq (.region id l.toArray draw) x) Q σ:=aG (U' h)
theorem XG{kb:Nat}{id:Nat}{l:List Oper}{draw:Bool}{Q:dw->St->Prop}{σ:St}{x y:Code}(h:dh Tryz.prog aS ⟨false,true⟩ l 0 [] σ [] fun τ ks=>dJ draw (fun _=>cr l.toArray ks.reverse)∧At τ (aZ Tryz.prog kb x (aZ Tryz.prog kb y Q) .norm)):cy Tryz.prog kb (.seq (.seq (.region id l.toArray draw) x) y) Q σ:=aG (S0 h)
theorem aQ{kb:Nat}{c:Operand}{x y:Code}{Q:dw->St->Prop}{σ:St}{b:Bool}(hc:σ.ev c=some (.v (.bool b)))(ht:b=true->cy Tryz.prog kb x Q σ)(hf:b=false->cy Tryz.prog kb y Q σ):cy Tryz.prog kb (.cond c x y) Q σ:=iI hc ht hf
theorem gr{kb:Nat}{c:Operand}{x y z:Code}{Q:dw->St->Prop}{σ:St}{b:Bool}(hc:σ.ev c=some (.v (.bool b)))(ht:b=true->cy Tryz.prog kb x (aZ Tryz.prog kb z Q) σ)(hf:b=false->cy Tryz.prog kb y (aZ Tryz.prog kb z Q) σ):cy Tryz.prog kb (.seq (.cond c x y) z) Q σ:=aG (iI hc ht hf)
theorem XB{kb:Nat}{c:Operand}{x y z w:Code}{Q:dw->St->Prop}{σ:St}{b:Bool}(hc:σ.ev c=some (.v (.bool b)))(ht:b=true->cy Tryz.prog kb x (aZ Tryz.prog kb z (aZ Tryz.prog kb w Q)) σ)(hf:b=false->cy Tryz.prog kb y (aZ Tryz.prog kb z (aZ Tryz.prog kb w Q)) σ) :
  cy Tryz.prog kb (.seq (.seq (.cond c x y) z) w) Q σ:=aG (aG (iI hc ht hf))
end Go.Proofs.YtkkookchlddbkaaGreat.V
section
/-
  Short forms of steps that occur often; the packed texts of a claim use them (squeeze.py).
-/
namespace Go.Proofs.YtkkookchlddbkaaGreat.V
open Go.Av

theorem sH (aS : fM) (rv : List ResultVar) (sh : Bool) (k : Nat) (R : ae -> List ay -> Prop) (σ : St) : uf aS rv sh k R .ret σ = on (gq aS σ rv) fun rs => k <= σ.objs.length ∧ (∀ o ∈ σ.objs.take k, o.upto k) ∧ (iO (if sh then rs.map ae.share else rs)).upto k ∧ R (iO (if sh then rs.map ae.share else rs)) (σ.objs.take k) := rfl
theorem qB (aS : fM) (rv : List ResultVar) (sh : Bool) (k : Nat) (R : ae -> List ay -> Prop) (σ : St) : uf aS rv sh k R .norm σ = on (gq aS σ rv) fun rs => k <= σ.objs.length ∧ (∀ o ∈ σ.objs.take k, o.upto k) ∧ (iO (if sh then rs.map ae.share else rs)).upto k ∧ R (iO (if sh then rs.map ae.share else rs)) (σ.objs.take k) := rfl
theorem sB : iO [] = .c5 [] := rfl
theorem sC (x y : ae) (r : List ae) : iO (x :: y :: r) = .c5 (x :: y :: r) := rfl
theorem Qx (n : Nat) (x : Value) : ae.upto n (.v x) = True := rfl
def zr := And.intro @sH <|And.intro @qB <|And.intro @gq.eq_1 <|And.intro @gq.eq_2 <|And.intro @oU.eq_1 <|And.intro @oU.eq_2 <|And.intro @iO.eq_1 <|And.intro @sB <|And.intro @sC <|
  And.intro @ae.upto.eq_1 <|And.intro @ae.upto.eq_2 <|And.intro @ae.upto.eq_3 <|And.intro @ae.upto.eq_4 <|And.intro @ae.upto.eq_5 <|And.intro @ae.upto.eq_6 <|And.intro @ae.upto.eq_7 <|And.intro @ae.upto.eq_8 <|And.intro @ae.upto.eq_9 <|And.intro @ae.upto.eq_10 <|And.intro @ae.upto.eq_11 <|And.intro @ae.upto.eq_12 <|And.intro @ae.upto.eq_13 <|
  And.intro @Nat.zero_le <|And.intro @Nat.le_refl <|And.intro @Nat.le_add_right <|And.intro @oW <|And.intro @me @nv
def zc := And.intro @dy.eq_1 <|And.intro @dy.eq_2 <|And.intro @exists_eq_left'.{1} <|And.intro @Option.some.injEq.{0} <|And.intro @sub_self <|And.intro @and_assoc <|And.intro true_and and_true

theorem ab {p q : Prop} [Decidable p] (h : decide p = true) (n : ¬p) : q := absurd (of_decide_eq_true h) n
theorem af {p q : Prop} [Decidable p] (h : decide p = false) (n : p) : q := absurd n (of_decide_eq_false h)
theorem ob {a : Array Oper} {k : List Kind} (h : fO a k = true) : cr a k := h
theorem zf {f : FuncId} {fn : Go.Func} {c : Code} {O : List ay} {args : List ae} {R : ae -> List ay -> Prop} {m : Nat} (sh : Bool) (k : Nat) (hf : Tryz.prog.funcs[f]? = some fn) (hm : fn.ntmps = m) (h : cy Tryz.prog O.length c (uf aS fn.results.toList sh k R) ⟨m, ax 0 args, O⟩) (hb : fn.body = some c := by rfl)
    (AI : (fn.name == "runtime.NumGoroutine") = false := by kernel_rfl) (hn : args.length <= m := by simp) (hk : O.length <= k := by simp) : aY Tryz.prog f O args R := by
  subst hm;exact js hT sh k hf hb AI hn hk h
theorem zq {σ τ : St} (h1 : σ.n = τ.n) (h3 : dy σ τ.bC) (h2 : σ.objs = τ.objs) : bn σ τ := ⟨h1, h2, h3⟩

theorem du {kb : Nat} {id : Nat} {l : List Oper} {draw : Bool} {Q : dw -> St -> Prop} {σ : St} {q : Prop} (h : q) (e : (dh Tryz.prog aS ⟨false, false⟩ l 0 [] σ [] fun τ ks => dJ draw (fun _ => cr l.toArray ks.reverse) ∧ At τ (Q .norm)) = q := by simp -dsimp only[simprocAttr, ↓aa, zp]; rfl) : cy Tryz.prog kb (.region id l.toArray draw) Q σ := fq (e ▸ h)
theorem aB {kb : Nat} {id : Nat} {l : List Oper} {draw : Bool} {Q : dw -> St -> Prop} {σ : St} {x : Code} {q : Prop} (h : q) (e : (dh Tryz.prog aS ⟨false, false⟩ l 0 [] σ [] fun τ ks => dJ draw (fun _ => cr l.toArray ks.reverse) ∧ At τ (aZ Tryz.prog kb x Q .norm)) = q := by simp -dsimp only[simprocAttr, ↓aa, zp]; rfl) : cy Tryz.prog kb (.seq (.region id l.toArray draw) x) Q σ := aH (e ▸ h)
theorem cj {kb : Nat} {id : Nat} {l : List Oper} {draw : Bool} {Q : dw -> St -> Prop} {σ : St} {x y : Code} {q : Prop} (h : q) (e : (dh Tryz.prog aS ⟨false, false⟩ l 0 [] σ [] fun τ ks => dJ draw (fun _ => cr l.toArray ks.reverse) ∧ At τ (aZ Tryz.prog kb x (aZ Tryz.prog kb y Q) .norm)) = q := by simp -dsimp only[simprocAttr, ↓aa, zp]; rfl) : cy Tryz.prog kb (.seq (.seq (.region id l.toArray draw) x) y) Q σ := cg (e ▸ h)
theorem XA {kb : Nat} {id : Nat} {l : List Oper} {draw : Bool} {Q : dw -> St -> Prop} {σ : St} {x y z : Code} {q : Prop} (h : q) (e : (dh Tryz.prog aS ⟨false, false⟩ l 0 [] σ [] fun τ ks => dJ draw (fun _ => cr l.toArray ks.reverse) ∧ At τ (aZ Tryz.prog kb x (aZ Tryz.prog kb y (aZ Tryz.prog kb z Q)) .norm)) = q := by simp -dsimp only[simprocAttr, ↓aa, zp]; rfl) : cy Tryz.prog kb (.seq (.seq (.seq (.region id l.toArray draw) x) y) z) Q σ := U7 (e ▸ h)
theorem cB {kb : Nat} {c : Operand} {x y : Code} {Q : dw -> St -> Prop} {σ : St} (hc : σ.ev c = some (.v (.bool false))) (hf : cy Tryz.prog kb y Q σ) : cy Tryz.prog kb (.cond c x y) Q σ := iI hc (fun h => by cases h) fun _ => hf
theorem U9 {kb : Nat} {c : Operand} {x y z : Code} {Q : dw -> St -> Prop} {σ : St} (hc : σ.ev c = some (.v (.bool false))) (hf : cy Tryz.prog kb y (aZ Tryz.prog kb z Q) σ) : cy Tryz.prog kb (.seq (.cond c x y) z) Q σ := aG (cB hc hf)
theorem XF {kb : Nat} {c : Operand} {x y z w : Code} {Q : dw -> St -> Prop} {σ : St} (hc : σ.ev c = some (.v (.bool false))) (hf : cy Tryz.prog kb y (aZ Tryz.prog kb z (aZ Tryz.prog kb w Q)) σ) : cy Tryz.prog kb (.seq (.seq (.cond c x y) z) w) Q σ := aG (U9 hc hf)
theorem de {kb : Nat} {c : Operand} {x y : Code} {Q : dw -> St -> Prop} {σ : St} (hc : σ.ev c = some (.v (.bool true))) (ht : cy Tryz.prog kb x Q σ) : cy Tryz.prog kb (.cond c x y) Q σ := iI hc (fun _ => ht) fun h => by cases h
theorem Va {kb : Nat} {c : Operand} {x y z : Code} {Q : dw -> St -> Prop} {σ : St} (hc : σ.ev c = some (.v (.bool true))) (ht : cy Tryz.prog kb x (aZ Tryz.prog kb z Q) σ) : cy Tryz.prog kb (.seq (.cond c x y) z) Q σ := aG (de hc ht)
theorem XH {kb : Nat} {c : Operand} {x y z w : Code} {Q : dw -> St -> Prop} {σ : St} (hc : σ.ev c = some (.v (.bool true))) (ht : cy Tryz.prog kb x (aZ Tryz.prog kb z (aZ Tryz.prog kb w Q)) σ) : cy Tryz.prog kb (.seq (.seq (.cond c x y) z) w) Q σ := aG (Va hc ht)
theorem zi {id : FuncId} {args : List ae} {r : ae} {K : ae -> Prop} {B q : Prop} (hc : aV Tryz.prog id args r) (h : q) (hu : aq 0 args := by simp only[aq, ae.upto, zt, zu]) (e : K r = q := by simp -dsimp only[simprocAttr, ↓aa, zp]; rfl) : (∃ r, aV Tryz.prog id args r ∧ aq 0 args ∧ ue fun _ => K r) ∨ B := .inl ⟨r, hc, hu, ah (e ▸ h)⟩
theorem zj {p q : Prop} (h : q) (e : p = q := by simp -dsimp only[simprocAttr, ↓aa, zp]; rfl) : p := e ▸ h
end Go.Proofs.YtkkookchlddbkaaGreat.V
end
namespace Go.Proofs.YtkkookchlddbkaaGreat.V
open Go.Av
theorem Dz:Tryz.prog.cellsOf 81=4:=by kernel_rfl
theorem z0:Tryz.prog.cellsOf 221=4:=by kernel_rfl
theorem Ls:Tryz.prog.cellsOf 24=1:=by kernel_rfl
theorem Lt:Tryz.prog.cellsOf 101=2:=by kernel_rfl
theorem Lu:Tryz.prog.cellsOf 96=3:=by kernel_rfl
theorem Od:zN Tryz.prog 81=true:=by kernel_rfl
theorem GN:zN Tryz.prog 221=true:=by kernel_rfl
theorem Ra:zN Tryz.prog 24=false:=by kernel_rfl
theorem Rb:zN Tryz.prog 101=true:=by kernel_rfl
theorem Rc:zN Tryz.prog 96=true:=by kernel_rfl
theorem Ir(n:Nat):∀(x:List ae),mR Tryz.prog n 81 x->∃p:Pat,x=p.enc.cells:=by
  induction n using Nat.strongRecOn with
  | _ n ih =>
  intro x h;obtain⟨m,rfl,hc⟩:=h.struct Tryz.underlying81;simp only[List.map_cons,List.map_nil,Oa]at hc;obtain⟨a,b,rfl,h1,c,d,rfl,h2,e,f,rfl,h3,g,i,rfl,h4,rfl⟩:=hc;obtain⟨k,rfl,_⟩:=h1.int Tryz.underlying3;obtain⟨s,rfl,_⟩:=h2.string Tryz.underlying9;obtain⟨q,rfl,_⟩:=h3.int Tryz.underlying3;obtain⟨l,rfl,_⟩:=h4.list (f:=Pat.enc) Tryz.underlying24 fun j hj y hy=>by
   obtain⟨p,hp⟩:=ih j (by omega) y hy;exact⟨p,by rw[AX,Od,if_pos rfl,hp,p.jb]⟩
  refine⟨.mk k s q l,?_⟩;rw[Pat.al,Dz];rfl
theorem Gq(n:Nat):∀(x:List ae),mR Tryz.prog n 221 x->∃p:Pat,x=p.enc.cells:=by
  induction n using Nat.strongRecOn with
  | _ n ih =>
  intro x h;obtain⟨m,rfl,hc⟩:=h.struct Tryz.underlying221;simp only[List.map_cons,List.map_nil,Oa]at hc;obtain⟨a,b,rfl,h1,c,d,rfl,h2,e,f,rfl,h3,g,i,rfl,h4,rfl⟩:=hc;obtain⟨k,rfl,_⟩:=h1.int Tryz.underlying3;obtain⟨s,rfl,_⟩:=h2.string Tryz.underlying9;obtain⟨q,rfl,_⟩:=h3.int Tryz.underlying3;obtain⟨l,rfl,_⟩:=h4.list (f:=Pat.enc) Tryz.underlying99 fun j hj y hy=>by
   obtain⟨p,hp⟩:=ih j (by omega) y hy;exact⟨p,by rw[AX,GN,if_pos rfl,hp,p.jb]⟩
  refine⟨.mk k s q l,?_⟩;rw[Pat.al,z0];rfl
theorem xK{n:Nat}{x:List ae}(h:mR Tryz.prog n 24 x):∃l:List Pat,x=[eR l]:=by
 obtain⟨l,rfl,_⟩:=h.list (f:=Pat.enc) Tryz.underlying24 fun j hj y hy=>by
  obtain⟨p,hp⟩:=Ir j y hy;exact⟨p,by rw[AX,Od,if_pos rfl,hp,p.jb]⟩
 exact⟨l,by rw[Dz]⟩
theorem Gb{n:Nat}{a:ae}(h:mR Tryz.prog n 23 [a]):∃l:List (List Pat),a=kV l:=by
 obtain⟨l,e,_⟩:=h.list (f:=eR) Tryz.underlying23 fun j hj y hy=>by
  obtain⟨p,hp⟩:=xK hy;exact⟨p,by rw[AX,Ra,hp];rfl⟩
 exact⟨l,by rw[Ls]at e;simpa using e⟩
theorem GS:Tryz.prog.bytesOf 221=56:=by kernel_rfl
theorem Hd{n:Nat}{x:List ae}(h:mR Tryz.prog n 101 x):∃c:fa,x=c.enc.cells∧c.args.length<=2513169434843:=by
 obtain⟨m,rfl,hc⟩:=h.struct Tryz.underlying101;simp only[List.map_cons,List.map_nil,Oa]at hc;obtain⟨a,b,rfl,h1,c,d,rfl,h2,rfl⟩:=hc;obtain⟨s,rfl,_⟩:=h1.string Tryz.underlying9;obtain⟨l,rfl,hb⟩:=h2.list (f:=Pat.enc) Tryz.underlying99 fun j hj y hy=>by
  obtain⟨p,hp⟩:=Gq j y hy;exact⟨p,by rw[AX,GN,if_pos rfl,hp,p.jb]⟩
 rw[GS,reachBytes]at hb;exact⟨⟨s,l⟩,by rw[fa.al,z0];rfl,by show l.length<=_;omega⟩
theorem Fl{n:Nat}{x:List ae}(h:mR Tryz.prog n 96 x):∃c:Data,x=c.enc.cells∧∀k∈c.cons,k.args.length<=2513169434843:=by
 obtain⟨m,rfl,hc⟩:=h.struct Tryz.underlying96;simp only[List.map_cons,List.map_nil,Oa]at hc;obtain⟨a,b,rfl,h1,c,d,rfl,h2,e,f,rfl,h3,rfl⟩:=hc;obtain⟨s,rfl,_⟩:=h1.string Tryz.underlying9;obtain⟨k,rfl,_⟩:=h2.int Tryz.underlying3;obtain⟨l,rfl,_,hq⟩:=h3.Ib (f:=fa.enc) (Q:=fun k=>k.args.length<=2513169434843) Tryz.underlying94 fun j hj y hy=>by
  obtain⟨p,hp,hb⟩:=Hd hy;exact⟨p,by rw[AX,Rb,if_pos rfl,hp];rfl,hb⟩
 exact⟨⟨s,k,l⟩,by rw[Data.al,Lt];rfl,hq⟩
theorem Cf{n:Nat}{a:ae}(h:mR Tryz.prog n 22 [a]):∃l:List Data,a=eD l∧∀d∈l,∀k∈d.cons,k.args.length<=2513169434843:=by
 obtain⟨l,e,_,hq⟩:=h.Ib (f:=Data.enc) (Q:=fun d=>∀k∈d.cons,k.args.length<=2513169434843) Tryz.underlying22 fun j hj y hy=>by
  obtain⟨p,hp,hb⟩:=Fl hy;exact⟨p,by rw[AX,Rc,if_pos rfl,hp];rfl,hb⟩
 exact⟨l,by rw[Lu]at e;simpa using e,hq⟩
theorem C8{n:Nat}{a:ae}(h:mR Tryz.prog n 24 [a]):∃l:List Pat,a=eR l:=by
 obtain⟨l,e⟩:=xK h;exact⟨l,by simpa using e⟩
def Lw:List TypeId:=[3,9,22,23,24,81,94,96,99,101,221]
theorem TC:Pb Tryz.prog Lw=true:=by kernel_rfl
theorem laid:laidOutB Tryz.prog=true:=by kernel_rfl
end Go.Proofs.YtkkookchlddbkaaGreat.V
namespace Go.Proofs.YtkkookchlddbkaaGreat
open Go.Av
structure db where
 to:Int
 op:Int
 n:Int
 args:List Int
structure Edge where
 block:Int
 args:List Int
structure Term where
 kind:Int
 arg:Int
 n:Int
 cases:List Int
 to:List Edge
structure Block where
 params:List Int
 ins:List db
 term:Term
structure Func where
 name:Int
 blocks:List Block
structure cW where
 fns:List Func
 main:Int
abbrev aI(n:Int):ae:=.v (.int .i64 n)
abbrev ct(l:List Int):ae:=.aC 1 (l.map aI) .sh
def db.enc(i:db):ae:=.agg [aI i.to,aI i.op,aI i.n,ct i.args]
abbrev dA(l:List db):ae:=.aC 4 (l.map db.enc) .sh
def Edge.enc(e:Edge):ae:=.agg [aI e.block,ct e.args]
abbrev bx(l:List Edge):ae:=.aC 2 (l.map Edge.enc) .sh
def Term.enc(t:Term):ae:=.agg [aI t.kind,aI t.arg,aI t.n,ct t.cases,bx t.to]
def Block.enc(b:Block):ae:=.agg [ct b.params,dA b.ins,aI b.term.kind,aI b.term.arg,aI b.term.n,ct b.term.cases,bx b.term.to]
abbrev bf(l:List Block):ae:=.aC 7 (l.map Block.enc) .sh
def Func.enc(f:Func):ae:=.agg [aI f.name,bf f.blocks]
abbrev cc(l:List Func):ae:=.aC 2 (l.map Func.enc) .sh
def cW.enc(u:cW):ae:=.agg [cc u.fns,aI u.main]
theorem aL(n:Nat)(l:List Int):aq n (l.map aI):=by
 rw[a9];intro x hx;obtain⟨c,_,rfl⟩:=List.mem_map.1 hx;trivial
theorem uh(l:List Int):(l.map aI).map ae.share=l.map aI:=by
 rw[List.map_map];rfl
theorem db.al(i:db):i.enc.cells=[aI i.to,aI i.op,aI i.n,ct i.args]:=rfl
theorem db.fold(i:db):ae.agg [aI i.to,aI i.op,aI i.n,ct i.args]=i.enc:=rfl
theorem db.aF(n:Nat)(i:db):i.enc.upto n:=by
 simp only[db.enc,ae.upto,aq,and_true,true_and,aL]
theorem db.an(n:Nat)(l:List db):aq n (l.map db.enc):=by
 rw[a9];intro x hx;obtain⟨c,_,rfl⟩:=List.mem_map.1 hx;exact c.aF n
theorem db.aw(i:db):i.enc.flat:=trivial
theorem db.ao(i:db):i.enc.share=i.enc:=rfl
theorem db.bV(l:List db):(l.map db.enc).map ae.share=l.map db.enc:=by
 rw[List.map_map];rfl
theorem Edge.al(e:Edge):e.enc.cells=[aI e.block,ct e.args]:=rfl
theorem Edge.fold(e:Edge):ae.agg [aI e.block,ct e.args]=e.enc:=rfl
theorem Edge.aF(n:Nat)(e:Edge):e.enc.upto n:=by
 simp only[Edge.enc,ae.upto,aq,and_true,true_and,aL]
theorem Edge.an(n:Nat)(l:List Edge):aq n (l.map Edge.enc):=by
 rw[a9];intro x hx;obtain⟨c,_,rfl⟩:=List.mem_map.1 hx;exact c.aF n
theorem Edge.aw(e:Edge):e.enc.flat:=trivial
theorem Edge.ao(e:Edge):e.enc.share=e.enc:=rfl
theorem Edge.bV(l:List Edge):(l.map Edge.enc).map ae.share=l.map Edge.enc:=by
 rw[List.map_map];rfl
theorem Term.al(t:Term):t.enc.cells=[aI t.kind,aI t.arg,aI t.n,ct t.cases,bx t.to]:=rfl
theorem Term.fold(t:Term):ae.agg [aI t.kind,aI t.arg,aI t.n,ct t.cases,bx t.to]=t.enc:=rfl
theorem Term.aF(n:Nat)(t:Term):t.enc.upto n:=by
 simp only[Term.enc,ae.upto,aq,and_true,true_and,aL,Edge.an]
theorem Term.an(n:Nat)(l:List Term):aq n (l.map Term.enc):=by
 rw[a9];intro x hx;obtain⟨c,_,rfl⟩:=List.mem_map.1 hx;exact c.aF n
theorem Term.aw(t:Term):t.enc.flat:=trivial
theorem Term.ao(t:Term):t.enc.share=t.enc:=rfl
theorem Term.bV(l:List Term):(l.map Term.enc).map ae.share=l.map Term.enc:=by
 rw[List.map_map];rfl
theorem Block.al(b:Block):b.enc.cells=[ct b.params,dA b.ins,aI b.term.kind,aI b.term.arg,aI b.term.n,ct b.term.cases,bx b.term.to]:=rfl
theorem Block.fold(b:Block):ae.agg [ct b.params,dA b.ins,aI b.term.kind,aI b.term.arg,aI b.term.n,ct b.term.cases,bx b.term.to]=b.enc:=rfl
theorem Block.aF(n:Nat)(b:Block):b.enc.upto n:=by
 simp only[Block.enc,ae.upto,aq,and_true,true_and,aL,Edge.an,db.an]
theorem Block.an(n:Nat)(l:List Block):aq n (l.map Block.enc):=by
 rw[a9];intro x hx;obtain⟨c,_,rfl⟩:=List.mem_map.1 hx;exact c.aF n
theorem Block.aw(b:Block):b.enc.flat:=trivial
theorem Block.ao(b:Block):b.enc.share=b.enc:=rfl
theorem Block.bV(l:List Block):(l.map Block.enc).map ae.share=l.map Block.enc:=by
 rw[List.map_map];rfl
theorem Func.al(f:Func):f.enc.cells=[aI f.name,bf f.blocks]:=rfl
theorem Func.fold(f:Func):ae.agg [aI f.name,bf f.blocks]=f.enc:=rfl
theorem Func.aF(n:Nat)(f:Func):f.enc.upto n:=by
 simp only[Func.enc,ae.upto,aq,and_true,true_and,aL,Block.an]
theorem Func.an(n:Nat)(l:List Func):aq n (l.map Func.enc):=by
 rw[a9];intro x hx;obtain⟨c,_,rfl⟩:=List.mem_map.1 hx;exact c.aF n
theorem Func.aw(f:Func):f.enc.flat:=trivial
theorem Func.ao(f:Func):f.enc.share=f.enc:=rfl
theorem Func.bV(l:List Func):(l.map Func.enc).map ae.share=l.map Func.enc:=by
 rw[List.map_map];rfl
theorem cW.al(u:cW):u.enc.cells=[cc u.fns,aI u.main]:=rfl
theorem cW.fold(u:cW):ae.agg [cc u.fns,aI u.main]=u.enc:=rfl
theorem cW.aF(n:Nat)(u:cW):u.enc.upto n:=by
 simp only[cW.enc,ae.upto,aq,and_true,true_and,aL,Func.an]
theorem cW.an(n:Nat)(l:List cW):aq n (l.map cW.enc):=by
 rw[a9];intro x hx;obtain⟨c,_,rfl⟩:=List.mem_map.1 hx;exact c.aF n
theorem cW.aw(u:cW):u.enc.flat:=trivial
theorem cW.ao(u:cW):u.enc.share=u.enc:=rfl
theorem cW.bV(l:List cW):(l.map cW.enc).map ae.share=l.map cW.enc:=by
 rw[List.map_map];rfl
theorem UX:yT Tryz.prog 3=some (.int .i64):=by
 unfold yT;rw[Tryz.underlying3]
def sq(n:Int):Prop:=-9223372036854775808<=n∧n<=9223372036854775807
def As(l:List Int):Prop:=∀n∈l,sq n
def db.fit(i:db):Prop:=sq i.to∧sq i.op∧sq i.n∧As i.args∧i.args.length<=2 ^ 47
def Edge.fit(e:Edge):Prop:=sq e.block∧As e.args∧e.args.length<=2 ^ 47
def Term.fit(t:Term):Prop:=sq t.kind∧sq t.arg∧sq t.n∧As t.cases∧t.cases.length<=2 ^ 47∧t.to.length<=2 ^ 47∧∀e∈t.to,e.fit
def Block.fit(b:Block):Prop:=As b.params∧b.params.length<=2 ^ 47∧b.ins.length<=2 ^ 47∧(∀i∈b.ins,i.fit)∧b.term.fit
def Func.fit(f:Func):Prop:=sq f.name∧f.blocks.length<=2 ^ 47∧∀b∈f.blocks,b.fit
def cW.fit(u:cW):Prop:=sq u.main∧u.fns.length<=2 ^ 47∧∀f∈u.fns,f.fit
inductive SV where
 | mk (kind n:Int) (list:List SV) (arr:Option Nat)
def eP:Option Nat->ae
 | none=>.v (.pointer none)
 | some id=>.mp id 0
namespace SV
def kind:SV->Int|mk k _ _ _=>k
def n:SV->Int|mk _ n _ _=>n
def list:SV->List SV|mk _ _ l _=>l
def arr:SV->Option Nat|mk _ _ _ a=>a
mutual
def enc:SV->ae
 | mk k n l a=>.agg [aI k,aI n,.aC 4 (rh l) .sh,eP a]
def rh:List SV->List ae
 | []=>[]
 | p::r=>p.enc::rh r
end
theorem mC:∀l:List SV,rh l=l.map enc
 | []=>by simp[rh]
 | p::r=>by simp[rh,mC r]
theorem dN(p:SV):p.enc=.agg [aI p.kind,aI p.n,.aC 4 (p.list.map enc) .sh,eP p.arr]:=by
 cases p with
 | mk k n l a=>simp[enc,kind,SV.n,list,arr,mC]
theorem fold(p:SV):ae.agg [aI p.kind,aI p.n,.aC 4 (p.list.map enc) .sh,eP p.arr]=p.enc:=(dN p).symm
theorem jM(k n:Int)(l:List SV)(a:Option Nat):(mk k n l a).enc=.agg [aI k,aI n,.aC 4 (l.map enc) .sh,eP a]:=dN _
theorem al(p:SV):p.enc.cells=[aI p.kind,aI p.n,.aC 4 (p.list.map enc) .sh,eP p.arr]:=by
 rw[dN];rfl
theorem jb(p:SV):ae.agg p.enc.cells=p.enc:=by
 rw[al,fold]
theorem _root_.Go.Proofs.YtkkookchlddbkaaGreat.cC(a:Option Nat):(eP a).bp=eP a:=by cases a<;>rfl
theorem _root_.Go.Proofs.YtkkookchlddbkaaGreat.Fo(a:Option Nat):(eP a).scalar:=by cases a<;>trivial
theorem ao(p:SV):p.enc.share=p.enc:=by
 rw[dN];have:=cC p.arr;unfold ae.bp at this;simp[ae.share,ae.bp,this]
theorem aw(p:SV):p.enc.flat:=by
 rw[dN];trivial
theorem bV(l:List SV):(l.map enc).map ae.share=l.map enc:=by
 rw[List.map_map];exact List.map_congr_left fun p _=>ao p
theorem bK(p:SV):p.enc.cells.length=4:=by
 rw[al];rfl
inductive bk(n:Nat):SV->Prop
 | mk {k m:Int} {l:List SV} {a:Option Nat} (ha:∀id,a=some id->id<n) (hl:∀v,v∈l->bk n v):bk n (.mk k m l a)
theorem bk.mono{n m:Nat}(h:n<=m){v:SV}(k:bk n v):bk m v:=by
 induction k with
 | mk ha hl ih=>exact .mk (fun id e=>Nat.lt_of_lt_of_le (ha id e) h) ih
theorem Ly{n:Nat}{a:Option Nat}(h:∀id,a=some id->id<n):(eP a).upto n:=by
 cases a with
 | none=>trivial
 | some id=>exact h id rfl
theorem bk.aF{n:Nat}{p:SV}(h:bk n p):p.enc.upto n:=by
 induction h with
 | mk ha hl ih =>
  rw[jM];simp only[ae.upto,aq,true_and,and_true];refine⟨?_,Ly ha⟩;rw[a9];intro x hx;obtain⟨v,hv,rfl⟩:=List.mem_map.1 hx;exact ih v hv
theorem an{n:Nat}{l:List SV}(h:∀v∈l,bk n v):aq n (l.map enc):=by
 rw[a9];intro x hx;obtain⟨v,hv,rfl⟩:=List.mem_map.1 hx;exact(h v hv).aF
theorem dL{n:Nat}{l:List SV}(h:∀v∈l,bk n v):aq n (ar (l.map enc)):=by
 rw[a9];intro c hc;simp only[ar,List.mem_flatMap,List.mem_map]at hc;obtain⟨_,⟨p,hp,rfl⟩,hc⟩:=hc;have:=(h p hp).aF;rw[dN]at this;rw[al]at hc;simp only[ae.upto,a9]at this;exact this c hc
theorem iv(l:List SV):(ar (l.map enc)).length=l.length*4:=by
 rw[bI (sz:=4) (fun x hx=>by
  obtain⟨p,_,rfl⟩:=List.mem_map.1 hx;exact p.bK)]
 simp
theorem pz:∀{l:List SV} {k:Nat} {p:SV},l[k]?=some p->((ar (l.map enc)).drop (k*4)).take 4=p.enc.cells
 | q::r,0,p,h=>by
  simp only[List.getElem?_cons_zero,Option.some.injEq]at h;subst h;simp only[List.map_cons,ar,List.flatMap_cons,Nat.zero_mul,List.drop_zero];rw[List.take_append_of_le_length (by rw[bK];exact Nat.le_refl _),List.take_of_length_le (by rw[bK];exact Nat.le_refl _)]
 | q::r,k+1,p,h=>by
  have ih:=pz (l:=r) (k:=k) (p:=p) (by simpa using h);simp only[List.map_cons,ar,List.flatMap_cons]at ih ⊢;rw[List.drop_append,List.drop_of_length_le (by rw[bK];omega),bK,show(k+1)*4-4=k*4 by omega];exact ih
theorem zb{l:List SV}{k:Nat}(h:k<l.length)(q:SV):bu (ar (l.map enc)) (k*4) q.enc.cells=ar ((l.set k q).map enc):=by
 induction l generalizing k with
 | nil=>simp at h
 | cons p r ih =>
  cases k with
  | zero =>
   simp only[List.set_cons_zero,List.map_cons,ar,List.flatMap_cons,bu,Nat.zero_mul,List.take_zero,List.nil_append,Nat.zero_add,bK];rw[List.drop_append_of_le_length (by rw[bK];exact Nat.le_refl _),List.drop_of_length_le (by rw[bK];exact Nat.le_refl _)];rfl
  | succ k =>
   have:=ih (k:=k) (by simpa using h);simp only[List.set_cons_succ,List.map_cons,ar,List.flatMap_cons,bu,bK]at this ⊢;rw[List.take_append,List.drop_append,bK,List.take_of_length_le (by rw[bK];omega),List.drop_of_length_le (by rw[bK];omega),show(k+1)*4-4=k*4 by omega,show(k+1)*4+4-4=k*4+4 by omega,List.nil_append,List.append_assoc,this]
def word(n:Int):SV:=mk 0 n [] none
def zero:SV:=mk 0 0 [] none
inductive Wf(f:Nat)(a:Nat->Prop):SV->Prop
 | mk {k m:Int} {l:List SV} {r:Option Nat}
   (h0:0<=k∧k<=4) (h1:k=0∨k=1->-1073741824<=m∧m<=1073741823) (h2:k=2->0<=m∧m<f) (h3:k=3->∃id,r=some id)
   (h4:k=4->∀v,v∈l->v.kind=0) (hl:l.length<=1000) (hr:∀id,r=some id->a id) (h:∀v,v∈l->Wf f a v):Wf f a (.mk k m l r)
theorem Wf.under{f n:Nat}{a:Nat->Prop}(ha:∀id,a id->id<n){v:SV}(h:Wf f a v):bk n v:=by
 induction h with
 | mk h0 h1 h2 h3 h4 hl hr h ih=>exact .mk (fun id e=>ha id (hr id e)) ih
theorem Wf.mono{f:Nat}{a b:Nat->Prop}(FA:∀id,a id->b id){v:SV}(h:Wf f a v):Wf f b v:=by
 induction h with
 | mk h0 h1 h2 h3 h4 hl hr h ih=>exact .mk h0 h1 h2 h3 h4 hl (fun id e=>FA id (hr id e)) ih
theorem Wf.word{f:Nat}{a:Nat->Prop}{n:Int}(h:-1073741824<=n∧n<=1073741823):Wf f a (word n) :=
 .mk (by omega) (fun _=>h) (by omega) (by omega) (by omega) (by simp) (by simp) (by simp)
theorem Wf.zero{f:Nat}{a:Nat->Prop}:Wf f a zero:=Wf.word (n:=0) (by omega)
theorem Wf.num{f:Nat}{a:Nat->Prop}{v:SV}(h:Wf f a v):v.kind=0∨v.kind=1->-1073741824<=v.n∧v.n<=1073741823:=by cases h;assumption
theorem Wf.fn{f:Nat}{a:Nat->Prop}{v:SV}(h:Wf f a v):v.kind=2->0<=v.n∧v.n<f:=by cases h;assumption
theorem Wf.array{f:Nat}{a:Nat->Prop}{v:SV}(h:Wf f a v):v.kind=3->∃id,v.arr=some id:=by cases h;assumption
theorem Wf.vec{f:Nat}{a:Nat->Prop}{v:SV}(h:Wf f a v):v.kind=4->∀x∈v.list,x.kind=0:=by cases h;assumption
theorem Wf.len{f:Nat}{a:Nat->Prop}{v:SV}(h:Wf f a v):v.list.length<=1000:=by cases h;assumption
theorem Wf.ref{f:Nat}{a:Nat->Prop}{v:SV}(h:Wf f a v):∀id,v.arr=some id->a id:=by cases h;assumption
theorem Wf.kids{f:Nat}{a:Nat->Prop}{v:SV}(h:Wf f a v):∀x∈v.list,Wf f a x:=by cases h;assumption
end SV
def jy:List (Int×SV)->Int->Option SV
 | [],_=>none
 | (k,v)::r,key=>if k=key then some v else jy r key
def fZ:List (Int×SV)->Int->SV->List (Int×SV)
 | [],key,y=>[(key,y)]
 | (k,x)::r,key,y=>if k=key then(key,y)::r else(k,x)::fZ r key y
def il(e:Int×SV):Value×ae:=(.int .i64 e.1,e.2.enc)
theorem pd(k l:Int):gN (.int .i64 k) (.int .i64 l)=decide (k=l):=by
 simp[gN]
theorem mL(es:List (Int×SV))(k:Int):iy (es.map il) (.int .i64 k)=(jy es k).map SV.enc:=by
 induction es with
 | nil=>rfl
 | cons p r ih =>
  obtain⟨a,v⟩:=p;simp only[List.map_cons,il,iy,jy,pd,decide_eq_true_eq];split
  ·rfl
  exact ih
theorem rN(es:List (Int×SV))(k:Int)(v:SV):jG (es.map il) (.int .i64 k) v.enc=(fZ es k v).map il:=by
 induction es with
 | nil=>rfl
 | cons p r ih =>
  obtain⟨a,x⟩:=p;simp only[List.map_cons,il,jG,fZ,pd,decide_eq_true_eq];split
  ·rfl
  simp only[List.map_cons,il];rw[<-ih]
def jN(es:List (Int×SV))(k:Int):SV:=(jy es k).getD .zero
theorem xI{es:List (Int×SV)}{k:Int}{v:SV}(h:jy es k=some v):∃e∈es,e.2=v:=by
 induction es with
 | nil=>simp[jy]at h
 | cons p r ih =>
  obtain⟨a,x⟩:=p;simp only[jy]at h;split at h
  ·exact⟨(a,x),by simp,by simpa using h⟩
  obtain⟨e,h1,h2⟩:=ih h;exact⟨e,by simp[h1],h2⟩
theorem jT{es:List (Int×SV)}{k:Int}{v:SV}{e:Int×SV}(h:e∈fZ es k v):e∈es∨e=(k,v):=by
 induction es with
 | nil=>simpa[fZ]using h
 | cons p r ih =>
  obtain⟨a,x⟩:=p;simp only[fZ]at h;split at h
  ·rcases List.mem_cons.1 h with h|h
   ·exact .inr h
   exact .inl (by simp[h])
  rcases List.mem_cons.1 h with h|h
  ·exact .inl (by simp[h])
  rcases ih h with h|h
  ·exact .inl (by simp[h])
  exact .inr h
instance:Inhabited db:=⟨⟨0,0,0,[]⟩⟩
instance:Inhabited Edge:=⟨⟨0,[]⟩⟩
instance:Inhabited Term:=⟨⟨0,0,0,[],[]⟩⟩
instance:Inhabited Block:=⟨⟨[],[],default⟩⟩
instance:Inhabited Func:=⟨⟨0,[]⟩⟩
instance:Inhabited SV:=⟨.zero⟩
structure Fr where
 b9:Nat
 dR:Nat
 fn:Int
 blk:Int
 pos:Nat
 to:Int
 vals:List (Int×SV)
structure BC where
 l9:Nat
 ou:Nat
 l:List SV
structure Mach where
 sid:Nat
 frames:List Fr
 heap:List BC
 next:Nat
 left:Int
 short:Bool
 over:Bool
 out:List Int
 fin:Int
 val:Int
def dg(u:cW)(k:Int):Func:=u.fns[k.toNat]?.getD default
def bU(f:Func)(k:Int):Block:=f.blocks[k.toNat]?.getD default
def kR(n:Int):Int:=(n+1073741824) % 2147483648-1073741824
def dp(op a b:Int):SV×Int :=
 if op=1 then(.word (kR (a+b)),0)
 else if op=2 then(.word (kR (a-b)),0)
 else if op=3 then(.word (kR (a*b)),0)
 else if op=6 then(.word (if a<b then 1 else 0),0)
 else if op=7 then(.word (if a=b then 1 else 0),0)
 else if b=0 then(.zero,1)
 else if op=4 then(.word (kR (a.tdiv b)),0)
 else(.word (a.tmod b),0)
def lh(l:List SV)(k:Int):Bool:=l.all fun v=>decide (v.kind=k)
def cR(l:List SV)(k:Nat):SV:=l[k]?.getD .zero
def dc(i:db)(args:List SV):SV×Int :=
 if i.op=11 then
  if((cR args 0).kind≠1∧(cR args 0).kind≠2)∨((cR args 0).list.length:Int)<=i.n then(.zero,5)else(cR (cR args 0).list i.n.toNat,0)
 else if(cR args 0).kind≠1 then(.zero,5)
 else if i.op=10 then(.word (cR args 0).n,0)
 else if i.op=12 then(.word (cR args 0).list.length,0)
 else if(cR args 1).kind≠0 then(.zero,5)
 else if(cR args 1).n<0∨((cR args 0).list.length:Int)<=(cR args 1).n then(.zero,2)
 else(cR (cR args 0).list (cR args 1).n.toNat,0)
def k9(op:Int):List SV->List SV->List SV
 | a::r,b::s=>(dp op a.n b.n).1::k9 op r s
 | _,_=>[]
def dq(i:db)(args:List SV):SV×Int :=
 if i.op=22 then
  if lh args 0 then(.mk 4 0 args none,0)else(.zero,5)
 else if i.op=24 then
  if(cR args 0).kind≠4∨((cR args 0).list.length:Int)<=i.n then(.zero,5)else(cR (cR args 0).list i.n.toNat,0)
 else if !lh args 4∨(cR args 0).list.length≠(cR args 1).list.length then(.zero,5)
 else(.mk 4 0 (k9 i.n (cR args 0).list (cR args 1).list) none,0)
namespace Mach
def gp(m:Mach)(n:Int):Mach:=if m.left<n then { m with short:=true,over:=true }else { m with left:=m.left-n }
def stop(m:Mach)(e n:Int):Mach:={ m with over:=true,fin:=e,val:=n }
def kh:List BC->Option Nat->List SV
 | [],_=>[]
 | a::r,id=>if id=some a.l9 then a.l else kh r id
def kN:List BC->Option Nat->List SV->List BC
 | [],_,_=>[]
 | a::r,id,l=>if id=some a.l9 then⟨a.l9,a.ou,l⟩::r else a::kN r id l
def bQ(m:Mach)(size fill:SV):Mach×SV×Int :=
 if size.kind≠0 then(m,.zero,5)
 else if size.n<0∨1024<size.n then(m,.zero,6)
 else if(m.gp size.n).short then(m.gp size.n,.zero,0)
 else({ m.gp size.n with heap:=m.heap++[⟨m.next+8,m.next+7,List.replicate size.n.toNat fill⟩],next:=m.next+9 },.mk 3 0 [] (some (m.next+8)),0)
def effect(m:Mach)(i:db)(args:List SV):Mach×SV×Int :=
 if i.op=15 then
  if(cR args 0).kind≠0 then(m,.zero,5)
  else if m.out.length=1000 then(m,.zero,6)
  else({ m with out:=m.out++[(cR args 0).n] },.word 0,0)
 else if i.op=16 then m.bQ (cR args 0) (cR args 1)
 else if i.op=18 then
  if !lh args 0 then(m,.zero,5)
  else if(cR args 0).n<0∨(cR args 1).n<=(cR args 0).n then(m,.zero,2)
  else(m,.word 0,0)
 else if(cR args 0).kind≠3∨(i.op≠17∧(cR args 1).kind≠0)then(m,.zero,5)
 else if i.op=17 then(m,.word (kh m.heap (cR args 0).arr).length,0)
 else if(cR args 1).n<0∨((kh m.heap (cR args 0).arr).length:Int)<=(cR args 1).n then(m,.zero,2)
 else if i.op=19 then(m,cR (kh m.heap (cR args 0).arr) (cR args 1).n.toNat,0)
 else({ m with heap:=kN m.heap (cR args 0).arr ((kh m.heap (cR args 0).arr).set (cR args 1).n.toNat (cR args 2)) },.word 0,0)
def exec(m:Mach)(i:db)(args:List SV):Mach×SV×Int :=
 if i.op=0 then(m,.word i.n,0)
 else if 1<=i.op∧i.op<=7 then
  if !lh args 0 then(m,.zero,5)else(m,dp i.op (cR args 0).n (cR args 1).n)
 else if i.op=8 then(m,.mk 1 i.n args none,0)
 else if i.op=9 then(m,.mk 2 i.n args none,0)
 else if i.op=10∨i.op=11∨i.op=12∨i.op=21 then(m,dc i args)
 else if i.op=22∨i.op=23∨i.op=24 then(m,dq i args)
 else if i.op=100 then(m,cR args 0,0)
 else m.effect i args
end Mach
def g5:List (Int×SV)->List Int->List SV->List (Int×SV)
 | es,p::ps,a::l=>g5 (fZ es p a) ps l
 | es,_,_=>es
def gR(es:List (Int×SV))(l:List Int):List SV:=l.map (jN es)
def jo(t:Term)(n:Int):Nat :=
 if t.kind=2 then(if n≠0 then 0 else 1)else t.cases.findIdx (· == n)
namespace Mach
def enter(u:cW)(m:Mach)(fn:Int)(args:List SV)(to:Int):Mach :=
 { m with sid:=m.next+2,next:=m.next+3,frames:=⟨m.next+1,m.next,fn,0,0,to,g5 [] (bU (dg u fn) 0).params args⟩::m.frames }
def bY(m:Mach)(f:Fr):Mach:={ m with frames:=f::m.frames.tail }
def follow(u:cW)(m:Mach)(f:Fr)(e:Edge):Mach :=
 m.bY { f with blk:=e.block,pos:=0,vals:=g5 f.vals (bU (dg u f.fn) e.block).params (gR f.vals e.args) }
def leave(m:Mach)(f:Fr)(v:SV):Mach :=
 match m.frames.tail with
 | []=>{ m with frames:=[] }.stop 0 (if v.kind=0∨v.kind=1 then v.n else 0)
 | g::r=>{ m with frames:={ g with vals:=fZ g.vals f.to v }::r }
def finish(u:cW)(m:Mach)(f:Fr)(t:Term):Mach :=
 if t.kind=4 then m.stop t.n 0
 else if t.kind=1 then m.follow u f (t.to[0]?.getD default)
 else if t.kind=0 then m.leave f (jN f.vals t.arg)
 else if(jN f.vals t.arg).kind≠0 then m.stop 5 0
 else m.follow u f (t.to[jo t (jN f.vals t.arg).n]?.getD default)
def settle(f:Fr)(to:Int)(r:Mach×SV×Int):Mach :=
 (if r.2.2≠0 then r.1.stop r.2.2 0 else r.1).bY { f with vals:=fZ f.vals to r.2.1 }
def act(u:cW)(m:Mach)(f:Fr)(i:db)(args:List SV):Mach :=
 if i.op=13 then m.enter u i.n args i.to
 else if i.op=14 then
  if(cR args 0).kind=2∧(bU (dg u (cR args 0).n) 0).params.length=args.length then m.enter u (cR args 0).n args i.to else m.stop 5 0
 else settle f i.to (m.exec i args)
def step(u:cW)(m:Mach):Mach :=
 match m.frames with
 | []=>m
 | f::_ =>
  match (bU (dg u f.fn) f.blk).ins[f.pos]? with
  | none=>m.finish u f (bU (dg u f.fn) f.blk).term
  | some i=>(m.bY { f with pos:=f.pos+1 }).act u { f with pos:=f.pos+1 } i (gR f.vals i.args)
def start(fuel:Int):Mach:=⟨0,[],[],4,fuel,false,false,[],0,0⟩
def run(u:cW):Nat->Mach->Mach
 | 0,m=>m
 | k+1,m=>if m.over then m else if(m.gp 1).short then m.gp 1 else run u k (step u (m.gp 1))
end Mach
structure QC where
 out:List Int
 fin:Int
 val:Int
 n:Int
 e:Int
def vH(u:cW)(fuel:Int):QC :=
 let m:=Mach.run u (fuel.toNat+2) ((Mach.start fuel).enter u u.main [] 0)
 if m.short then⟨[],0,0,0,13⟩else⟨m.out,m.fin,m.val,fuel-m.left,0⟩
def gh(n:Int):Prop:=-1073741824<=n∧n<=1073741823
structure GH(u:cW)(i:db):Prop where
 op:(0<=i.op∧i.op<=24)∨i.op=100
 len:i.args.length<=4096
 fits:sq i.to∧sq i.n
 c0:i.op=0->gh i.n
 c2:(1<=i.op∧i.op<=7)∨i.op=16∨i.op=18∨i.op=19∨i.op=21∨i.op=23->i.args.length=2
 c1:i.op=10∨i.op=11∨i.op=12∨i.op=15∨i.op=17∨i.op=24∨i.op=100->i.args.length=1
 c3:i.op=20->i.args.length=3
 gu:i.op=8->gh i.n∧i.args.length<=16
 TB:i.op=9->0<=i.n∧i.n<u.fns.length∧i.args.length<=16
 call:i.op=13->0<=i.n∧i.n<u.fns.length∧(bU (dg u i.n) 0).params.length=i.args.length
 app:i.op=14->1<=i.args.length
 Tq:i.op=11∨i.op=24->0<=i.n
 pack:i.op=22->i.args.length<=16
 vec:i.op=23->i.n=1∨i.n=2∨i.n=3
structure xT(f:Func)(e:Edge):Prop where
 lo:0<=e.block
 hi:e.block<f.blocks.length
 args:e.args.length=(bU f e.block).params.length
 len:e.args.length<=4096
structure xZ(f:Func)(t:Term):Prop where
 kind:0<=t.kind∧t.kind<=4
 n:0<=t.n∧t.n<=6
 Mu:t.kind=1->t.to.length=1
 cond:t.kind=2->t.to.length=2
 switch:t.kind=3->t.to.length=t.cases.length+1
 xo:∀e∈t.to,xT f e
 cl:t.cases.length<=2 ^ 40
structure Lk(u:cW)(f:Func)(b:Block):Prop where
 ins:∀i∈b.ins,GH u i
 term:xZ f b.term
 len:b.ins.length<=2 ^ 40
structure mX(u:cW):Prop where
 main:0<=u.main∧u.main<u.fns.length
 By:u.fns.length<=256
 none:(bU (dg u u.main) 0).params=[]
 ne:∀f∈u.fns,f.blocks≠[]∧f.blocks.length<=2 ^ 40
 blocks:∀f∈u.fns,∀b∈f.blocks,Lk u f b
def gK(u:cW)(m:Mach)(v:SV):Prop:=SV.Wf u.fns.length (fun id=>∃a∈m.heap,a.l9=id) v
structure n7(u:cW)(m:Mach)(f:Fr):Prop where
 fn:0<=f.fn∧f.fn<u.fns.length
 blk:0<=f.blk∧f.blk<(dg u f.fn).blocks.length
 pos:f.pos<=(bU (dg u f.fn) f.blk).ins.length
 vals:∀e∈f.vals,gK u m e.2
structure cz(u:cW)(m:Mach):Prop where
 frames:∀f∈m.frames,n7 u m f
 iH:∀a∈m.heap,a.l.length<=1024∧∀v∈a.l,gK u m v
 left:0<=m.left
 depth:m.frames.length+m.left<=2 ^ 40
 out:m.out.length<=1000
 words:∀n∈m.out,gh n
 fin:0<=m.fin∧m.fin<=6
 val:gh m.val
 done:m.fin≠0->m.val=0
 over:m.over=false->m.frames≠[]∧m.short=false
def aD(u:cW)(m:Mach):List ae:=[cc u.fns,aI u.main,.os m.sid m.frames.length 1,aI m.left,.v (.bool m.short),.v (.bool m.over),.aC 1 (m.out.map aI) (.tok 3),aI m.fin,aI m.val]
def aX(f:Fr):List ae:=[aI f.fn,aI f.blk,aI f.pos,aI f.to,.mm f.dR]
def fp(l:List Fr):List ae:=l.reverse.map fun f=>.mp f.b9 0
theorem Ia(v:Int):KT.ok (.int .i64) (.int .i64 v)=True:=by simp[KT.ok]
theorem dH{O:List ay}{n k:Nat}{x:ay}(h:∀o∈O,o.upto n)(hx:x.upto n):∀o∈O.set k x,o.upto n:=fun o ho=>by
 rcases List.mem_or_eq_of_mem_set ho with q|q
 ·exact h o q
 subst q;exact hx
theorem c9{O:List ay}{k:Nat}{x:ay}:(O.set k x).take O.length=O.set k x:=List.take_of_length_le (by simp)
theorem eU{O X:List ay}{k:Nat}{x:ay}(h:O[k]?=some x):(O++X)[k]?=some x:=by
 rw[List.getElem?_append_left (ag h),h]
theorem cb{O:List ay}{k j:Nat}{x y:ay}(h:O[k]?=some x)(hj:j≠k):(O.set j y)[k]?=some x:=by
 rw[List.getElem?_set_ne hj,h]
theorem BQ{O:List ay}{k:Nat}{x y:ay}(h:O[k]?=some x):(O.set k y)[k]?=some y:=List.getElem?_set_self (ag h)
theorem lJ{O X:List ay}{k:Nat}:(O++X)[O.length+k]?=X[k]?:=by
 rw[List.getElem?_append_right (by omega)];simp
theorem Dw{O X:List ay}:(O++X)[O.length]?=X[0]?:=lJ (k:=0)
theorem Bc{O X:List ay}{k:Nat}{y:ay}:(O++X).set (O.length+k) y=O++X.set k y:=by
 rw[List.set_append_right _ _ (by omega)];simp
theorem IA{O X:List ay}{y:ay}:(O++X).set O.length y=O++X.set 0 y:=Bc (k:=0)
theorem IC{a y:ay}{X:List ay}:(a::X).set 0 y=y::X:=rfl
theorem IB{a y:ay}{k:Nat}{X:List ay}:(a::X).set (k+1) y=a::X.set k y:=rfl
theorem JE{O X:List ay}:(O++X).take O.length=O:=by simp
end Go.Proofs.YtkkookchlddbkaaGreat
namespace Go.Av
theorem gZ{P:Program}{kb:Nat}{c:Code}{Q:dw->St->Prop}{n:Nat}{bC:List (Nat×ae)}{O:List ay}(k off:Nat){sz:Nat}{cs xs:List ae}(jh:O[k]?=some (.cells cs))(yI:cs[off]?=some (.aC sz xs .ex))
  (h:cy P kb c Q ⟨n,bC,(O++[ay.spare xs.length]).set k (.cells (cs.set off (.aC sz xs (.tok O.length))))⟩):cy P kb c Q ⟨n,bC,O⟩ :=
 h.weaken fun base a g hb hr=>by
  have hO:g.objs=O:=hr.objs;have R7:=Le.mark hr.good (ay.spare xs.length);have R3:=Good.mark hr.good xs.length;have WL:g.objs[k]?=some (.cells cs):=by rw[hO];exact jh
  have Mh:(g.mark (ay.spare xs.length)).objs[k]?=some (.cells cs):=dn WL;obtain⟨l,arr,t,e1,e2,e3,e4,e5,e6⟩:=R3.cells k cs Mh;have H6:oe (g.mark (ay.spare xs.length)) k (.cells cs) (some l) (.cells (cs.set off (.aC sz xs (.tok O.length)))) g.w:={
   obj:=Mh
   os:=rfl
   tape:=rfl
   output:=rfl
   size:=Nat.le_refl _
   block:=fun _ _ _=>rfl
   cell:=fun b off x hx _=>hx
   place:=fun l1 h1 _=>by
    simp only[Option.some.injEq]at h1;subst h1;exact .inr ⟨l,e1,trivial,rfl,Nat.le_refl _⟩
   spare:=fun m h=>by cases h
   plain:=fun _=>⟨by simp[ay.aP],e1⟩
   gone:=by simp }
  have AH:=Le.bO R3 H6;have CB:=Good.bO R3 H6 ⟨l,arr,t,rfl,e2,e3,by simpa using e4,fun j d u hd hu=>by
   rw[List.getElem?_set]at hd;split at hd
   ·rename_i hj;subst hj;split at hd
    ·simp only[Option.some.injEq]at hd;subst hd;have hv:=(e5 off _ u yI hu).mono AH;cases hv with
     | nil=>exact .nil (fun id e=>by
      simp only[od.tok.injEq]at e;subst e;simp[G.bO,G.mark,hO]) (by simp)
     | aC dk en di cZ hs f hm hr ho =>
      refine .aC dk en di cZ hs f hm hr ⟨by simp[G.bO,G.mark,hO],fun m eS=>?_⟩;have cA:k≠O.length:=by
       have:=ag jh;omega
      have:((g.mark (ay.spare xs.length)).bO k (some l) (.cells (cs.set off (.aC sz xs (.tok O.length)))) g.w).objs[O.length]?=some (.spare xs.length):=by
       simp only[G.bO];rw[List.getElem?_set_ne cA,<-hO];exact fY
      rw[this]at eS;simp only[Option.some.injEq,ay.spare.injEq]at eS;exact⟨by omega,fun _=>.inl ho⟩
    cases hd
   ·exact(e5 j d u hd hu).mono AH,fun d hd=>by
   rcases List.mem_or_eq_of_mem_set hd with q|q
   ·exact e6.1 d q
   subst q;trivial,e6.2⟩ (fun l1 h1 _=>by
   simp only[Option.some.injEq]at h1;subst h1;exact bj e3)
  exact⟨(g.mark (ay.spare xs.length)).bO k (some l) (.cells (cs.set off (.aC sz xs (.tok O.length)))) g.w,rfl,{ le:=(hr.le.trans R7).trans AH,good:=CB,objs:=by simp[G.mark,G.bO,hO],size:=hr.size,defers:=hr.defers,slot:=fun s y hy=>(hr.slot s y hy).imp fun u hu=>⟨hu.1,(hu.2.mono R7).mono AH⟩ }⟩
theorem GQ{P:Program}{kb:Nat}{c:Code}{Q:dw->St->Prop}{n:Nat}{bC:List (Nat×ae)}{O:List ay}(s:Nat){sz:Nat}{xs:List ae}{o:od}(hs:look bC s=some (.aC sz xs o))
  (h:∀ad:Addr,cy P kb c Q ⟨n,cq s (.aC sz xs (.loc ad)) bC,O⟩):cy P kb c Q ⟨n,bC,O⟩:=by
 intro base a g hb hr;obtain⟨u,e1,e2⟩:=hr.slot s _ hs;have key:∀y,RV g y u->Rel base ⟨n,cq s y bC,O⟩ a g:=fun y hy =>
  {le:=hr.le,good:=hr.good,objs:=hr.objs,size:=hr.size,defers:=hr.defers,slot:=fun k x hx=>by
    simp only[St.get,fV]at hx;split at hx
    ·rename_i e;subst e;simp only[Option.some.injEq]at hx;subst hx;exact⟨u,e1,hy⟩
    exact hr.slot k x hx }
 cases e2 with
 | nil ho hn=>exact h ⟨0,0,none⟩ base a g hb (key _ (.nil (fun id e=>by cases e) (by simp)))
 | aC dk en di cZ hs f hm hr ho =>
  rename_i ad cap;exact h ad base a g hb (key _ (.aC dk en di cZ hs f hm hr rfl))
def yX(τ:St)(Q:dw->St->Prop):dw->St->Prop
 | .norm,σ=>bn σ τ
 | e,σ=>Q e σ
theorem m6{P:Program}{kb:Nat}{x y:Code}{Q:dw->St->Prop}{σ:St}(τ:St)(h1:cy P kb x (yX τ Q) σ)(h2:cy P kb y Q τ):cy P kb (.seq x y) Q σ :=
 aG (h1.mono fun e ji h=>by cases e<;>first|exact h2.cover h|exact h)
theorem Rd{P:Program}{kb:Nat}{x y z:Code}{Q:dw->St->Prop}{σ:St}(τ:St)(h1:cy P kb x (yX τ (aZ P kb z Q)) σ)(h2:cy P kb y (aZ P kb z Q) τ):cy P kb (.seq (.seq x y) z) Q σ :=
 aG (m6 τ h1 h2)
theorem jj{P:Program}{kb:Nat}{x y:Code}{Q:dw->St->Prop}{σ:St}(τ:St)(h1:cy P kb x (yX τ Q) σ)(h2:cy P kb y Q τ):cy P kb x (aZ P kb y Q) σ :=
 h1.mono fun e ji h=>by cases e<;>first|exact h2.cover h|exact h

def rP(A:List Nat)(N k:Nat):Nat:=if k<A.length then A.getD k 0 else N+(k-A.length)
def Kind.nC(A:List Nat)(N:Nat):Kind->Kind
 | .rd id=>.rd (rP A N id)
 | .wr n l=>.wr (rP A N n) (l.map (rP A N))
 | .new id=>.new (rP A N id)
 | k=>k
def Kind.fresh(m:Nat):Kind->Bool
 | .wr n _=>decide (m<=n)
 | _=>true
theorem A6{A:List Nat}{N:Nat}(hn:A.Nodup)(hA:∀a∈A,a<N){i j:Nat}(h:rP A N i=rP A N j):i=j:=by
 unfold rP at h;have iM:∀k,k<A.length->A.getD k 0∈A:=fun k hk=>by
  rw[List.getD_eq_getElem?_getD,List.getElem?_eq_getElem hk];exact List.getElem_mem hk
 split at h<;>split at h
 ·rename_i h1 h2;rw[List.getD_eq_getElem?_getD,List.getElem?_eq_getElem h1,List.getD_eq_getElem?_getD,List.getElem?_eq_getElem h2]at h;exact(List.getElem_inj hn).1 h
 ·rename_i h1 h2;have:=hA _ (iM i h1);omega
 ·rename_i h1 h2;have:=hA _ (iM j h2);omega
 omega
theorem MA{A:List Nat}{N:Nat}(hA:∀a∈A,a<N){i n:Nat}(hn:A.length<=n)(h:i<n):rP A N i<rP A N n:=by
 unfold rP;have iM:∀k,k<A.length->A.getD k 0∈A:=fun k hk=>by
  rw[List.getD_eq_getElem?_getD,List.getElem?_eq_getElem hk];exact List.getElem_mem hk
 rw[if_neg (show ¬n<A.length by omega)];split
 ·rename_i h1;have:=hA _ (iM i h1);omega
 omega
theorem vr{A:List Nat}{N:Nat}(hn:A.Nodup)(hA:∀a∈A,a<N){k l:Kind}(hk:k.fresh A.length=true)(hl:l.fresh A.length=true)(h:bW k l=true):bW (k.nC A N) (l.nC A N)=true:=by
 have key:∀{id n:Nat} {L:List Nat},A.length<=n->id<n->id ∉ L->rP A N id<rP A N n∧rP A N id ∉ L.map (rP A N):=fun h1 h2 h3 =>
  ⟨MA hA h1 h2,fun hm=>by
   obtain⟨x,hx,e⟩:=List.mem_map.1 hm;have:=A6 hn hA e;subst this;exact h3 hx⟩
 cases k<;>cases l<;>first
  | exact h
  | (simp only[bW]at h;cases h)
  | (simp only[Kind.nC,bW,Bool.not_eq_true',decide_eq_false_iff_not]at h ⊢;exact fun e=>h (A6 hn hA e))
  | (simp only[Kind.fresh,decide_eq_true_eq]at hk hl
     simp only[Kind.nC,bW,Bool.and_eq_true,decide_eq_true_eq,Bool.not_eq_true',List.contains_eq_mem,decide_eq_false_iff_not]at h ⊢;exact key (by assumption) h.1 h.2)
theorem cN{ops:Array Oper}{ks:List Kind}(A:List Nat)(N:Nat)(xE:List Kind)(hn:A.Nodup)(hA:∀a∈A,a<N)(e:xE.map (Kind.nC A N)=ks)(hf:xE.all (Kind.fresh A.length)=true)(h:fO ops xE=true):fO ops ks=true:=by
 subst e;simp only[fO,Bool.and_eq_true,List.all_eq_true,Bool.or_eq_true,List.length_map]at h ⊢;refine⟨h.1,fun i hi j hj=>?_⟩;rcases h.2 i hi j hj with q|q
 ·exact .inl q
 refine .inr ?_;have pn:∀i,(xE.map (Kind.nC A N)).getD i .write=(xE.getD i .write).nC A N:=fun i=>by
  rw[List.getD_eq_getElem?_getD,List.getD_eq_getElem?_getD,List.getElem?_map];cases xE[i]?<;>rfl
 have eV:∀i,(xE.getD i .write).fresh A.length=true:=fun i=>by
  rw[List.getD_eq_getElem?_getD];cases hi:xE[i]? with
  | none=>rfl
  | some x=>exact List.all_eq_true.1 hf x (List.mem_of_getElem? hi)
 rw[pn,pn];unfold indep at q ⊢;split at q
 ·rename_i oj oi h1 h2;simp only[Bool.and_eq_true]at q ⊢;exact⟨q.1,vr hn hA (eV j) (eV i) q.2⟩
 cases q
theorem zg{σ:St}:∀{l:List (Nat×ae)},(∀p∈l,∃x,σ.get p.1=some x∧Sub σ.objs x p.2)->dy σ l
 | [],_=>trivial
 | (s,y)::r,h=>⟨h (s,y) (by simp),zg fun p hp=>h p (by simp[hp])⟩
theorem uy{P:Program}{kb:Nat}{c:Code}{Q:dw->St->Prop}{n:Nat}{bC:List (Nat×ae)}{O:List ay}{o:ay}(s:Nat){x:ae}(y:ae)(cV:List (Nat×ae))(hx:look bC s=some x)
  (hp:¬o.aP) (hl:o.live) (hf:da (O++[o]) O.length x y) (L5:kb<=O.length) (hs:∀p∈cV,look (cq s y bC) p.1=some p.2) (bD:∀o∈O,o.upto O.length) (wx:∀p∈cV,p.2.upto O.length)
  (h:cy P kb c Q ⟨n,cV,O⟩):cy P kb c Q ⟨n,bC,O++[o]⟩:=by
 refine aR s O.length (o:=o) y (oY _ _) hp hl hx hf ?_;rw[vS];have eN:∀s x,look cV s=some x->(s,x)∈cV:=fun s x hl=>rE hl;exact se O.length (by simp) L5 cV (by rw[jY];exact bD) (zg fun p hp=>⟨p.2,hs p hp,Sub.refl _⟩) (fun k x hk=>wx (k,x) (eN k x hk)) (by rw[jY];exact h)
theorem bg{P:Program}{kb:Nat}{c:Code}{Q:dw->St->Prop}{n:Nat}{bC:List (Nat×ae)}{O:List ay}{cs:List ae}(s:Nat)(ds:List ae)(cV:List (Nat×ae))(hx:look bC s=some (.mp O.length 0))
  (tX:cs.map ae.bp=ds) (L5:kb<=O.length) (hs:∀p∈cV,look (cq s (.ip none ds) bC) p.1=some p.2) (bD:∀o∈O,o.upto O.length) (wx:∀p∈cV,p.2.upto O.length)
  (h:cy P kb c Q ⟨n,cV,O⟩):cy P kb c Q ⟨n,bC,O++[.cells cs]⟩ :=
 uy s (.ip none ds) cV hx (by simp[ay.aP]) trivial (da.mp (cs:=cs) (oY _ _) (by rw[List.drop_zero,tX])) L5 hs bD wx h
theorem BR{P:Program}{kb:Nat}{c:Code}{Q:dw->St->Prop}{n:Nat}{bC:List (Nat×ae)}{O:List ay}{cs:List ae}(s:Nat){len cap sz:Nat}(xs:List ae)(cV:List (Nat×ae))(hx:look bC s=some (.ms O.length 0 len cap))
  (dk:∀x∈xs,x.cells.length=sz) (hlen:xs.length=len) (hd:(cs.take (len*sz)).map ae.bp=ar xs) (L5:kb<=O.length) (hs:∀p∈cV,look (cq s (.aC sz xs .sh) bC) p.1=some p.2) (bD:∀o∈O,o.upto O.length) (wx:∀p∈cV,p.2.upto O.length)
  (h:cy P kb c Q ⟨n,cV,O⟩):cy P kb c Q ⟨n,bC,O++[.cells cs]⟩ :=
 uy s (.aC sz xs .sh) cV hx (by simp[ay.aP]) trivial (da.ms (cs:=cs) (oY _ _) dk hlen (by rw[List.drop_zero,hd])) L5 hs bD wx h
theorem cd{P:Program}{kb:Nat}{c:Code}{Q:dw->St->Prop}{n:Nat}{bC:List (Nat×ae)}{O X:List ay}{cs:List ae}(s k:Nat)(ds:List ae)(hX:X[k]?=some (.cells cs))(hx:look bC s=some (.mp (O.length+k) 0))
  (tX:cs.map ae.bp=ds) (h:cy P kb c Q ⟨n,cq s (.ip none ds) bC,O++X.set k .gone⟩):cy P kb c Q ⟨n,bC,O++X⟩:=by
 have jE:(O++X)[O.length+k]?=some (.cells cs):=by
  rw[List.getElem?_append_right (by omega),Nat.add_sub_cancel_left,hX]
 refine aR s (O.length+k) (o:=.cells cs) (.ip none ds) jE (by simp[ay.aP]) trivial hx (da.mp (cs:=cs) jE (by rw[List.drop_zero,tX])) ?_;rw[List.set_append_right _ _ (by omega),Nat.add_sub_cancel_left];exact h
theorem Lp{P:Program}{kb:Nat}{c:Code}{Q:dw->St->Prop}{n:Nat}{bC:List (Nat×ae)}{O X:List ay}(j:Nat)(Y:List ay)(cV:List (Nat×ae))(hY:X.take j=Y)(hj:j<=X.length)(L5:kb<=O.length)(hs:∀p∈cV,look bC p.1=some p.2)
  (hO:∀o∈O,o.upto (O.length+j)) (hX:∀o∈Y,o.upto (O.length+j)) (wx:∀p∈cV,p.2.upto (O.length+j)) (h:cy P kb c Q ⟨n,cV,O++Y⟩):cy P kb c Q ⟨n,bC,O++X⟩:=by
 have e:(O++X).take (O.length+j)=O++Y:=by
  rw[List.take_append,List.take_of_length_le (by omega),Nat.add_sub_cancel_left,hY]
 refine se (O.length+j) (by simp;omega) (by omega) cV ?_ (zg fun p hp=>⟨p.2,hs p hp,Sub.refl _⟩) (fun k x hk=>wx (k,x) (rE hk)) (by rw[e];exact h);rw[e];intro o ho;rcases List.mem_append.1 ho with q|q
 ·exact hO o q
 exact hX o q
end Go.Av
namespace Go.Proofs.YtkkookchlddbkaaGreat
open Go.Av
def Qy:=And.intro @OU <|
 And.intro @OV <|
 And.intro @OW <|
 And.intro @OX <|
 And.intro @OY <|
 And.intro @OZ <|
 And.intro @IN <|
 And.intro @IP <|
 And.intro @IQ <|
 And.intro @IS <|
 And.intro @IT <|
 And.intro @IU <|
 And.intro @IV <|
 And.intro @IW <|
 And.intro @IX <|
 And.intro @IY <|
 And.intro @IZ <|
 And.intro @I0 <|
 And.intro @I1 <|
 And.intro @Qh <|
 And.intro @Qi <|
 And.intro @Qj <|
 And.intro @Qk <|
 And.intro @Ql <|
 And.intro @Qm <|
 And.intro @Qn <|
 And.intro @Qo <|
 And.intro @Qp <|
 And.intro @Qq <|
 And.intro @I2 <|
 And.intro @I3 <|
 And.intro @I4 <|
 And.intro @I5 <|
 And.intro @I6 <|
 And.intro @I7 <|
 And.intro @I8 <|
 And.intro @I9 <|
 And.intro @I' <|
 And.intro @Ja <|
 And.intro @Jb <|
 And.intro @Jc <|
 And.intro @Jd <|
 And.intro @Je <|
 And.intro @Jf <|
 And.intro @Jg <|
 And.intro @Jh <|
 And.intro @Ji <|
 And.intro @Jj <|
 And.intro @Jk <|
 And.intro @Jl <|
 And.intro @Jm <|
 And.intro @Jn <|
 And.intro @Jo <|
 And.intro @Jp <|
 And.intro @Jq <|
 And.intro @Jr <|
 And.intro @Js <|
 And.intro @Jt <|
 And.intro @Ju <|
 And.intro @Jv <|
 And.intro @Jw <|
 And.intro @Jx <|
 And.intro @Jy <|
 And.intro @Jz <|
 And.intro @JA <|
 And.intro @Dg <|
 And.intro @JB <|
 And.intro @JC <|
 And.intro @JD <|
 And.intro @D4 <|
 And.intro @D5 <|
 And.intro @D6 <|
 And.intro @D7 <|
 And.intro @D8 <|
 And.intro @D9 <|
 And.intro @D' <|
 And.intro @Ea <|
 And.intro @Eb <|
 And.intro @Ec <|
 And.intro @Ed <|
 And.intro @Ee <|
 And.intro @Ef <|
 And.intro @Eg <|
 And.intro @ML <|
 And.intro @MM <|
 And.intro @MN <|
 And.intro @MO <|
 And.intro @Eh <|
 And.intro @Ei <|
 And.intro @Ej <|
 And.intro @Ek <|
 And.intro @El <|
 And.intro @Em <|
 And.intro @En <|
 And.intro @Eo <|
 And.intro @Ep <|
 And.intro @Er <|
 And.intro @Es <|
 And.intro @Et <|
 And.intro @Eu <|
 And.intro @Ev <|
 And.intro @Ew <|
 And.intro @Ex <|
 And.intro @Ey <|
 And.intro @Ez <|
 And.intro @EA <|
 And.intro @EB <|
 And.intro @EC <|
 And.intro @MP <|
 And.intro @MQ <|
 And.intro @MR <|
 And.intro @MS <|
 And.intro @MT <|
 And.intro @MU <|
 And.intro @MV <|
 And.intro @MW <|
 And.intro @MX <|
 And.intro @ED <|
 And.intro @EE <|
 And.intro @EF <|
 And.intro @EG <|
 And.intro @EH <|
 And.intro @EI <|
 And.intro @EJ <|
 And.intro @EK <|
 And.intro @EL <|
 And.intro @MY <|
 And.intro @MZ <|
 And.intro @EM <|
 And.intro @M0 <|
 And.intro @M3 <|
 And.intro @M4 <|
 And.intro @EN <|
 And.intro @EO <|
 And.intro @EP <|
 And.intro @ER <|
 And.intro @ES <|
 And.intro @ET <|
 And.intro @db.al <|
 And.intro @db.fold <|
 And.intro @db.ao <|
 And.intro @db.bV <|
 And.intro @db.aF <|
 And.intro @db.an <|
 And.intro @db.aw <|
 And.intro @Edge.al <|
 And.intro @Edge.fold <|
 And.intro @Edge.ao <|
 And.intro @Edge.bV <|
 And.intro @Edge.aF <|
 And.intro @Edge.an <|
 And.intro @Edge.aw <|
 And.intro @Term.al <|
 And.intro @Term.fold <|
 And.intro @Term.ao <|
 And.intro @Term.bV <|
 And.intro @Term.aF <|
 And.intro @Term.an <|
 And.intro @Term.aw <|
 And.intro @Block.al <|
 And.intro @Block.fold <|
 And.intro @Block.ao <|
 And.intro @Block.bV <|
 And.intro @Block.aF <|
 And.intro @Block.an <|
 And.intro @Block.aw <|
 And.intro @Func.al <|
 And.intro @Func.fold <|
 And.intro @Func.ao <|
 And.intro @Func.bV <|
 And.intro @Func.aF <|
 And.intro @Func.an <|
 And.intro @Func.aw <|
 And.intro @cW.al <|
 And.intro @cW.fold <|
 And.intro @cW.ao <|
 And.intro @cW.bV <|
 And.intro @cW.aF <|
 And.intro @cW.an <|
 And.intro @cW.aw <|
 And.intro @SV.jM <|
 And.intro @SV.al <|
 And.intro @SV.fold <|
 And.intro @SV.ao <|
 And.intro @SV.bV <|
 And.intro @SV.aw <|
 And.intro @SV.jb <|
 And.intro @cC <|
 And.intro @Fo <|
 And.intro @uh <|
 And.intro @aL <|
 And.intro @UX <|
 And.intro @Ia <|
 And.intro @lJ <|
 And.intro @Dw <|
 And.intro @Bc <|
 And.intro @IA <|
 And.intro @IC <|
 And.intro @IB <|
 And.intro @JE <|
 And.intro @List.take_length.{0} <|
 And.intro @List.append_assoc.{0} <|
 And.intro @List.cons_append.{0} <|
 @List.nil_append.{0}
def zp:=And.intro SU <|And.intro @ne_eq.{1} <|And.intro @implies_true.{0} <|And.intro @implies_true.{1} <|Qy
def zt:=And.intro and_true <|And.intro true_and and_self
def zu:=And.intro @db.aF <|And.intro @db.an <|And.intro @Edge.aF <|And.intro @Edge.an <|And.intro @Term.aF <|And.intro @Term.an <|And.intro @Block.aF <|And.intro @Block.an <|And.intro @Func.aF <|And.intro @Func.an <|And.intro @cW.aF <|And.intro @cW.an <| @aL
theorem fq{kb:Nat}{id:Nat}{l:List Oper}{draw:Bool}{Q:dw->St->Prop}{σ:St}(h:dh Tryz.prog aS ⟨false,false⟩ l 0 [] σ [] fun τ ks=>dJ draw (fun _=>cr l.toArray ks.reverse)∧At τ (Q .norm)):cy Tryz.prog kb (.region id l.toArray draw) Q σ:=ee _ hT hm h
theorem aH{kb:Nat}{id:Nat}{l:List Oper}{draw:Bool}{Q:dw->St->Prop}{σ:St}{x:Code}(h:dh Tryz.prog aS ⟨false,false⟩ l 0 [] σ [] fun τ ks=>dJ draw (fun _=>cr l.toArray ks.reverse)∧At τ (aZ Tryz.prog kb x Q .norm)):cy Tryz.prog kb (.seq (.region id l.toArray draw) x) Q σ:=aG (fq h)
theorem cg{kb:Nat}{id:Nat}{l:List Oper}{draw:Bool}{Q:dw->St->Prop}{σ:St}{x y:Code}(h:dh Tryz.prog aS ⟨false,false⟩ l 0 [] σ [] fun τ ks=>dJ draw (fun _=>cr l.toArray ks.reverse)∧At τ (aZ Tryz.prog kb x (aZ Tryz.prog kb y Q) .norm)):cy Tryz.prog kb (.seq (.seq (.region id l.toArray draw) x) y) Q σ:=aG (aH h)
theorem U7{kb:Nat}{id:Nat}{l:List Oper}{draw:Bool}{Q:dw->St->Prop}{σ:St}{x y z:Code}(h:dh Tryz.prog aS ⟨false,false⟩ l 0 [] σ [] fun τ ks=>dJ draw (fun _=>cr l.toArray ks.reverse)∧At τ (aZ Tryz.prog kb x (aZ Tryz.prog kb y (aZ Tryz.prog kb z Q)) .norm)):cy Tryz.prog kb (.seq (.seq (.seq (.region id l.toArray draw) x) y) z) Q σ:=aG (cg h)
theorem Tt{kb:Nat}{id:Nat}{l:List Oper}{draw:Bool}{Q:dw->St->Prop}{σ:St}(h:dh Tryz.prog aS ⟨true,false⟩ l 0 [] σ [] fun τ ks=>dJ draw (fun _=>cr l.toArray ks.reverse)∧At τ (Q .norm)):cy Tryz.prog kb (.region id l.toArray draw) Q σ:=ee _ hT hm h
theorem SZ{kb:Nat}{id:Nat}{l:List Oper}{draw:Bool}{Q:dw->St->Prop}{σ:St}{x:Code}(h:dh Tryz.prog aS ⟨true,false⟩ l 0 [] σ [] fun τ ks=>dJ draw (fun _=>cr l.toArray ks.reverse)∧At τ (aZ Tryz.prog kb x Q .norm)):cy Tryz.prog kb (.seq (.region id l.toArray draw) x) Q σ:=aG (Tt h)
theorem XD{kb:Nat}{id:Nat}{l:List Oper}{draw:Bool}{Q:dw->St->Prop}{σ:St}{x y:Code}(h:dh Tryz.prog aS ⟨true,false⟩ l 0 [] σ [] fun τ ks=>dJ draw (fun _=>cr l.toArray ks.reverse)∧At τ (aZ Tryz.prog kb x (aZ Tryz.prog kb y Q) .norm)):cy Tryz.prog kb (.seq (.seq (.region id l.toArray draw) x) y) Q σ:=aG (SZ h)
theorem U8{kb:Nat}{id:Nat}{l:List Oper}{draw:Bool}{Q:dw->St->Prop}{σ:St}(h:dh Tryz.prog aS ⟨true,true⟩ l 0 [] σ [] fun τ ks=>dJ draw (fun _=>cr l.toArray ks.reverse)∧At τ (Q .norm)):cy Tryz.prog kb (.region id l.toArray draw) Q σ:=ee _ hT hm h
theorem XE{kb:Nat}{id:Nat}{l:List Oper}{draw:Bool}{Q:dw->St->Prop}{σ:St}{x:Code}(h:dh Tryz.prog aS ⟨true,true⟩ l 0 [] σ [] fun τ ks=>dJ draw (fun _=>cr l.toArray ks.reverse)∧At τ (aZ Tryz.prog kb x Q .norm)):cy Tryz.prog kb (.seq (.region id l.toArray draw) x) Q σ:=aG (U8 h)
theorem Yl{kb:Nat}{id:Nat}{l:List Oper}{draw:Bool}{Q:dw->St->Prop}{σ:St}{x y:Code}(h:dh Tryz.prog aS ⟨true,true⟩ l 0 [] σ [] fun τ ks=>dJ draw (fun _=>cr l.toArray ks.reverse)∧At τ (aZ Tryz.prog kb x (aZ Tryz.prog kb y Q) .norm)):cy Tryz.prog kb (.seq (.seq (.region id l.toArray draw) x) y) Q σ:=aG (XE h)
theorem U'{kb:Nat}{id:Nat}{l:List Oper}{draw:Bool}{Q:dw->St->Prop}{σ:St}(h:dh Tryz.prog aS ⟨false,true⟩ l 0 [] σ [] fun τ ks=>dJ draw (fun _=>cr l.toArray ks.reverse)∧At τ (Q .norm)):cy Tryz.prog kb (.region id l.toArray draw) Q σ:=ee _ hT hm h
theorem S0{kb:Nat}{id:Nat}{l:List Oper}{draw:Bool}{Q:dw->St->Prop}{σ:St}{x:Code}(h:dh Tryz.prog aS ⟨false,true⟩ l 0 [] σ [] fun τ ks=>dJ draw (fun _=>cr l.toArray ks.reverse)∧At τ (aZ Tryz.prog kb x Q .norm)):cy Tryz.prog kb (.seq (.region id l.toArray draw) x) Q σ:=aG (U' h)
theorem XG{kb:Nat}{id:Nat}{l:List Oper}{draw:Bool}{Q:dw->St->Prop}{σ:St}{x y:Code}(h:dh Tryz.prog aS ⟨false,true⟩ l 0 [] σ [] fun τ ks=>dJ draw (fun _=>cr l.toArray ks.reverse)∧At τ (aZ Tryz.prog kb x (aZ Tryz.prog kb y Q) .norm)):cy Tryz.prog kb (.seq (.seq (.region id l.toArray draw) x) y) Q σ:=aG (S0 h)
theorem aQ{kb:Nat}{c:Operand}{x y:Code}{Q:dw->St->Prop}{σ:St}{b:Bool}(hc:σ.ev c=some (.v (.bool b)))(ht:b=true->cy Tryz.prog kb x Q σ)(hf:b=false->cy Tryz.prog kb y Q σ):cy Tryz.prog kb (.cond c x y) Q σ:=iI hc ht hf
theorem gr{kb:Nat}{c:Operand}{x y z:Code}{Q:dw->St->Prop}{σ:St}{b:Bool}(hc:σ.ev c=some (.v (.bool b)))(ht:b=true->cy Tryz.prog kb x (aZ Tryz.prog kb z Q) σ)(hf:b=false->cy Tryz.prog kb y (aZ Tryz.prog kb z Q) σ):cy Tryz.prog kb (.seq (.cond c x y) z) Q σ:=aG (iI hc ht hf)
theorem XB{kb:Nat}{c:Operand}{x y z w:Code}{Q:dw->St->Prop}{σ:St}{b:Bool}(hc:σ.ev c=some (.v (.bool b)))(ht:b=true->cy Tryz.prog kb x (aZ Tryz.prog kb z (aZ Tryz.prog kb w Q)) σ)(hf:b=false->cy Tryz.prog kb y (aZ Tryz.prog kb z (aZ Tryz.prog kb w Q)) σ) :
  cy Tryz.prog kb (.seq (.seq (.cond c x y) z) w) Q σ:=aG (aG (iI hc ht hf))
theorem av{kb:Nat}{c:Code}{Q:dw->St->Prop}{σ:St}(h:cy Tryz.prog kb c Q σ):At σ (aZ Tryz.prog kb c Q .norm):=h
theorem eH{kb:Nat}{c:Code}{Q:dw->St->Prop}{σ:St}{CK:Nat}(h:cy Tryz.prog kb c Q σ):cy Tryz.prog CK .skip (aZ Tryz.prog kb c Q) σ:=au h
theorem Yb{kb:Nat}{c:Code}{Q:dw->St->Prop}{σ:St}{b0:Nat}(h:cy Tryz.prog kb c Q σ):At σ (bJ b0 (aZ Tryz.prog kb c Q) .norm):=h
theorem pV{kb:Nat}{c:Code}{Q:dw->St->Prop}{σ:St}{b0:Nat}{CK:Nat}(h:cy Tryz.prog kb c Q σ):cy Tryz.prog CK .skip (bJ b0 (aZ Tryz.prog kb c Q)) σ:=au h
theorem Yc{kb:Nat}{c:Code}{Q:dw->St->Prop}{σ:St}{b0:Nat}{b1:Nat}(h:cy Tryz.prog kb c Q σ):At σ (bJ b1 (bJ b0 (aZ Tryz.prog kb c Q)) .norm):=h
theorem V8{kb:Nat}{c:Code}{Q:dw->St->Prop}{σ:St}{b0:Nat}{b1:Nat}{CK:Nat}(h:cy Tryz.prog kb c Q σ):cy Tryz.prog CK .skip (bJ b1 (bJ b0 (aZ Tryz.prog kb c Q))) σ:=au h
theorem Yd{kb:Nat}{c:Code}{Q:dw->St->Prop}{σ:St}{b0:Nat}{b1:Nat}{b2:Nat}(h:cy Tryz.prog kb c Q σ):At σ (bJ b2 (bJ b1 (bJ b0 (aZ Tryz.prog kb c Q))) .norm):=h
theorem Ye{kb:Nat}{c:Code}{Q:dw->St->Prop}{σ:St}{b0:Nat}{b1:Nat}{b2:Nat}{CK:Nat}(h:cy Tryz.prog kb c Q σ):cy Tryz.prog CK .skip (bJ b2 (bJ b1 (bJ b0 (aZ Tryz.prog kb c Q)))) σ:=au h
theorem r7{ι:Type}{L:ι->St}{μ:ι->Nat}{i:ι}{Q:dw->St->Prop}{σ:St}(h:∃j,μ j<μ i∧bn σ (L j)):At σ (gB L μ i Q .norm):=h
theorem Yh{ι:Type}{L:ι->St}{μ:ι->Nat}{i:ι}{Q:dw->St->Prop}{σ:St}{CK:Nat}(h:∃j,μ j<μ i∧bn σ (L j)):cy Tryz.prog CK .skip (gB L μ i Q) σ:=au h
theorem XC{ι:Type}{L:ι->St}{μ:ι->Nat}{i:ι}{Q:dw->St->Prop}{σ:St}{b0:Nat}(h:∃j,μ j<μ i∧bn σ (L j)):At σ (bJ b0 (gB L μ i Q) .norm):=h
theorem Yi{ι:Type}{L:ι->St}{μ:ι->Nat}{i:ι}{Q:dw->St->Prop}{σ:St}{b0:Nat}{CK:Nat}(h:∃j,μ j<μ i∧bn σ (L j)):cy Tryz.prog CK .skip (bJ b0 (gB L μ i Q)) σ:=au h
theorem Yf{ι:Type}{L:ι->St}{μ:ι->Nat}{i:ι}{Q:dw->St->Prop}{σ:St}{b0:Nat}{b1:Nat}(h:∃j,μ j<μ i∧bn σ (L j)):At σ (bJ b1 (bJ b0 (gB L μ i Q)) .norm):=h
theorem Yj{ι:Type}{L:ι->St}{μ:ι->Nat}{i:ι}{Q:dw->St->Prop}{σ:St}{b0:Nat}{b1:Nat}{CK:Nat}(h:∃j,μ j<μ i∧bn σ (L j)):cy Tryz.prog CK .skip (bJ b1 (bJ b0 (gB L μ i Q))) σ:=au h
theorem Yg{ι:Type}{L:ι->St}{μ:ι->Nat}{i:ι}{Q:dw->St->Prop}{σ:St}{b0:Nat}{b1:Nat}{b2:Nat}(h:∃j,μ j<μ i∧bn σ (L j)):At σ (bJ b2 (bJ b1 (bJ b0 (gB L μ i Q))) .norm):=h
theorem Yk{ι:Type}{L:ι->St}{μ:ι->Nat}{i:ι}{Q:dw->St->Prop}{σ:St}{b0:Nat}{b1:Nat}{b2:Nat}{CK:Nat}(h:∃j,μ j<μ i∧bn σ (L j)):cy Tryz.prog CK .skip (bJ b2 (bJ b1 (bJ b0 (gB L μ i Q)))) σ:=au h
end Go.Proofs.YtkkookchlddbkaaGreat
section
/-
  Short forms of steps that occur often; the packed texts of a claim use them (squeeze.py).
-/
namespace Go.Proofs.YtkkookchlddbkaaGreat
open Go.Av

theorem sH (aS : fM) (rv : List ResultVar) (sh : Bool) (k : Nat) (R : ae -> List ay -> Prop) (σ : St) : uf aS rv sh k R .ret σ = on (gq aS σ rv) fun rs => k <= σ.objs.length ∧ (∀ o ∈ σ.objs.take k, o.upto k) ∧ (iO (if sh then rs.map ae.share else rs)).upto k ∧ R (iO (if sh then rs.map ae.share else rs)) (σ.objs.take k) := rfl
theorem qB (aS : fM) (rv : List ResultVar) (sh : Bool) (k : Nat) (R : ae -> List ay -> Prop) (σ : St) : uf aS rv sh k R .norm σ = on (gq aS σ rv) fun rs => k <= σ.objs.length ∧ (∀ o ∈ σ.objs.take k, o.upto k) ∧ (iO (if sh then rs.map ae.share else rs)).upto k ∧ R (iO (if sh then rs.map ae.share else rs)) (σ.objs.take k) := rfl
theorem sB : iO [] = .c5 [] := rfl
theorem sC (x y : ae) (r : List ae) : iO (x :: y :: r) = .c5 (x :: y :: r) := rfl
theorem Qx (n : Nat) (x : Value) : ae.upto n (.v x) = True := rfl
def zr := And.intro @sH <|And.intro @qB <|And.intro @gq.eq_1 <|And.intro @gq.eq_2 <|And.intro @oU.eq_1 <|And.intro @oU.eq_2 <|And.intro @iO.eq_1 <|And.intro @sB <|And.intro @sC <|
  And.intro @ae.upto.eq_1 <|And.intro @ae.upto.eq_2 <|And.intro @ae.upto.eq_3 <|And.intro @ae.upto.eq_4 <|And.intro @ae.upto.eq_5 <|And.intro @ae.upto.eq_6 <|And.intro @ae.upto.eq_7 <|And.intro @ae.upto.eq_8 <|And.intro @ae.upto.eq_9 <|And.intro @ae.upto.eq_10 <|And.intro @ae.upto.eq_11 <|And.intro @ae.upto.eq_12 <|And.intro @ae.upto.eq_13 <|
  And.intro @Nat.zero_le <|And.intro @Nat.le_refl <|And.intro @Nat.le_add_right <|And.intro @oW <|And.intro @me @nv
def zc := And.intro @dy.eq_1 <|And.intro @dy.eq_2 <|And.intro @exists_eq_left'.{1} <|And.intro @Option.some.injEq.{0} <|And.intro @sub_self <|And.intro @and_assoc <|And.intro true_and and_true

theorem ab {p q : Prop} [Decidable p] (h : decide p = true) (n : ¬p) : q := absurd (of_decide_eq_true h) n
theorem af {p q : Prop} [Decidable p] (h : decide p = false) (n : p) : q := absurd n (of_decide_eq_false h)
theorem ob {a : Array Oper} {k : List Kind} (h : fO a k = true) : cr a k := h
theorem zf {f : FuncId} {fn : Go.Func} {c : Code} {O : List ay} {args : List ae} {R : ae -> List ay -> Prop} {m : Nat} (sh : Bool) (k : Nat) (hf : Tryz.prog.funcs[f]? = some fn) (hm : fn.ntmps = m) (h : cy Tryz.prog O.length c (uf aS fn.results.toList sh k R) ⟨m, ax 0 args, O⟩) (hb : fn.body = some c := by rfl)
    (AI : (fn.name == "runtime.NumGoroutine") = false := by kernel_rfl) (hn : args.length <= m := by simp) (hk : O.length <= k := by simp) : aY Tryz.prog f O args R := by
  subst hm;exact js hT sh k hf hb AI hn hk h
theorem zq {σ τ : St} (h1 : σ.n = τ.n) (h3 : dy σ τ.bC) (h2 : σ.objs = τ.objs) : bn σ τ := ⟨h1, h2, h3⟩

theorem du {kb : Nat} {id : Nat} {l : List Oper} {draw : Bool} {Q : dw -> St -> Prop} {σ : St} {q : Prop} (h : q) (e : (dh Tryz.prog aS ⟨false, false⟩ l 0 [] σ [] fun τ ks => dJ draw (fun _ => cr l.toArray ks.reverse) ∧ At τ (Q .norm)) = q := by simp -dsimp only[simprocAttr, ↓aa, zp]; rfl) : cy Tryz.prog kb (.region id l.toArray draw) Q σ := fq (e ▸ h)
theorem aB {kb : Nat} {id : Nat} {l : List Oper} {draw : Bool} {Q : dw -> St -> Prop} {σ : St} {x : Code} {q : Prop} (h : q) (e : (dh Tryz.prog aS ⟨false, false⟩ l 0 [] σ [] fun τ ks => dJ draw (fun _ => cr l.toArray ks.reverse) ∧ At τ (aZ Tryz.prog kb x Q .norm)) = q := by simp -dsimp only[simprocAttr, ↓aa, zp]; rfl) : cy Tryz.prog kb (.seq (.region id l.toArray draw) x) Q σ := aH (e ▸ h)
theorem cj {kb : Nat} {id : Nat} {l : List Oper} {draw : Bool} {Q : dw -> St -> Prop} {σ : St} {x y : Code} {q : Prop} (h : q) (e : (dh Tryz.prog aS ⟨false, false⟩ l 0 [] σ [] fun τ ks => dJ draw (fun _ => cr l.toArray ks.reverse) ∧ At τ (aZ Tryz.prog kb x (aZ Tryz.prog kb y Q) .norm)) = q := by simp -dsimp only[simprocAttr, ↓aa, zp]; rfl) : cy Tryz.prog kb (.seq (.seq (.region id l.toArray draw) x) y) Q σ := cg (e ▸ h)
theorem XA {kb : Nat} {id : Nat} {l : List Oper} {draw : Bool} {Q : dw -> St -> Prop} {σ : St} {x y z : Code} {q : Prop} (h : q) (e : (dh Tryz.prog aS ⟨false, false⟩ l 0 [] σ [] fun τ ks => dJ draw (fun _ => cr l.toArray ks.reverse) ∧ At τ (aZ Tryz.prog kb x (aZ Tryz.prog kb y (aZ Tryz.prog kb z Q)) .norm)) = q := by simp -dsimp only[simprocAttr, ↓aa, zp]; rfl) : cy Tryz.prog kb (.seq (.seq (.seq (.region id l.toArray draw) x) y) z) Q σ := U7 (e ▸ h)
theorem cB {kb : Nat} {c : Operand} {x y : Code} {Q : dw -> St -> Prop} {σ : St} (hc : σ.ev c = some (.v (.bool false))) (hf : cy Tryz.prog kb y Q σ) : cy Tryz.prog kb (.cond c x y) Q σ := iI hc (fun h => by cases h) fun _ => hf
theorem U9 {kb : Nat} {c : Operand} {x y z : Code} {Q : dw -> St -> Prop} {σ : St} (hc : σ.ev c = some (.v (.bool false))) (hf : cy Tryz.prog kb y (aZ Tryz.prog kb z Q) σ) : cy Tryz.prog kb (.seq (.cond c x y) z) Q σ := aG (cB hc hf)
theorem XF {kb : Nat} {c : Operand} {x y z w : Code} {Q : dw -> St -> Prop} {σ : St} (hc : σ.ev c = some (.v (.bool false))) (hf : cy Tryz.prog kb y (aZ Tryz.prog kb z (aZ Tryz.prog kb w Q)) σ) : cy Tryz.prog kb (.seq (.seq (.cond c x y) z) w) Q σ := aG (U9 hc hf)
theorem de {kb : Nat} {c : Operand} {x y : Code} {Q : dw -> St -> Prop} {σ : St} (hc : σ.ev c = some (.v (.bool true))) (ht : cy Tryz.prog kb x Q σ) : cy Tryz.prog kb (.cond c x y) Q σ := iI hc (fun _ => ht) fun h => by cases h
theorem Va {kb : Nat} {c : Operand} {x y z : Code} {Q : dw -> St -> Prop} {σ : St} (hc : σ.ev c = some (.v (.bool true))) (ht : cy Tryz.prog kb x (aZ Tryz.prog kb z Q) σ) : cy Tryz.prog kb (.seq (.cond c x y) z) Q σ := aG (de hc ht)
theorem XH {kb : Nat} {c : Operand} {x y z w : Code} {Q : dw -> St -> Prop} {σ : St} (hc : σ.ev c = some (.v (.bool true))) (ht : cy Tryz.prog kb x (aZ Tryz.prog kb z (aZ Tryz.prog kb w Q)) σ) : cy Tryz.prog kb (.seq (.seq (.cond c x y) z) w) Q σ := aG (Va hc ht)
theorem zi {id : FuncId} {args : List ae} {r : ae} {K : ae -> Prop} {B q : Prop} (hc : aV Tryz.prog id args r) (h : q) (hu : aq 0 args := by simp only[aq, ae.upto, zt, zu]) (e : K r = q := by simp -dsimp only[simprocAttr, ↓aa, zp]; rfl) : (∃ r, aV Tryz.prog id args r ∧ aq 0 args ∧ ue fun _ => K r) ∨ B := .inl ⟨r, hc, hu, ah (e ▸ h)⟩
theorem zj {p q : Prop} (h : q) (e : p = q := by simp -dsimp only[simprocAttr, ↓aa, zp]; rfl) : p := e ▸ h
end Go.Proofs.YtkkookchlddbkaaGreat
end
namespace Go.Proofs.YtkkookchlddbkaaGreat
open Go.Av
def within(n low high:Int):Bool:=decide (low<=n)&&decide (n<=high)
theorem eh(n low high:Int):aV Tryz.prog 23 [aI n,aI low,aI high] (.v (.bool (within n low high))):=by
 refine zf true 0 Tryz.func23 Tryz.ntmps23 ?_;dsimp only[Tmp,TypeId,ax];refine aB (av ?_);refine aB ?_;refine cO (fun h=>?_) (fun h=>?_)
 ·simp -dsimp only[simprocAttr,↓aa,zp,h];refine av ?_;refine ak ?_;simp -dsimp only[simprocAttr,↓aa,zp,zr,Tryz.results23]
  simp_all [within]
 simp -dsimp only[simprocAttr,↓aa,zp,h];refine av ?_;refine ak ?_;simp -dsimp only[simprocAttr,↓aa,zp,zr,Tryz.results23]
 simp_all [within]
 omega
theorem kG(n:Int):-1073741824<=kR n∧kR n<=1073741823:=by
 unfold kR;omega
theorem Ln(x:Int):m8 .i64 (fun x y=>x&&& y) x 2147483647=x % 2147483648:=by
 have h:(BitVec.ofInt 64 x&&& BitVec.ofInt 64 2147483647).toNat=(x % 2147483648).toNat:=by
  rw[BitVec.toNat_and,show(BitVec.ofInt 64 2147483647).toNat=2 ^ 31-1 by decide,Nat.and_two_pow_sub_one_eq_mod,BitVec.toNat_ofInt];omega
 show IntKind.i64.wrap (((BitVec.ofInt 64 x&&& BitVec.ofInt 64 2147483647).toNat:Nat):Int)=_;rw[h,pD .i64 _ (by simp[IntKind.min,IntKind.bits,IntKind.signed];omega) (by simp[IntKind.max,IntKind.bits,IntKind.signed];omega)];omega
theorem gG(n:Int)(h1:-9223372036854775808<=n)(h2:n<=9223372035781033983):aV Tryz.prog 123 [aI n] (aI (kR n)):=by
 have q:=kG n;have e:m8 .i64 (fun x y=>x&&& y) (n+1073741824) 2147483647=kR n+1073741824:=by
  rw[Ln];unfold kR;omega
 refine zf true 0 Tryz.func123 Tryz.ntmps123 ?_;dsimp only[Tmp,TypeId,ax];refine aB (av ?_);refine aB ?_;refine⟨by omega,by omega,?_⟩;simp -dsimp only[simprocAttr,↓aa,zp,e];refine⟨by omega,by omega,by omega,by omega,?_⟩;refine av ?_;refine ak ?_;simp -dsimp only[simprocAttr,↓aa,zp,zr,Tryz.results123];rw[Int.add_sub_cancel]
theorem mQ{n:Int}(h:gh n):kR n=n:=by
 unfold gh at h;unfold kR;omega
theorem kf(a b:Int)(ha:gh a)(hb:gh b):aV Tryz.prog 116 [aI a,aI b] (aI (kR (a+b))):=by
 unfold gh at ha hb;refine zf true 0 Tryz.func116 Tryz.ntmps116 ?_;dsimp only[Tmp,TypeId,ax];refine aB (av ?_);refine aB ?_;refine⟨by omega,by omega,?_⟩;refine .inl ⟨_,(gG (a+b) (by omega) (by omega)),by simp only[aq,ae.upto,zt],ah ?_⟩;refine av ?_;refine ak ?_;simp -dsimp only[simprocAttr,↓aa,zp,zr,Tryz.results116]
theorem IM(a b:Int)(ha:gh a)(hb:gh b):aV Tryz.prog 117 [aI a,aI b] (aI (kR (a-b))):=by
 unfold gh at ha hb;refine zf true 0 Tryz.func117 Tryz.ntmps117 ?_;dsimp only[Tmp,TypeId,ax];refine aB (av ?_);refine aB ?_;refine⟨by omega,by omega,?_⟩;refine .inl ⟨_,(gG (a-b) (by omega) (by omega)),by simp only[aq,ae.upto,zt],ah ?_⟩;refine av ?_;refine ak ?_;simp -dsimp only[simprocAttr,↓aa,zp,zr,Tryz.results117]
theorem C'{a b:Int}(ha:gh a)(hb:gh b):-1152921504606846976<=a*b∧a*b<=1152921504606846976:=by
 unfold gh at ha hb;have h:(a*b).natAbs<=1152921504606846976:=by
  rw[Int.natAbs_mul];have:=Nat.mul_le_mul (show a.natAbs<=1073741824 by omega) (show b.natAbs<=1073741824 by omega);omega
 omega
theorem Ie(a b:Int)(ha:gh a)(hb:gh b):aV Tryz.prog 118 [aI a,aI b] (aI (kR (a*b))):=by
 have q:=C' ha hb;have ea:=mQ ha;have eb:=mQ hb;have wa:=gG a (by unfold gh at ha;omega) (by unfold gh at ha;omega);have wb:=gG b (by unfold gh at hb;omega) (by unfold gh at hb;omega);have wc:=gG (a*b) (by omega) (by omega);rw[ea]at wa;rw[eb]at wb;generalize hc:a*b=c at *;refine zf true 0 Tryz.func118 Tryz.ntmps118 ?_;dsimp only[Tmp,TypeId,ax];refine aB (av ?_);refine aB ?_;refine .inl ⟨_,wa,by simp only[aq,ae.upto,zt],ah ?_⟩;refine .inl ⟨_,wb,by simp only[aq,ae.upto,zt],ah ?_⟩;simp -dsimp only[simprocAttr,↓aa,zp,hc];refine⟨by omega,by omega,?_⟩;refine .inl ⟨_,wc,by simp only[aq,ae.upto,zt],ah ?_⟩;refine av ?_;refine ak ?_;simp -dsimp only[simprocAttr,↓aa,zp,zr,Tryz.results118]
theorem Dh{a b:Int}(ha:gh a):-1073741824<=a.tdiv b∧a.tdiv b<=1073741824:=by
 unfold gh at ha;have h:(a.tdiv b).natAbs<=a.natAbs:=by
  rw[Int.natAbs_tdiv];exact Nat.div_le_self _ _
 omega
theorem vU{a b:Int}(hb:gh b)(h0:b≠0):gh (a.tmod b):=by
 unfold gh at *;have h:(a.tmod b).natAbs<b.natAbs:=by
  rw[Int.natAbs_tmod];exact Nat.mod_lt _ (by omega)
 omega
theorem Hh(a b:Int)(ha:gh a)(hb:gh b)(h0:b≠0):aV Tryz.prog 120 [aI a,aI b] (.c5 [aI (kR (a.tdiv b)),aI 0]):=by
 have q:=Dh (b:=b) ha;have wa:=gG a (by unfold gh at ha;omega) (by unfold gh at ha;omega);have wb:=gG b (by unfold gh at hb;omega) (by unfold gh at hb;omega);have wc:=gG (a.tdiv b) (by omega) (by omega);rw[mQ ha]at wa;rw[mQ hb]at wb;have h1:(b=0)=False:=by simpa using h0
 generalize hc:a.tdiv b=c at *;refine zf true 0 Tryz.func120 Tryz.ntmps120 ?_;dsimp only[Tmp,TypeId,ax];refine aB (av ?_);refine cj ?_;refine .inl ⟨_,wb,by simp only[aq,ae.upto,zt],ah ?_⟩;simp -dsimp only[simprocAttr,↓aa,zp,h0];refine av ?_;refine cB rfl ?_;refine eH ?_;refine aB ?_;refine .inl ⟨_,wa,by simp only[aq,ae.upto,zt],ah ?_⟩;refine .inl ⟨_,wb,by simp only[aq,ae.upto,zt],ah ?_⟩;simp -dsimp only[simprocAttr,↓aa,zp,h1,if_false,hc];refine⟨by omega,by omega,?_⟩;refine .inl ⟨_,wc,by simp only[aq,ae.upto,zt],ah ?_⟩;refine av ?_;refine ak ?_;simp -dsimp only[simprocAttr,↓aa,zp,zr,Tryz.results120];simp[aq,ae.upto]
theorem Ic(a b:Int)(ha:gh a)(hb:gh b)(h0:b≠0):aV Tryz.prog 121 [aI a,aI b] (.c5 [aI (a.tmod b),aI 0]):=by
 have q:=vU (a:=a) hb h0;unfold gh at q;have wa:=gG a (by unfold gh at ha;omega) (by unfold gh at ha;omega);have wb:=gG b (by unfold gh at hb;omega) (by unfold gh at hb;omega);rw[mQ ha]at wa;rw[mQ hb]at wb;have h1:(b=0)=False:=by simpa using h0
 generalize hc:a.tmod b=c at *;refine zf true 0 Tryz.func121 Tryz.ntmps121 ?_;dsimp only[Tmp,TypeId,ax];refine aB (av ?_);refine cj ?_;refine .inl ⟨_,wb,by simp only[aq,ae.upto,zt],ah ?_⟩;simp -dsimp only[simprocAttr,↓aa,zp,h0];refine av ?_;refine cB rfl ?_;refine eH ?_;refine aB ?_;refine .inl ⟨_,wa,by simp only[aq,ae.upto,zt],ah ?_⟩;refine .inl ⟨_,wb,by simp only[aq,ae.upto,zt],ah ?_⟩;simp -dsimp only[simprocAttr,↓aa,zp,h1,if_false,hc];refine⟨by omega,by omega,?_⟩;refine av ?_;refine ak ?_;simp -dsimp only[simprocAttr,↓aa,zp,zr,Tryz.results121];simp[aq,ae.upto]
structure Bs where
 a:Nat
 b:Nat
 deriving DecidableEq
namespace Bs
def enc(s:Bs):ae:=.agg [.v (.int .u64 s.a),.v (.int .u64 s.b)]
def fit(s:Bs):Prop:=s.a<2 ^ 64∧s.b<2 ^ 64
def has(s:Bs)(k:Nat):Bool:=if k<64 then s.a.testBit k else s.b.testBit (k-64)
def add(s:Bs)(k:Nat):Bs:=if k<64 then⟨s.a |||1 <<< k,s.b⟩else⟨s.a,s.b |||1 <<< (k-64)⟩
def meet(s t:Bs):Bs:=⟨s.a&&& t.a,s.b&&& t.b⟩
def none:Bs:=⟨0,0⟩
theorem ao(s:Bs):s.enc.share=s.enc:=rfl
theorem aw(s:Bs):s.enc.flat:=trivial
theorem al(s:Bs):s.enc.cells=[.v (.int .u64 s.a),.v (.int .u64 s.b)]:=rfl
theorem aF(n:Nat)(s:Bs):s.enc.upto n:=⟨trivial,trivial,trivial⟩
end Bs
theorem wk{n:Nat}(h:n<2 ^ 64):IntKind.u64.wrap (n:Int)=(n:Int):=by
 rw[pD .u64 _ (by simp[IntKind.min,IntKind.signed]) (by simp[IntKind.max,IntKind.bits,IntKind.signed];omega)]
theorem x9{m n:Nat}(hm:m<2 ^ 64)(hn:n<2 ^ 64):m8 .u64 (fun x y=>x&&& y) (m:Int) (n:Int)=((m&&& n:Nat):Int):=by
 have h:(BitVec.ofInt 64 (m:Int)&&& BitVec.ofInt 64 (n:Int)).toNat=m&&& n:=by
  rw[BitVec.toNat_and,BitVec.toNat_ofInt,BitVec.toNat_ofInt];congr 1<;>omega
 show IntKind.u64.wrap (((BitVec.ofInt 64 (m:Int)&&& BitVec.ofInt 64 (n:Int)).toNat:Nat):Int)=_;rw[h];exact wk (Nat.lt_of_le_of_lt Nat.and_le_left hm)
theorem Iq{m n:Nat}(hm:m<2 ^ 64)(hn:n<2 ^ 64):m8 .u64 (fun x y=>x |||y) (m:Int) (n:Int)=((m |||n:Nat):Int):=by
 have h:(BitVec.ofInt 64 (m:Int) |||BitVec.ofInt 64 (n:Int)).toNat=m |||n:=by
  rw[BitVec.toNat_or,BitVec.toNat_ofInt,BitVec.toNat_ofInt];congr 1<;>omega
 show IntKind.u64.wrap (((BitVec.ofInt 64 (m:Int) |||BitVec.ofInt 64 (n:Int)).toNat:Nat):Int)=_;rw[h];exact wk (Nat.or_lt_two_pow hm hn)
theorem MI(m k:Nat)(hk:k<64):fK .u64 .shr (m:Int) (k:Int)=((m >>> k:Nat):Int):=by
 simp only[fK,Int.toNat_natCast,IntKind.bits];rw[Nat.min_eq_left (by omega),Nat.shiftRight_eq_div_pow,Int.fdiv_eq_ediv_of_nonneg _ (by exact Int.le_of_lt (Int.pow_pos (by omega)))];simp
theorem MH(k:Nat)(hk:k<64):fK .u64 .shl 1 (k:Int)=((1 <<< k:Nat):Int):=by
 simp only[fK,Int.toNat_natCast,IntKind.bits];have aN:1 <<< k<2 ^ 64:=by
  rw[Nat.one_shiftLeft];exact Nat.pow_lt_pow_right (by omega) hk
 have he:(1:Int)*(2:Int) ^ k=((1 <<< k:Nat):Int):=by
  rw[Nat.one_shiftLeft];simp
 rw[Nat.min_eq_left (by omega),he];exact wk aN
theorem Lr(m k:Nat):decide (((m >>> k&&& 1:Nat):Int)=1)=m.testBit k:=by
 rw[Nat.testBit_eq_decide_div_mod_eq,Nat.and_one_is_mod,Nat.shiftRight_eq_div_pow];congr 1;apply propext;omega
theorem Qf{m k:Nat}(h:m<2 ^ 64):m >>> k<2 ^ 64:=by
 rw[Nat.shiftRight_eq_div_pow];exact Nat.lt_of_le_of_lt (Nat.div_le_self _ _) h
theorem OR{k:Nat}:(k:Int).tdiv 64=((k / 64:Nat):Int):=by
 rw[Int.tdiv_eq_ediv_of_nonneg (by omega)];omega
theorem OS{k:Nat}:(k:Int).tmod 64=((k % 64:Nat):Int):=by
 rw[Int.tmod_eq_emod_of_nonneg (by omega)];omega
theorem Ip:((1:Nat):Int)=1:=rfl
theorem rr(s:Bs)(hs:s.fit)(k:Nat)(hk:k<128):aV Tryz.prog 99 [s.enc,aI k] (.v (.bool (s.has k))):=by
 obtain⟨ha,hb⟩:=hs;have Ts:((64:Int)=0)=False:=by simp
 have Ma:k % 64<64:=Nat.mod_lt _ (by omega);have q1:=OR (k:=k);have q2:=OS (k:=k);obtain⟨x,hx,Ld⟩:∃x:Nat,x<2 ^ 64∧x=if k<64 then s.a else s.b:=by
  split
  ·exact⟨_,ha,rfl⟩
  exact⟨_,hb,rfl⟩
 have hr:s.has k=x.testBit (k % 64):=by
  rw[Ld];unfold Bs.has;split
  ·rw[Nat.mod_eq_of_lt (by assumption)]
  rw[show k % 64=k-64 by omega]
 have e1:=MI x (k % 64) Ma;have wx:=Qf (k:=k % 64) hx;have e2:=x9 (m:=x >>> (k % 64)) (n:=1) wx (by omega);have e3:=Lr x (k % 64);rw[Ip]at e2;have mT:x >>> (k % 64)&&& 1<=1:=Nat.and_le_right;rw[hr,<-e3];generalize hy:x >>> (k % 64)=y at *;generalize hw:y&&& 1=w at *;rcases(show k / 64=0∧x=s.a∨k / 64=1∧x=s.b by
  by_cases h:k<64
  ·exact .inl ⟨by omega,by rw[Ld,if_pos h]⟩
  exact .inr ⟨by omega,by rw[Ld,if_neg h]⟩)with⟨hq,CH⟩|⟨hq,CH⟩
 all_goals
  rw[hq]at q1;subst CH;refine zf true 0 Tryz.func99 Tryz.ntmps99 ?_;dsimp only[Tmp,TypeId,ax];refine aH ?_;simp -dsimp only[simprocAttr,↓aa,zp,Bs.al,Bs.aw];refine av ?_;refine aH ?_;simp -dsimp only[simprocAttr,↓aa,zp,q1,q2,Ts,if_false,e1,e2]
  repeat(refine⟨by omega,?_⟩)
  refine av ?_;refine ak ?_;simp -dsimp only[simprocAttr,↓aa,zp,zr,Tryz.results99]
theorem E'(s t:Bs)(hs:s.fit)(ht:t.fit):aV Tryz.prog 115 [s.enc,t.enc] (s.meet t).enc:=by
 obtain⟨ha,hb⟩:=hs;obtain⟨hc,hd⟩:=ht;have e1:=x9 ha hc;have e2:=x9 hb hd;have l1:s.a&&& t.a<2 ^ 64:=Nat.lt_of_le_of_lt Nat.and_le_left ha;have l2:s.b&&& t.b<2 ^ 64:=Nat.lt_of_le_of_lt Nat.and_le_left hb;unfold Bs.meet;generalize s.a&&& t.a=p at *;generalize s.b&&& t.b=q at *;refine zf true 0 Tryz.func115 Tryz.ntmps115 ?_;dsimp only[Tmp,TypeId,ax];refine aH ?_;simp -dsimp only[simprocAttr,↓aa,zp,Bs.al,Bs.aw];refine av ?_;refine aH ?_;simp -dsimp only[simprocAttr,↓aa,zp,e1,e2]
 repeat(refine⟨by omega,?_⟩)
 refine av ?_;refine ak ?_;simp -dsimp only[simprocAttr,↓aa,zp,zr,Tryz.results115];exact⟨⟨trivial,trivial,trivial⟩,rfl⟩
theorem Gv(s:Bs)(hs:s.fit)(k:Nat)(hk:k<128):aV Tryz.prog 114 [s.enc,aI k] (s.add k).enc:=by
 obtain⟨ha,hb⟩:=hs;have Ts:((64:Int)=0)=False:=by simp
 have Ma:k % 64<64:=Nat.mod_lt _ (by omega);have q1:=OR (k:=k);have q2:=OS (k:=k);have e1:=MH (k % 64) Ma;have aN:1 <<< (k % 64)<2 ^ 64:=by
  rw[Nat.one_shiftLeft];exact Nat.pow_lt_pow_right (by omega) Ma
 rcases(show k<64∨64<=k by omega)with h|h
 ·have hq:k / 64=0:=by omega
  have hr:s.add k=⟨s.a |||1 <<< (k % 64),s.b⟩:=by
   simp[Bs.add,h,Nat.mod_eq_of_lt h]
  have e2:=Iq ha aN;have l1:s.a |||1 <<< (k % 64)<2 ^ 64:=Nat.or_lt_two_pow ha aN;rw[hr];rw[hq]at q1;generalize hy:1 <<< (k % 64)=y at *;generalize hw:s.a |||y=w at *;refine zf true 0 Tryz.func114 Tryz.ntmps114 ?_;dsimp only[Tmp,TypeId,ax];refine aH ?_;simp -dsimp only[simprocAttr,↓aa,zp,Bs.al,Bs.aw];refine av ?_;refine aH ?_;simp -dsimp only[simprocAttr,↓aa,zp,q1,q2,Ts,if_false,e1,e2]
  repeat(refine⟨by omega,?_⟩)
  refine⟨ob (by kernel_rfl),?_⟩;refine av ?_;refine aB (av ?_);refine ak ?_;simp -dsimp only[simprocAttr,↓aa,zp,zr,Tryz.results114];exact⟨⟨trivial,trivial,trivial⟩,rfl⟩
 have hq:k / 64=1:=by omega
 have hr:s.add k=⟨s.a,s.b |||1 <<< (k % 64)⟩:=by
  have cA:¬k<64:=by omega
  simp[Bs.add,cA,show k % 64=k-64 by omega]
 have e2:=Iq hb aN;have l1:s.b |||1 <<< (k % 64)<2 ^ 64:=Nat.or_lt_two_pow hb aN;rw[hr];rw[hq]at q1;generalize hy:1 <<< (k % 64)=y at *;generalize hw:s.b |||y=w at *;refine zf true 0 Tryz.func114 Tryz.ntmps114 ?_;dsimp only[Tmp,TypeId,ax];refine aH ?_;simp -dsimp only[simprocAttr,↓aa,zp,Bs.al,Bs.aw];refine av ?_;refine aH ?_;simp -dsimp only[simprocAttr,↓aa,zp,q1,q2,Ts,if_false,e1,e2]
 repeat(refine⟨by omega,?_⟩)
 refine⟨ob (by kernel_rfl),?_⟩;refine av ?_;refine aB (av ?_);refine ak ?_;simp -dsimp only[simprocAttr,↓aa,zp,zr,Tryz.results114];exact⟨⟨trivial,trivial,trivial⟩,rfl⟩
namespace Bs
theorem HC(s t:Bs)(k:Nat):(s.meet t).has k=(s.has k&&t.has k):=by
 unfold has meet;split<;>simp[Nat.testBit_and]
theorem has_add(s:Bs)(j k:Nat)(hj:j<128)(hk:k<128):(s.add j).has k=(s.has k ||decide (k=j)):=by
 unfold has add;by_cases h1:j<64<;>by_cases h2:k<64
 ·simp only[h1,h2,if_true,Nat.testBit_or,Nat.one_shiftLeft,Nat.testBit_two_pow];congr 1;apply decide_eq_decide.2;omega
 ·simp only[h1,h2,if_true,if_false];have:¬k=j:=by omega
  simp[this]
 ·simp only[h1,h2,if_true,if_false];have:¬k=j:=by omega
  simp[this]
 simp only[h1,h2,if_false,Nat.testBit_or,Nat.one_shiftLeft,Nat.testBit_two_pow];congr 1;apply decide_eq_decide.2;omega
theorem Au{s t:Bs}(h:s.fit):(s.meet t).fit:=⟨Nat.lt_of_le_of_lt Nat.and_le_left h.1,Nat.lt_of_le_of_lt Nat.and_le_left h.2⟩
theorem pf{s:Bs}(h:s.fit){k:Nat}(hk:k<128):(s.add k).fit:=by
 unfold add;split
 ·refine⟨Nat.or_lt_two_pow h.1 ?_,h.2⟩;rw[Nat.one_shiftLeft];exact Nat.pow_lt_pow_right (by omega) (by assumption)
 refine⟨h.1,Nat.or_lt_two_pow h.2 ?_⟩;rw[Nat.one_shiftLeft];exact Nat.pow_lt_pow_right (by omega) (by omega)
theorem oG:none.fit:=⟨by decide,by decide⟩
theorem ext{s t:Bs}(hs:s.fit)(ht:t.fit)(h:∀k,k<128->s.has k=t.has k):s=t:=by
 obtain⟨a,b⟩:=s;obtain⟨c,d⟩:=t;obtain⟨s1,s2⟩:=hs;obtain⟨t1,t2⟩:=ht;simp only at s1 s2 t1 t2;have aN:∀{m k:Nat},m<2 ^ 64->64<=k->m.testBit k=false:=fun hm hk=>Nat.testBit_lt_two_pow (Nat.lt_of_lt_of_le hm (Nat.pow_le_pow_right (by omega) hk));congr 1
 ·apply Nat.eq_of_testBit_eq;intro k;by_cases hk:k<64
  ·have:=h k (by omega);simpa[has,hk]using this
  rw[aN s1 (by omega),aN t1 (by omega)]
 apply Nat.eq_of_testBit_eq;intro k;by_cases hk:k<64
 ·have:=h (k+64) (by omega);simpa[has,show ¬k+64<64 by omega]using this
 rw[aN s2 (by omega),aN t2 (by omega)]
def size(s:Bs):Nat:=(List.range 128).countP s.has
theorem countP_le{p q:Nat->Bool}(h:∀k,k<128->p k=true->q k=true):∀n≤128,(List.range n).countP p<=(List.range n).countP q
 | 0,_=>by simp
 | n+1,hn=>by
  have ih:=countP_le h n (by omega);rw[List.range_succ,List.countP_append,List.countP_append];have:[n].countP p<=[n].countP q:=by
   simp only[List.countP_singleton];by_cases hp:p n=true
   ·simp[hp,h n (by omega) hp]
   simp[hp]
  omega
theorem sl{p q:Nat->Bool}(h:∀k,k<128->p k=true->q k=true){j:Nat}(hq:q j=true)(hp:p j=false):∀n≤128,j<n->(List.range n).countP p<(List.range n).countP q
 | 0,_,hj=>by omega
 | n+1,hn,hj=>by
  rw[List.range_succ,List.countP_append,List.countP_append];by_cases e:j=n
  ·subst e;have:=countP_le h j (by omega);simp only[List.countP_singleton,hq,hp];simp;omega
  have ih:=sl h hq hp n (by omega) (by omega);have:[n].countP p<=[n].countP q:=by
   simp only[List.countP_singleton];by_cases zK:p n=true
   ·simp[zK,h n (by omega) zK]
   simp[zK]
  omega
theorem MJ{s t:Bs}(hs:s.fit)(ht:t.fit)(h:∀k,k<128->s.has k=true->t.has k=true)(cA:s≠t):s.size<t.size:=by
 by_cases bq:∀k,k<128->t.has k=true->s.has k=true
 ·exfalso;apply cA;apply ext hs ht;intro k hk;cases h1:s.has k<;>cases h2:t.has k
  ·rfl
  ·exact absurd (bq k hk h2) (by simp[h1])
  ·exact absurd (h k hk h1) (by simp[h2])
  rfl
 obtain⟨j,hj,h2,h1⟩:∃j,j<128∧t.has j=true∧¬s.has j=true:=by
  refine Classical.byContradiction fun q=>bq fun k hk h2=>?_;refine Classical.byContradiction fun h1=>q ⟨k,hk,h2,h1⟩
 exact sl h h2 (by simpa using h1) 128 (Nat.le_refl _) hj
theorem tr(s:Bs):s.size<=128:=by
 have:=List.countP_le_length (p:=s.has) (l:=List.range 128);simpa[size]using this
end Bs
structure Ds where
 over:List Bs
 seen:Bs
 again:Bool
def Ds.at_(S:Ds)(k:Nat):Bs:=S.over[k]?.getD .none
def nV(k:Nat)(S:Ds)(e:Edge):Ds :=
 let next:=((S.at_ e.block.toNat).meet (S.at_ k)).add e.block.toNat
 if next≠S.at_ e.block.toNat∨S.seen.has e.block.toNat=false then⟨S.over.set e.block.toNat next,S.seen.add e.block.toNat,true⟩else S
def wM(k:Nat)(S:Ds)(b:Block):Ds:=if S.seen.has k=false then S else b.term.to.foldl (nV k) S
def tG:Nat->Ds->List Block->Ds
 | _,S,[]=>S
 | k,S,b::r=>tG (k+1) (wM k S b) r
def uZ(f:Func):Nat->Ds->Ds
 | 0,S=>S
 | n+1,S=>if S.again then uZ f n (tG 0 ⟨S.over,S.seen,false⟩ f.blocks)else S
def zQ:Nat->Bs
 | 0=>.none
 | n+1=>(zQ n).add n
def yr(f:Func):Ds:=⟨(List.replicate f.blocks.length (zQ f.blocks.length)).set 0 (Bs.none.add 0),Bs.none.add 0,true⟩
def yp(f:Func):List Bs×Bs:=((uZ f 20000 (yr f)).over,(uZ f 20000 (yr f)).seen)
structure nU(n:Nat)(S:Ds):Prop where
 By:n<=128
 len:S.over.length=n
 fit:∀s∈S.over,s.fit
 seen:S.seen.fit
 self:∀k,k<n->(S.at_ k).has k=true
def Ds.weight(S:Ds):Nat:=(S.over.map Bs.size).sum+(128-S.seen.size)
theorem nU.yb{n:Nat}{S:Ds}(h:nU n S)(k:Nat):(S.at_ k).fit:=by
 unfold Ds.at_;cases hk:S.over[k]? with
 | none=>exact Bs.oG
 | some s=>exact h.fit s (List.mem_of_getElem? hk)
theorem MK{l:List Nat}{k x y:Nat}(h:l[k]?=some y):(l.set k x).sum+y=l.sum+x:=by
 induction l generalizing k with
 | nil=>simp at h
 | cons a r ih =>
  cases k with
  | zero =>
   simp only[List.getElem?_cons_zero,Option.some.injEq]at h;simp only[List.set_cons_zero,List.sum_cons];omega
  | succ k =>
   have:=ih (k:=k) (by simpa using h);simp only[List.set_cons_succ,List.sum_cons];omega
theorem DD{n:Nat}{S:Ds}(h:nU n S){k:Nat}{e:Edge}(QK:0<=e.block)(zG:e.block.toNat<n):nU n (nV k S e)∧(nV k S e).weight<=S.weight∧((nV k S e).again=true->S.again=true∨(nV k S e).weight<S.weight):=by
 have hj:e.block.toNat<128:=Nat.lt_of_lt_of_le zG h.By;unfold nV;simp only;generalize e.block.toNat=j at *;have VE:=h.yb j;have rA:(((S.at_ j).meet (S.at_ k)).add j).fit:=Bs.pf (Bs.Au VE) hj;have nY:∀i,i<128->(((S.at_ j).meet (S.at_ k)).add j).has i=true->(S.at_ j).has i=true:=fun i hi q=>by
  rw[Bs.has_add _ _ _ hj hi,Bs.HC]at q;by_cases e:i=j
  ·subst e;exact h.self i zG
  simp[e]at q;exact q.1
 have wq:S.over[j]?=some (S.at_ j):=by
  have:j<S.over.length:=by rw[h.len];exact zG
  simp[Ds.at_,this]
 split
 ·rename_i hc;refine⟨⟨h.By,by simp[h.len],fun s hs=>?_,Bs.pf h.seen hj,fun i hi=>?_⟩,?_⟩
  ·rcases List.mem_or_eq_of_mem_set hs with q|q
   ·exact h.fit s q
   rw[q];exact rA
  ·unfold Ds.at_;by_cases e:i=j
   ·subst e;rw[List.getElem?_set_self (by rw[h.len];exact hi)];simp only[Option.getD_some];rw[Bs.has_add _ _ _ hj hj];simp
   rw[List.getElem?_set_ne (Ne.symm e)];exact h.self i hi
  have qo:=MK (l:=S.over.map Bs.size) (k:=j) (x:=(((S.at_ j).meet (S.at_ k)).add j).size) (y:=(S.at_ j).size) (by simp[wq]);rw[<-List.map_set]at qo;have hle:(((S.at_ j).meet (S.at_ k)).add j).size<=(S.at_ j).size:=Bs.countP_le nY 128 (Nat.le_refl _);have wx:S.seen.size<=(S.seen.add j).size:=Bs.countP_le (fun i hi q=>by rw[Bs.has_add _ _ _ hj hi,q];rfl) 128 (Nat.le_refl _);have ha:=Bs.tr (S.seen.add j);have aN:(((S.at_ j).meet (S.at_ k)).add j).size<(S.at_ j).size∨S.seen.size<(S.seen.add j).size:=by
   rcases hc with hc|hc
   ·exact .inl (Bs.MJ rA VE nY hc)
   refine .inr (Bs.sl (fun i hi q=>by rw[Bs.has_add _ _ _ hj hi,q];rfl) (j:=j) ?_ hc 128 (Nat.le_refl _) hj);rw[Bs.has_add _ _ _ hj hj];simp
  simp only[Ds.weight];refine⟨by omega,fun _=>.inr (by omega)⟩
 exact⟨h,Nat.le_refl _,fun q=>.inl q⟩
theorem DE{n:Nat}{k:Nat}:∀(l:List Edge) {S:Ds},nU n S->(∀e∈l,0<=e.block∧e.block.toNat<n)->nU n (l.foldl (nV k) S)∧(l.foldl (nV k) S).weight<=S.weight∧((l.foldl (nV k) S).again=true->S.again=true∨(l.foldl (nV k) S).weight<S.weight)
 | [],S,h,_=>⟨h,Nat.le_refl _,fun q=>.inl q⟩
 | e::r,S,h,he=>by
  obtain⟨a1,a2,a3⟩:=DD (k:=k) h (he e (by simp)).1 (he e (by simp)).2;obtain⟨b1,b2,b3⟩:=DE r a1 (fun x hx=>he x (by simp[hx]));simp only[List.foldl_cons];refine⟨b1,by omega,fun q=>?_⟩;rcases b3 q with q|q
  ·rcases a3 q with q|q
   ·exact .inl q
   exact .inr (by omega)
  exact .inr (by omega)
theorem DC{n:Nat}{k:Nat}{b:Block}{S:Ds}(h:nU n S)(he:∀e∈b.term.to,0<=e.block∧e.block.toNat<n):nU n (wM k S b)∧(wM k S b).weight<=S.weight∧((wM k S b).again=true->S.again=true∨(wM k S b).weight<S.weight):=by
 unfold wM;split
 ·exact⟨h,Nat.le_refl _,fun q=>.inl q⟩
 exact DE _ h he
theorem yq{n:Nat}:∀(l:List Block) {k:Nat} {S:Ds},nU n S->(∀b∈l,∀e∈b.term.to,0<=e.block∧e.block.toNat<n)->nU n (tG k S l)∧(tG k S l).weight<=S.weight∧((tG k S l).again=true->S.again=true∨(tG k S l).weight<S.weight)
 | [],k,S,h,_=>⟨h,Nat.le_refl _,fun q=>.inl q⟩
 | b::r,k,S,h,he=>by
  obtain⟨a1,a2,a3⟩:=DC (k:=k) h (he b (by simp));obtain⟨b1,b2,b3⟩:=yq r (k:=k+1) a1 (fun x hx=>he x (by simp[hx]));simp only[tG];refine⟨b1,by omega,fun q=>?_⟩;rcases b3 q with q|q
  ·rcases a3 q with q|q
   ·exact .inl q
   exact .inr (by omega)
  exact .inr (by omega)
end Go.Proofs.YtkkookchlddbkaaGreat
