/-
  Texts bound together by a program of mine: YtakdmelemfnmdaaAvr, YtakdmelemfnmdaaAvu, YtakdmelemfnmdaaAvya, YtakdmelemfnmdaaAvl, YtakdmelemfnmdaaAvm, YtjdnhamngpafmaaGreatTab, YtjdnhamngpafmaaGreatPa, YtjdnhamngpafmaaGreatPb, YtjdnhamngpafmaaGreatPm, YtjdnhamngpafmaaGreatPr, YtakdmelemfnmdaaAvn, YtakdmelemfnmdaaAvo, YtakdmelemfnmdaaAvq, YtakdmelemfnmdaaAvp, YtakdmelemfnmdaaAvs, YtakdmelemfnmdaaAvt, YtakdmelemfnmdaaAvz, YtakdmelemfnmdaaAvw, YtjdnhamngpafmaaGreatPd, YtjdnhamngpafmaaGreatPdz, YtjdnhamngpafmaaGreatPe, YtjdnhamngpafmaaGreatT1, YtjdnhamngpafmaaGreatT2, YtjdnhamngpafmaaGreatT3, YtjdnhamngpafmaaGreatT30, YtjdnhamngpafmaaGreatPo, YtjdnhamngpafmaaGreatT24, YtjdnhamngpafmaaGreatT25, YtjdnhamngpafmaaGreatT4, YtjdnhamngpafmaaGreatT5.
-/
import Derived.Test.YtjdnhamngpafmaaGreatE1
import Derived.ChangeKeysEq
import Derived.Laws.StructEq
import Derived.Laws.IdiomRangeMap
import Derived.Test.YtjdnhamngpafmaaGreatChecked
import Derived.KernelRfl
import Derived.ProofKit
import Derived.Carry
import Derived.SizedLaws
import Derived.Deep.Slices
import Derived.JoinedOf
set_option linter.all false
set_option maxRecDepth 100000
set_option maxHeartbeats 4000000

namespace Go.Av
theorem v8{P:Program}{o:Oper}{σ:St}{op:BinOp}{t t' e:TypeId}{x y:Operand}{x':ae}{b r:Bool}
  (ho:o.op=.binOp op t x y t') (hd:∀d,o.dst=some d->d<σ.n) (ht:P.underlying t=some (.pointer e)) (hx:σ.ev x=some x') (hy:σ.ev y=some (.v (.pointer none)))
  (hb:(x'=.v (.pointer none)∧b=true)∨(∃oa cs,x'=.ip oa cs∧b=false)∨(∃id off,x'=.mp id off∧b=false))
  (hr:(op=.eql∧r=b)∨(op=.neq∧r=!b)):Cert P o σ (.v (.bool r)) .pure :=
 Cert.bL .pure (.inl rfl) hd fun a g _ h _=>by
  have hZ:=h x (by simp[ho,Op.operands]) _ hx;have ey:=(h y (by simp[ho,Op.operands]) _ hy).bZ.1;have ex:∃q:Option Addr,a.eval x=.pointer q∧b=q.isNone:=by
   rcases hb with⟨e1,e2⟩|⟨oa,cs,e1,e2⟩|⟨id,off,e1,e2⟩
   ·subst e1;exact⟨none,hZ.bZ.1,e2⟩
   ·subst e1;obtain⟨bb,off,_,e3,_⟩:=hZ.nX;exact⟨some ⟨bb,off,none⟩,e3,e2⟩
   subst e1;obtain⟨l,o1,_,_,_,e3⟩:=hZ.kO;exact⟨_,e3,e2⟩
  obtain⟨q,ex,eb⟩:=ex;have hg:=cK (P:=P) op t x y (.pointer q) (.pointer none) g.w (by simp) (by simp);refine⟨.bool r,?_,.v trivial⟩;have he:(Op.equal t (.pointer q) (.pointer none)).run P g.w=.ok q.isNone g.w:=by
   have e:∃d,Op.equal t (.pointer q) (.pointer none)=Op.equalIn (d+1) t (.pointer q) (.pointer none):=⟨9999,rfl⟩
   obtain⟨d,e⟩:=e;rw[e];cases q<;>simp[Op.equalIn,Sem.run_bind,run_underlying ht]
  rcases hr with⟨e1,e2⟩|⟨e1,e2⟩<;>subst e1<;>subst e2<;>simp[execOp,ho,ex,ey,hg,binOp,he,eb]
def qz:BinOp->Addr->Addr->Option Bool
 | .eql,a,b=>some (decide (a=b))
 | .neq,a,b=>some (!decide (a=b))
 | _,_,_=>none
theorem zY{P:Program}{o:Oper}{σ:St}{op:BinOp}{t t' e:TypeId}{n:Nat}{x y:Operand}{a b:Addr}{cs ds:List ae}{r:Bool}
  (ho:o.op=.binOp op t x y t') (hd:∀d,o.dst=some d->d<σ.n) (ht:P.underlying t=some (.pointer e)) (hn:∀w,(sizeOf e).run P w=.ok n w) (uO:n≠0) (hx:σ.ev x=some (.ip (some a) cs)) (hy:σ.ev y=some (.ip (some b) ds)) (KL:a.block=b.block)
  (hr:qz op a b=some r):Cert P o σ (.v (.bool r)) .pure :=
 Cert.bL .pure (.inl rfl) hd fun ac g _ h _=>by
  have ex:ac.eval x=.pointer (some a):=by
   obtain⟨b1,off,f,e1,e2,_⟩:=(h x (by simp[ho,Op.operands]) _ hx).nX;rcases e2 with e2|e2
   ·cases e2
   rw[e1,e2]
  have ey:ac.eval y=.pointer (some b):=by
   obtain⟨b1,off,f,e1,e2,_⟩:=(h y (by simp[ho,Op.operands]) _ hy).nX;rcases e2 with e2|e2
   ·cases e2
   rw[e1,e2]
  have hg:=cK (P:=P) op t x y (.pointer (some a)) (.pointer (some b)) g.w (by simp) (by simp);refine⟨.bool r,?_,.v trivial⟩;have he:(Op.equal t (.pointer (some a)) (.pointer (some b))).run P g.w=.ok (decide (a=b)) g.w:=by
   have e0:∃d,Op.equal t (.pointer (some a)) (.pointer (some b))=Op.equalIn (d+1) t (.pointer (some a)) (.pointer (some b)):=⟨9999,rfl⟩
   obtain⟨d,e0⟩:=e0;rw[e0];simp[Op.equalIn,Sem.run_bind,run_underlying ht,hn,uO,sameAddr,KL]
   first
    | rfl
    | exact beq_eq_decide
    | (rw[Bool.eq_iff_iff]
       simp)
  have Da:(op=.eql∧r=decide (a=b))∨(op=.neq∧r=!decide (a=b)):=by
   cases op<;>simp[qz]at hr<;>simp[hr]
  rcases Da with⟨e1,e2⟩|⟨e1,e2⟩<;>subst e1<;>subst e2<;>simp[execOp,ho,ex,ey,hg,binOp,he]
theorem pA{P:Program}{aR:ez}(hT:bT P aR){t e:TypeId}{n:Nat}{ti:b6}(ht:aR t=some ti)(aS:ti.desc=.array n e):P.underlying t=some (.array n e):=by
 obtain⟨_,d,h1,h2⟩:=hT t ti ht;rw[aS]at h2;simp only[rF]at h2;rw[h1,h2]
theorem pI{P:Program}{aR:ez}(hT:bT P aR){o:Oper}{σ:St}{t e:TypeId}{x i:Operand}{ti te:b6}{id off len:Nat}{k:IntKind}{n:Int}
  (ho:o.op=.indexAddr t x i) (hd:∀d,o.dst=some d->d<σ.n) (ht:aR t=some ti) (aS:ti.desc=.array len e) (he:aR e=some te)
  (hx:σ.ev x=some (.mp id off)) (hi:σ.ev i=some (.v (.int k n))) (h0:0<=n) (hn:n<len):Cert P o σ (.mp id (off+n.toNat*te.size)) .pure :=
 Cert.bL .pure (.inl rfl) hd fun a g _ h _=>by
  have ei:=(h i (by simp[ho,Op.operands]) _ hi).bZ.1;have hu:=pA hT ht aS;obtain⟨l,o1,h1,h2,h3,eu⟩:=(h x (by simp[ho,Op.operands]) _ hx).kO;exact⟨.pointer (some ⟨l.block,off+n.toNat*te.size,none⟩),by simp[execOp,ho,ei,eu,Instr.indexAt,Instr.sureAddr,asIntOf,run_underlying hu,h0,hn,(hT e te he).sizeOf,addr_add],.mp h1 h2 h3⟩
theorem ns{P:Program}{aR:ez}(hT:bT P aR){o:Oper}{σ:St}{t e:TypeId}{x i:Operand}{ti te:b6}{len:Nat}{oa:Option Addr}{cs:List ae}{k:IntKind}{n:Int}
  (ho:o.op=.indexAddr t x i) (hd:∀d,o.dst=some d->d<σ.n) (ht:aR t=some ti) (aS:ti.desc=.array len e) (he:aR e=some te)
  (hx:σ.ev x=some (.ip oa cs)) (hi:σ.ev i=some (.v (.int k n))) (h0:0<=n) (hn:n<len):Cert P o σ (.ip none (cs.drop (n.toNat*te.size))) .pure :=
 Cert.bL .pure (.inl rfl) hd fun a g _ h _=>by
  have ei:=(h i (by simp[ho,Op.operands]) _ hi).bZ.1;have hu:=pA hT ht aS;obtain⟨b,off,f,eu,_,df,hm,hr⟩:=(h x (by simp[ho,Op.operands]) _ hx).nX;refine⟨.pointer (some ⟨b,off+n.toNat*te.size,none⟩),by simp[execOp,ho,ei,eu,Instr.indexAt,Instr.sureAddr,asIntOf,run_underlying hu,h0,hn,(hT e te he).sizeOf,addr_add],
   .ip (.inl rfl) (fun c hc=>df c (List.mem_of_mem_drop hc)) (fun j=>f (n.toNat*te.size+j)) (fun j c hj=>?_) (fun j c hj=>?_)⟩
  ·rw[List.getElem?_drop]at hj;have:=hm _ c hj;rw[<-Nat.add_assoc]at this;exact this
  rw[List.getElem?_drop]at hj;exact hr _ c hj
theorem ui{P:Program}{aR:ez}(hT:bT P aR){o:Oper}{σ:St}{t e:TypeId}{parts:Array (Nat×Operand)}{n:Nat}{ti te:b6}{ps:List (Nat×ae)}{cs:List ae}
  (ho:o.op=.build t parts) (hd:∀d,o.dst=some d->d<σ.n) (ht:aR t=some ti) (aS:ti.desc=.array n e) (he:aR e=some te) (xn:σ.eR parts.toList=some ps) (ga:∀p∈ps,p.2.flat)
  (fA:iN (fun i=>some (i*te.size,te.size)) ti.zero ps=some cs):Cert P o σ (.agg cs) .pure :=
 Cert.bL .pure (.inl rfl) hd fun a g _ h _=>by
  have bE:=jO (a:=a) (g:=g) (fun x hx y hy=>h x (by simpa[ho,Op.operands]using hx) y hy) xn ga;obtain⟨⟨i,z,h1,h2,h3,h4,h5,h6,h7,h8,h9⟩,d,LI,UM⟩:=hT t ti ht;have hu:=pA hT ht aS;obtain⟨⟨ie,ze,k1,k2,_⟩,_⟩:=hT e te he;obtain⟨b9,q1,q2,q3⟩:=oI (fun i=>some (i*te.size,te.size)) bE (cs:=ti.zero) (arr:=z.cells) ⟨h5,h8 g⟩ fA;have hb:P.built t (parts.map fun(i,x)=>(i,a.eval x)).toList=some b9:=by
   unfold Program.built;simp only[h1,hu,h4,k1,k2];rw[Array.toList_map];simpa using q1
  have bF:=run_build g.w t _ b9 hb;exact⟨.agg b9,by simp[execOp,ho,bF],q2.agg (q3 h9)⟩
def tM(P:Program)(t:TypeId)(k:IntKind):Prop:=P.eqGuardType P.depth t=false∧∀(w:World) (a0 a1 b0 b1:Int),(Op.equal t (.agg #[.int k a0,.int k a1]) (.agg #[.int k b0,.int k b1])).run P w=.ok (decide (a0=b0)&&decide (a1=b1)) w
theorem q8{P:Program}{e:TypeId}{k:IntKind}(he:P.underlying e=some (.int k))(xs:Array Value)(i:Nat)(u:Value)(hu:xs[i]?=some u)(w:World):(part e xs i).run P w=.ok u w:=by
 simp[part,Go.isAgg,run_underlying he,hu]
theorem yT{P:Program}{t:TypeId}{k:IntKind}(h:∃e i,P.underlying t=some (.array 2 e)∧P.info? e=some i∧i.size=1∧P.underlying e=some (.int k)∧P.eqGuardType P.depth t=false):tM P t k:=by
 obtain⟨e,ie,PC,k1,cH,hu,nt⟩:=h;refine⟨nt,fun w a0 a1 b0 b1=>?_⟩;have hc:P.cellsOf e=1:=by
  simp[Program.cellsOf,k1,cH]
 have e0:∃d,Op.equal t (.agg #[.int k a0,.int k a1]) (.agg #[.int k b0,.int k b1])=Op.equalIn (d+2) t (.agg #[.int k a0,.int k a1]) (.agg #[.int k b0,.int k b1]):=⟨9998,rfl⟩
 obtain⟨d,e0⟩:=e0;rw[e0,run_equalIn_array w (d+1) _ _ PC k1,hc];have hi:∀(p q:Int),(Op.equalIn (d+1) e (.int k p) (.int k q)).run P w=.ok (decide (p=q)) w:=fun p q=>by
  have Zp:(p == q)=decide (p=q):=by
   by_cases hq:p=q
   ·simp[hq]
   simp[hq]
  simp[Op.equalIn,run_underlying hu,Zp]
 have p0:=q8 hu #[.int k a0,.int k a1] 0 (.int k a0) rfl w;have p1:=q8 hu #[.int k a0,.int k a1] 1 (.int k a1) rfl w;have s0:=q8 hu #[.int k b0,.int k b1] 0 (.int k b0) rfl w;have s1:=q8 hu #[.int k b0,.int k b1] 1 (.int k b1) rfl w;show(Op.eqItems (d+1) e 1 _ _ [0,1]).run P w=_;simp only[Op.eqItems,Sem.run_bind,Nat.zero_mul,Nat.one_mul,p0,s0,p1,s1,hi,Result.andThen_ok];by_cases q0:a0=b0
 ·subst q0;simp only[decide_true,Bool.not_true,Bool.false_eq_true,if_false,Bool.true_and,Sem.run_bind,p1,s1,hi,Result.andThen_ok];by_cases q1:a1=b1<;>simp[q1]
 simp[q0]
theorem z6{P:Program}{o:Oper}{σ:St}{op:BinOp}{t t':TypeId}{x y:Operand}{k:IntKind}{a0 a1 b0 b1:Int}{r:Bool}
  (ho:o.op=.binOp op t x y t') (hd:∀d,o.dst=some d->d<σ.n) (hP:tM P t k)
  (hx:σ.ev x=some (.agg [.v (.int k a0),.v (.int k a1)])) (hy:σ.ev y=some (.agg [.v (.int k b0),.v (.int k b1)]))
  (hr:(op=.eql∧r=(decide (a0=b0)&&decide (a1=b1)))∨(op=.neq∧r=!(decide (a0=b0)&&decide (a1=b1)))):Cert P o σ (.v (.bool r)) .pure :=
 Cert.bL .pure (.inl rfl) hd fun ac g _ h _=>by
  obtain⟨nt,cr⟩:=hP;have cells:∀{z:Operand} {c0 c1:Int},z∈o.op.operands->σ.ev z=some (.agg [.v (.int k c0),.v (.int k c1)])->ac.eval z=.agg #[.int k c0,.int k c1]:=fun {z c0 c1} hz xn=>by
   obtain⟨vs,e1,e2,e3⟩:=(h z hz _ xn).x9;rw[e1];congr 1;have e2:vs.size=2:=e2;have h0:vs[0]?=some (vs[0]'(by omega)):=by simp[e2]
   have h1:vs[1]?=some (vs[1]'(by omega)):=by simp[e2]
   have q0:=(e3.2 0 _ _ rfl h0).bZ.1;have q1:=(e3.2 1 _ _ rfl h1).bZ.1;apply Array.ext
   ·simp[e2]
   intro i PW KQ;have:i=0∨i=1:=by
    simp at KQ;omega
   rcases this with rfl|rfl
   ·simpa using q0
   simpa using q1
  have ex:=cells (by simp[ho,Op.operands]) hx;have ey:=cells (by simp[ho,Op.operands]) hy;have hg:=run_eqGuard_agg (P:=P) g.w op t x y #[.int k a0,.int k a1] #[.int k b0,.int k b1] nt;refine⟨.bool r,?_,.v trivial⟩;have KN:=cr g.w a0 a1 b0 b1;rcases hr with⟨e1,e2⟩|⟨e1,e2⟩<;>subst e1<;>subst e2<;>simp[execOp,ho,ex,ey,hg,binOp,KN]
theorem RV.Mv{g:G}{kt:KT}{es:List (Value×ae)}{u:Value}(h:RV g (.im kt es) u):∃(r clk:Nat) (arr:Array MapEntry),u=.map (some r)∧g.w.heap[r]?=some (.map arr clk)∧(∀off,¬iX g r off)∧arr.size=es.length ∧
  (∀(i:Nat) (e:MapEntry) (kx:Value×ae),arr[i]?=some e->es[i]?=some kx->e.key=kx.1∧RV g kx.2 e.val)∧jf arr clk:=by
 cases h with
 | im hh hn hl hk uN hb hr=>exact⟨_,_,_,rfl,hh,hn,hl,fun i e kx a b=>⟨hk i e kx a b,hr i e kx a b⟩,hb⟩
theorem wj{P:Program}{aR:ez}(hT:bT P aR){o:Oper}{σ:St}{t k e:TypeId}{x:Operand}{ti:b6}{kt:KT}{es:List (Value×ae)}
  (ho:o.op=.range t x) (hd:∀d,o.dst=some d->d<σ.n) (ht:aR t=some ti) (aS:ti.desc=.map k e) (hx:σ.ev x=some (.im kt es)) (hf:∀p∈es,gK p.1∧∃y,p.2=.v y) :
  Cert P o σ (.mp σ.objs.length 0) (.write (σ.objs++[.map (.iter none) es])) :=
 Cert.iy hd fun base fw a g bE h iD=>by
  have hO:g.objs=σ.objs:=iD.resolve_left (by simp);have hg:=bE.good;obtain⟨r,clk,arr,ex,hh,hn,hl,hr,hb⟩:=(h x (by simp[ho,Op.operands]) _ hx).Mv;have hle:=Le.alloc hg (.mapIter (some r) clk #[] clk) 0 (.map (.iter none) es);obtain⟨q1,q2⟩:=hle.stay hh hn;have Az:∀(i:Nat) (e:MapEntry),arr[i]?=some e->∃kx,es[i]?=some kx∧gK e.key∧gK e.val∧kx=(e.key,ae.v e.val):=fun i e hi=>by
   have bf:=aU hi;have xm:es[i]?=some (es[i]'(by omega)):=List.getElem?_eq_getElem (by omega);obtain⟨f1,y,f2⟩:=hf _ (List.mem_of_getElem? xm);obtain⟨r1,r2⟩:=hr i e _ hi xm;rw[f2]at r2;obtain⟨v1,v2⟩:=r2.bZ;refine⟨_,xm,by rw[r1];exact f1,by rw[v1];exact v2,?_⟩;rw[r1,v1,<-f2]
  refine⟨.pointer (some ⟨g.w.heap.size,0,none⟩),g.alloc (.mapIter (some r) clk #[] clk) 0 (.map (.iter none) es),.inl ?_,hle,Good.alloc hg _ 0 _ (.inr rfl) ?_,?_,?_⟩
  ·have eJ:(getObj r).run P g.w=.ok (.map arr clk) g.w:=by simp[Go.getObj,Sem.run,hh]
   simp[execOp,ho,ex,Instr.range,run_underlying (l6 hT ht aS),eJ,G.alloc]
  ·show B5 _ none es _;refine⟨r,clk,clk,#[],arr,rfl,q1,q2,hb,fun h=>absurd rfl h,fun i e hi=>?_,?_,fun k x q=>by cases q⟩
   ·obtain⟨_,_,f1,f2,_⟩:=Az i e hi;exact⟨f1,f2⟩
   rw[List.filter_eq_self.2 (fun e _=>by simp)];apply List.ext_getElem?;intro i;have e0:arr.toList[i]?=arr[i]?:=by simp
   rw[List.getElem?_map,e0];cases hi:arr[i]? with
   | none =>
    rw[Option.map_none,List.getElem?_eq_none];have:=Array.getElem?_eq_none_iff.1 hi;omega
   | some e =>
    obtain⟨kx,f1,_,_,f2⟩:=Az i e hi;rw[f1,f2];rfl
  ·simp[G.alloc,hO,Mode.post]
  rw[<-hO];exact .mp (l:=⟨g.w.heap.size,0,_⟩) (hU hg) eH (by simp[ak.aD])
theorem ua{arr:Array MapEntry}{clk:Nat}(h:jf arr clk):(arr.toList.map (·.born)).Nodup:=by
 unfold List.Nodup;rw[List.pairwise_map,List.pairwise_iff_getElem];intro i j hi hj rK;have:=h.1 i j arr.toList[i] arr.toList[j] rK (by simp) (by simp);omega
theorem Cu{P:Program}{o:Oper}{σ:St}{x:Operand}{id:Nat}{k v:Value}{es:List (Value×ae)}
  (ho:o.op=.entry x) (hd:∀d,o.dst=some d->d<σ.n) (hx:σ.ev x=some (.mp id 0)) (mJ:σ.objs[id]?=some (.map (.iter (some (k,v))) es)) :
  Cert P o σ (.cw [.v k,.v v]) (.rd id) :=
 Cert.MB hd fun a g hg h hO=>by
  obtain⟨l,o1,qL,h1,_,ex⟩:=(h x (by simp[ho,Op.operands]) _ hx).kO;obtain⟨l',ob,e1,ix,hh,hm⟩:=hg.map id _ es (by rw[hO];exact mJ);rw[qL]at e1;simp only[Option.some.injEq]at e1;subst e1;obtain⟨m,clk,last,seen,arr,rfl,Uk,hn,hb,AJ,ga,xm,Si⟩:=hm;obtain⟨i,e,hi,xk,hk,hv⟩:=Si k v rfl;have KS:last=clk:=AJ (fun q=>by rw[q]at xk;simp at xk);have hf:arr.find? (·.born == e.born)=some e:=by
   rw[<-Array.find?_toList];exact find_born e arr.toList (ua hb) (by
    have:=Array.mem_of_getElem? hi;simpa using this)
  obtain⟨f1,f2⟩:=ga i e hi;refine⟨.tuple #[e.key,e.val],?_,.cw rfl fun i c u hc hu=>?_⟩
  ·have IF:(getObj l.block).run P g.w=.ok (.mapIter (some m) clk seen last) g.w:=by simp[Go.getObj,Sem.run,hh]
   have IG:(getObj m).run P g.w=.ok (.map arr clk) g.w:=by simp[Go.getObj,Sem.run,Uk]
   simp[execOp,ho,ex,Instr.entry,IF,IG,xk,KS,hf]
  match i,hc,hu with
  | 0,hc,hu =>
   simp at hc hu;subst hc;subst hu;rw[hk];exact .v (by rw[<-hk];exact f1)
  | 1,hc,hu =>
   simp at hc hu;subst hc;subst hu;rw[hv];exact .v (by rw[<-hv];exact f2)
  | i+2,hc,hu=>simp at hc
theorem wK{P:Program}(w:World)(ty:TypeId)(r bm clk last:Nat)(seen:Array Nat)(arr:Array MapEntry)(hr:w.heap[r]?=some (.mapIter (some bm) clk seen last))(hb:w.heap[bm]?=some (.map arr clk))(Et:jf arr clk)(AJ:seen≠#[]->last=clk) :
  ((arr.toList.filter fun e=>!seen.contains e.born)=[]∧(Instr.next (.pointer (some ⟨r,0,none⟩)) false ty).run P w=.ok (.tuple #[.bool false]) w) ∨
  ∃(l1 l2:List MapEntry) (e:MapEntry) (w1:World),(arr.toList.filter fun e=>!seen.contains e.born)=l1++e::l2∧w1.heap=w.heap∧w1.os=w.os∧w1.tape=w.tape∧w1.output=w.output ∧
   (Instr.next (.pointer (some ⟨r,0,none⟩)) false ty).run P w=.ok (.tuple #[.bool true,e.key,e.val]) { w1 with heap:=w.heap.setIfInBounds r (.mapIter (some bm) clk (seen.push e.born) clk) }:=by
 have hold:∀x∈arr.toList,x.born<clk:=fun x hx=>by
  obtain⟨i,hi⟩:=List.mem_iff_getElem?.1 hx;exact Et.2 i x (by simpa using hi)
 have Tx:(!seen.isEmpty&&!arr.isEmpty&&arr.all (fun x=>decide (x.born ≥ last)))=false:=by
  by_cases hs:seen = #[]
  ·subst hs;simp
  rw[AJ hs];exact next_test_false seen arr clk clk hold (Nat.le_refl _)
 have IF:(getObj r).run P w=.ok (.mapIter (some bm) clk seen last) w:=by simp[Go.getObj,Sem.run,hr]
 have IG:(getObj bm).run P w=.ok (.map arr clk) w:=by simp[Go.getObj,Sem.run,hb]
 simp only[Instr.next,IF,IG,Sem.run_bind,Result.andThen_ok,Tx,Bool.false_eq_true,if_false];have hF:(Array.filter (fun e=>!seen.contains e.born) arr).toList=arr.toList.filter fun e=>!seen.contains e.born:=by simp
 have fL:∀x∈(Array.filter (fun e=>!seen.contains e.born) arr).toList,x.born<clk:=fun x hx=>hold x (by simp at hx ⊢;exact hx.1);rw[<-hF];generalize Array.filter (fun e=>!seen.contains e.born) arr=L at fL ⊢;have e1:L.filter (fun x=>decide (x.born<clk))=L:=Array.filter_eq_self.2 (fun x hx=>by simpa using fL x (by simpa using hx));have e2:L.filter (fun x=>decide (x.born ≥ clk)) = #[]:=by
  rw[Array.filter_eq_empty_iff];intro x hx;have:=fL x (by simpa using hx);simp;omega
 simp only[e1,e2,Array.append_empty];by_cases h0:L.size=0
 ·left;have:L = #[]:=Array.eq_empty_of_size_eq_zero h0;subst this;refine⟨rfl,?_⟩;simp[choose,Sem.run,Question.forced]
 right;have cq:L.isEmpty=false:=by simp[Array.isEmpty,h0]
 simp only[cq,Bool.false_eq_true,if_false,Array.empty_append,Array.size_map];have pn:∃(j:Nat) (w1:World),j<L.size∧w1.heap=w.heap∧w1.os=w.os∧w1.tape=w.tape∧w1.output=w.output∧(choose (Question.mapNext L.size)).run P w=.ok j w1:=by
  by_cases hf:L.size<=1
  ·exact⟨0,w,by omega,rfl,rfl,rfl,rfl,by simp[choose,Sem.run,Question.forced,hf]⟩
  exact⟨w.tape w.drawn (Question.mapNext L.size) % L.size,w.drew,Nat.mod_lt _ (by omega),rfl,rfl,rfl,rfl,by
   simp only[choose,Sem.run,Question.forced,decide_eq_true_eq,hf,if_false,Question.cut];rfl⟩
 obtain⟨j,w1,hj,rP,Mr,ZC,ZD,bF⟩:=pn;have gL:∀o',(setObj r o').run P w1=.ok () { w1 with heap:=w1.heap.setIfInBounds r o' }:=fun o'=>by
  simp[Go.setObj,Sem.run,rP,hr]
 refine⟨L.toList.take j,L.toList.drop (j+1),L[j],w1,?_,rP,Mr,ZC,ZD,?_⟩
 ·have h1:L.toList[j]?=some L[j]:=by simp[hj]
  have h2:L.toList.drop j=L[j]::L.toList.drop (j+1):=by
   rw[List.drop_eq_getElem_cons (by simpa using hj)];simp
  rw[<-h2,List.take_append_drop]
 simp only[bF,Array.getElem?_map,Array.getElem?_eq_getElem hj,Option.map_some,Sem.run_bind,gL,Result.andThen_ok,Sem.run_pure,rP]
structure Tag{α:Type}(a:α):Type where
def on{α:Type}(x:Option α)(f:α->Prop)(_t:Tag f:={}):Prop :=
 match x with
 | some y=>f y
 | none=>False
theorem yR{α:Type}(y:α)(f:α->Prop)(t:Tag f):on (some y) f t=f y:=rfl
theorem aE{α:Type}{x:Option α}{f:α->Prop}{t:Tag f}(h:on x f t):∃y,x=some y∧f y:=by
 cases x with
 | none=>exact h.elim
 | some y=>exact⟨y,rfl,h⟩
def wS(p:Unit->Prop)(_t:Tag p:={}):Prop:=p ()
def At(σ:St)(f:St->Prop)(_t:Tag f:={}):Prop:=f σ
theorem a6{σ:St}{f:St->Prop}{t:Tag f}(h:f σ):At σ f t:=h
def pd(b:Bool)(X Y:Unit->Prop)(_t:Tag X:={})(Z3:Tag Y:={}):Prop:=if b then X ()else Y ()
theorem dJ(X Y:Unit->Prop)(t:Tag X)(t':Tag Y):pd true X Y t t'=X ():=rfl
theorem dc(X Y:Unit->Prop)(t:Tag X)(t':Tag Y):pd false X Y t t'=Y ():=rfl
theorem D3{b:Bool}{X Y:Unit->Prop}{t:Tag X}{t':Tag Y}(h:b=true->X ())(k:b=false->Y ()):pd b X Y t t':=by
 cases b
 ·exact k rfl
 exact h rfl
abbrev fS:=ae->Mode->Prop
def isNil:Operand->Bool
 | .const (.slice none 0 0)=>true
 | _=>false
def vK(aR:ez)(ty:TypeId)(x:Operand)(σ:St)(K:fS):Prop :=
 match isNil x with
 | true=>on (aR ty) fun ti=>match ti.desc with
  | .slice e=>on (aR e) fun te=>K (.aA te.size [] .ex) .pure
  | _=>False
 | false=>on (σ.ev x) fun y=>K y .pure
def D5(σ:St)(c x z:Operand)(K:fS):Prop :=
 on (σ.ev c) fun
  | .v (.bool b)=>pd b (fun _=>on (σ.ev x) fun y=>K y .pure) (fun _=>on (σ.ev z) fun y=>K y .pure)
  | _=>False
def ov(aR:ez)(s:TypeId)(k:Nat)(x:ae)(K:fS):Prop :=
 on (aR s) fun ti=>match ti.desc with
  | .struct fs=>on fs[k]? fun f=>on (aR f.2) fun tf=>tf.size≠0 ∧
   match x with
   | .ip oa cs=>K (.ip (oa.map (·.add f.1)) (cs.drop f.1)) .pure
   | .mp id off=>K (.mp id (off+f.1)) .pure
   | _=>False
  | _=>False
def zv(aR:ez)(s:TypeId)(k:Nat)(x:ae)(K:fS):Prop :=
 on (aR s) fun ti=>match ti.desc with
  | .struct fs=>on fs[k]? fun f=>on (aR f.2) fun tf=>match x with
   | .agg cs=>pd tf.desc.agg (fun _=>K (.agg ((cs.drop f.1).take tf.size)) .pure) (fun _=>on cs[f.1]? fun r=>K r .pure)
   | _=>False
  | _=>False
def D4(aR:ez)(O:List ak)(t:TypeId)(x:ae)(K:fS):Prop :=
 on (aR t) fun ti =>
  match x with
  | .ip _ cs=>pd ti.desc.agg (fun _=>ti.size<=cs.length∧K (.agg (cs.take ti.size)) .pure) (fun _=>on cs[0]? fun c=>K c .pure)
  | .mp id off=>on O[id]? fun
   | .cells os=>pd ti.desc.agg (fun _=>off+ti.size<=os.length∧K (.agg ((os.drop off).take ti.size)) (.rd id)) (fun _=>on os[off]? fun c=>K c (.rd id))
   | _=>False
  | _=>False
def zz(aR:ez)(O:List ak)(t:TypeId)(x y:ae)(K:fS):Prop :=
 on (aR t) fun ti =>
  match x with
  | .mp id off=>on O[id]? fun
   | .cells os=>y.flat∧y.cells.length=ti.size∧off+ti.size<=os.length∧K (.v (.bool false)) (.wr O.length [id] (O.set id (.cells (bh os off y.cells))))
   | _=>False
  | _=>False
def ox(aR:ez)(t:TypeId)(x i:ae)(K:fS):Prop :=
 on (aR t) fun ti=>match ti.desc with
  | .slice e=>on (aR e) fun te =>
   match i with
   | .v (.int _ n) =>
    (match x with
    | .aA sz xs ow=>te.size=sz∧0<=n∧on xs[n.toNat]? fun y=>K (.ip (qR ow (n.toNat*te.size)) y.cells) .pure
    | .ms id off len _=>0<=n∧n<len∧K (.mp id (off+n.toNat*te.size)) .pure
    | .os id len _=>0<=n∧n<len∧K (.mp id (n.toNat*te.size)) .pure
    | _=>False)
   | _=>False
  | .array len e=>on (aR e) fun te =>
   match i with
   | .v (.int _ n) =>
    (match x with
    | .mp id off=>0<=n∧n<len∧K (.mp id (off+n.toNat*te.size)) .pure
    | .ip _ cs=>0<=n∧n<len∧K (.ip none (cs.drop (n.toNat*te.size))) .pure
    | _=>False)
   | _=>False
  | _=>False
def ux:BinOp->ByteArray->ByteArray->Option Bool
 | .eql,a,b=>some (decide (a=b))
 | .neq,a,b=>some (!decide (a=b))
 | _,_,_=>none
def qA:BinOp->Bool->Bool->Option Bool
 | .eql,a,b=>some (a == b)
 | .neq,a,b=>some (!(a == b))
 | _,_,_=>none
def E8(op:BinOp)(k:IntKind)(m n:Int)(K:fS):Prop :=
 pd (kG op m n).isSome (fun _=>on (kG op m n) fun b=>K (.v (.bool b)) .pure) (fun _=>on (eA k op m n) fun r=>KZ k<=r∧r<=FX k∧K (.v (.int k r)) .pure)
def jF:BinOp->Bool->Option Bool
 | .eql,b=>some b
 | .neq,b=>some (!b)
 | _,_=>none
def GB:ae->Option Bool
 | .v (.pointer none)=>some true
 | .ip _ _=>some false
 | .mp _ _=>some false
 | _=>none
theorem GC{x:ae}{b:Bool}(h:GB x=some b):(x=.v (.pointer none)∧b=true)∨(∃oa cs,x=.ip oa cs∧b=false)∨(∃id off,x=.mp id off∧b=false):=by
 unfold GB at h;split at h
 ·exact .inl ⟨rfl,by simpa using h.symm⟩
 ·exact .inr (.inl ⟨_,_,rfl,by simpa using h.symm⟩)
 ·exact .inr (.inr ⟨_,_,rfl,by simpa using h.symm⟩)
 cases h
def OU(P:Program)(op:BinOp)(t:TypeId)(x:ae)(K:fS):Prop :=
 (∃e,P.underlying t=some (.pointer e))∧on (GB x) fun b=>on (jF op b) fun r=>K (.v (.bool r)) .pure
def pz(P:Program)(op:BinOp)(t:TypeId)(x y:ae)(K:fS):Prop :=
 match x,y with
 | .v (.int k m),.v (.int k' n)=>pd (dv op) (fun _=>0<=n∧KZ k<=eU k op m n∧eU k op m n<=FX k∧K (.v (.int k (eU k op m n))) .pure) (fun _=>k=k'∧E8 op k m n K)
 | .v (.string a),.v (.string b)=>on (ux op a b) fun r=>K (.v (.bool r)) .pure
 | .v (.bool a),.v (.bool b)=>P.underlying t=some .bool∧on (qA op a b) fun r=>K (.v (.bool r)) .pure
 | x,.v (.pointer none)=>OU P op t x K
 | .ip (some a) _,.ip (some b) _=>(∃e n,P.underlying t=some (.pointer e)∧(∀w,(sizeOf e).run P w=.ok n w)∧n≠0)∧a.block=b.block∧on (qz op a b) fun r=>K (.v (.bool r)) .pure
 | .agg [.v (.int k a0),.v (.int k1 a1)],.agg [.v (.int k2 b0),.v (.int k3 b1)]=>(k1=k∧k2=k∧k3=k∧tM P t k)∧on (jF op (decide (a0=b0)&&decide (a1=b1))) fun r=>K (.v (.bool r)) .pure
 | _,_=>False
def TD.elem:TD->Option TypeId
 | .slice e=>some e
 | _=>none
theorem TD.lS{d:TD}{e:TypeId}(h:d.elem=some e):d=.slice e:=by
 cases d<;>simp[TD.elem]at h;rw[h]
def Dq:ae->Option Bool
 | .v (.slice none 0 0)=>some true
 | .aA _ _ .nn=>some false
 | .ms _ _ _ _=>some false
 | _=>none
def Kz(aR:ez)(op:BinOp)(t:TypeId)(x:ae)(K:fS):Prop :=
 on (aR t) fun ti=>on ti.desc.elem fun _=>on (Dq x) fun b=>on (jF op b) fun r=>K (.v (.bool r)) .pure
def KC(op:UnOp)(x:ae)(K:fS):Prop :=
 match op,x with
 | .not,.v (.bool b)=>K (.v (.bool !b)) .pure
 | .neg,.v (.int k n)=>KZ k<=-n∧-n<=FX k∧K (.v (.int k (-n))) .pure
 | _,_=>False
def G6(σ:St)(p:Option Operand)(CF:Nat)(K:Nat->Prop):Prop :=
 match p with
 | none=>K CF
 | some q=>on (σ.ev q) fun
  | .v (.int _ n)=>0<=n∧K n.toNat
  | _=>False
def BO(sz:Nat)(xs:List ae)(o:m9)(l h:Nat)(K:fS):Prop :=
 match o with
 | .ex=>pd (decide (l=0)&&decide (h=xs.length)) (fun _=>K (.aA sz xs .ex) .pure) (fun _=>K (.aA sz ((xs.take h).drop l) .sh) .pure)
 | _=>K (.aA sz ((xs.take h).drop l) .sh) .pure
theorem D2{sz:Nat}{xs:List ae}{o:m9}{l h:Nat}{K:fS}(k:BO sz xs o l h K):(o=.ex∧l=0∧h=xs.length∧K (.aA sz xs .ex) .pure)∨K (.aA sz ((xs.take h).drop l) .sh) .pure:=by
 unfold BO at k;split at k
 ·by_cases hf:(decide (l=0)&&decide (h=xs.length))=true
  ·rw[hf,dJ]at k;simp only[Bool.and_eq_true,decide_eq_true_eq]at hf;exact .inl ⟨rfl,hf.1,hf.2,k⟩
  rw[show(decide (l=0)&&decide (h=xs.length))=false by simpa using hf,dc]at k;exact .inr k
 exact .inr k
def zy(aR:ez)(σ:St)(t:TypeId)(x:ae)(lo hi mx:Option Operand)(K:fS):Prop :=
 on (aR t) fun ti=>match ti.desc with
  | .slice e=>on (aR e) fun te =>
   match x,mx with
   | .aA sz xs ow,none=>te.size=sz∧G6 σ lo 0 fun l=>G6 σ hi xs.length fun h=>l<=h∧h<=xs.length∧BO sz xs ow l h K
   | .ms id off len cap,none=>G6 σ lo 0 fun l=>G6 σ hi len fun h=>l<=h∧h<=cap∧l<cap∧h<=2 ^ 62∧K (.ms id (off+l*te.size) (h-l) (cap-l)) .pure
   | .raw sz len id,none=>0<len∧G6 σ lo 0 fun l=>G6 σ hi len fun h=>l=0∧h=0∧K (.aA sz [] (.tok id)) .pure
   | .os id len sz,none=>G6 σ lo 0 fun l=>G6 σ hi len fun h=>l=0∧h<=len∧0<len∧K (.os id h sz) .pure
   | _,_=>False
  | _=>False
def mi:List (Nat×ae)->Prop
 | []=>True
 | p::r=>p.2.flat∧mi r
def qk(n:Nat):List ae->Prop
 | []=>True
 | x::r=>x.cells.length=n∧qk n r
def zl(aR:ez)(σ:St)(t:TypeId)(parts:Array (Nat×Operand))(K:fS):Prop :=
 on (aR t) fun ti=>match ti.desc with
  | .struct fs=>on (iT aR fs) fun pl=>on (σ.eR parts.toList) fun ps=>mi ps∧on (iN (fun i=>pl[i]?) ti.zero ps) fun cs=>K (.agg cs) .pure
  | .array _ e=>on (aR e) fun te=>on (σ.eR parts.toList) fun ps=>mi ps∧on (iN (fun i=>some (i*te.size,te.size)) ti.zero ps) fun cs=>K (.agg cs) .pure
  | _=>False
def m7(aR:ez)(σ:St)(t:TypeId)(len:Nat)(parts:Array (Nat×Operand))(K:fS):Prop :=
 on (aR t) fun ti=>match ti.desc with
  | .slice e=>on (aR e) fun te=>on (σ.eR parts.toList) fun ps=>mi ps∧on (gv 0 ps) fun xs=>0<te.size∧xs.length=len∧qk te.size xs∧len*te.size<=2 ^ 24∧K (.aA te.size (xs.map ae.share) .ex) .pure
  | _=>False
structure Md where
 app:Bool
 made:Bool
def oy(mk:Bool)(aR:ez)(O:List ak)(t:TypeId)(x y:ae)(K:fS):Prop :=
 on (aR t) fun ti=>match ti.desc with
  | .slice e=>on (aR e) fun te =>
   match x,y with
   | .v (.int _ n),.v (.int _ n')=>n'=n∧0<=n∧te.bytes*n.toNat<=2 ^ 48∧n.toNat<=2 ^ 62∧0<te.size ∧
     pd mk (fun _=>(te.desc.agg=true∨te.size=1)∧K (.aA te.size (List.replicate n.toNat (zeroOf te).share) .ex) .pure)
      (fun _=>K (.ms O.length 0 n.toNat n.toNat) (.wr O.length [] (O++[.cells (List.replicate n.toNat te.zero).flatten])))
   | _,_=>False
  | _=>False
def Df(P:Program)(k:TypeId):Option KT :=
 match P.underlying k with
 | some .string=>some .str
 | some (.int k)=>some (.int k)
 | _=>none
def vJ(P:Program)(aR:ez)(O:List ak)(t:TypeId)(x y:ae)(ok:Bool)(K:fS):Prop :=
 on (aR t) fun ti=>match ti.desc with
  | .map k e=>on (Df P k) fun kt=>on (aR e) fun te=>(te.desc.agg=true∨te.size=1) ∧
   match y with
   | .v key=>kt.ok key ∧
    (match x with
    | .im TI es=>TI=kt∧K (ll ok (eY es key) (zeroOf te)) .pure
    | .mm id=>on O[id]? fun
     | .map TI es=>TI=kt∧K (ll ok (eY es key) (zeroOf te)) (.rd id)
     | _=>False
    | .v (.map none)=>K (ll ok none (zeroOf te)) .pure
    | _=>False)
   | _=>False
  | _=>False
def jV(P:Program)(aR:ez)(O:List ak)(t:TypeId)(x y v:ae)(K:fS):Prop :=
 on (aR t) fun ti=>match ti.desc with
  | .map k _=>on (Df P k) fun kt =>
   match x,y with
   | .mm id,.v key=>kt.ok key∧on O[id]? fun
    | .map TI es=>TI=kt∧K (.v (.bool false)) (.wr O.length [id] (O.set id (.map kt (gf es key v))))
    | _=>False
   | _,_=>False
  | _=>False
def sd(P:Program)(aR:ez)(O:List ak)(t:TypeId)(K:fS):Prop :=
 on (aR t) fun ti=>match ti.desc with
  | .map k _=>on (Df P k) fun kt=>K (.mm O.length) (.wr O.length [] (O++[.map kt []]))
  | _=>False
def pS:ae->Option Nat
 | .aA _ xs _=>some xs.length
 | .ms _ _ len _=>some len
 | .os _ len _=>some len
 | _=>none
def Kx(aR:ez)(t:TypeId)(x:ae)(K:fS):Prop :=
 on (aR t) fun ti=>on ti.desc.elem fun _=>on (pS x) fun n=>K (.v (.int .i64 n)) .pure
theorem Gh{x:ae}{n:Nat}(h:pS x=some n):(∃sz xs ow,x=.aA sz xs ow∧n=xs.length)∨(∃id off cap,x=.ms id off n cap)∨∃id sz,x=.os id n sz:=by
 cases x<;>simp[pS]at h
 ·exact .inl ⟨_,_,_,rfl,h.symm⟩
 ·subst h;exact .inr (.inl ⟨_,_,_,rfl⟩)
 subst h;exact .inr (.inr ⟨_,_,rfl⟩)
def vH(P:Program)(mk:Bool)(md:Bool)(aR:ez)(O:List ak)(t t':TypeId)(x y:ae)(K:fS):Prop :=
 on (aR t) fun ti=>on ti.desc.elem fun e=>on (aR e) fun te =>
   match x,y with
   | .aA sz xs .ex,.aA TP ys _=>t'=t∧te.size=sz∧TP=sz∧xs.length+ys.length<=2 ^ 62∧(xs.length+ys.length)*te.bytes<=2 ^ 47 ∧
     pd md (fun _=>ys.length≠0∧pd mk (fun _=>K (.os O.length (xs.length+ys.length) sz) (.wr O.length [] (O++[.cells (an (xs++ys.map ae.share))])))
       (fun _=>K (.ms O.length 0 (xs.length+ys.length) (xs.length+ys.length)) (.wr O.length [] (O++[.cells (an (xs++ys.map ae.share))]))))
      (fun _=>K (.aA sz (xs++ys.map ae.share) (.tok O.length)) (.wr O.length [] (O++[.spare (xs.length+ys.length)])))
   | .aA sz xs (.tok id),.aA TP ys _=>t'=t∧te.size=sz∧TP=sz∧O[id]?=some (.spare xs.length)∧xs.length+ys.length<=2 ^ 62∧(xs.length+ys.length)*te.bytes<=2 ^ 47 ∧
     K (.aA sz (xs++ys.map ae.share) (.tok id)) (.wr O.length [id] (O.set id (.spare (xs.length+ys.length))))
   | .aA _ xs .ex,.v (.int k n)=>xs=[]∧k=.i64∧P.underlying t'=some (.int .i64)∧0<n∧n.toNat<=2 ^ 62∧n.toNat*te.bytes<=2 ^ 47∧0<te.size ∧
     pd md (fun _=>K (.raw te.size n.toNat O.length) (.wr O.length [] (O++[.spare 0])))
      (fun _=>K (.ms O.length 0 n.toNat n.toNat) (.wr O.length [] (O++[.cells (List.replicate n.toNat te.zero).flatten])))
   | .ms id off len cap,.aA sz ys _=>t'=t∧te.size=sz∧on O[id]? fun
    | .cells cs=>len+ys.length<=cap∧len+ys.length<=2 ^ 62∧off+(len+ys.length)*sz<=cs.length ∧
     K (.ms id off (len+ys.length) cap) (.wr O.length [id] (O.set id (.cells (bh cs (off+len*sz) (an (ys.map ae.share))))))
    | _=>False
   | .os id len sz,.aA TP ys _=>t'=t∧te.size=sz∧TP=sz∧on O[id]? fun
    | .cells cs=>len*sz<=cs.length∧ys.length≠0∧len+ys.length<=2 ^ 62∧(len+ys.length)*te.bytes<=2 ^ 47 ∧
     K (.os O.length (len+ys.length) sz) (.wr O.length [id] (O.set id .gone++[.cells (cs.take (len*sz)++an (ys.map ae.share))]))
    | _=>False
   | _,_=>False
def HA:ae->Option Nat
 | .aA _ xs .ex=>some xs.length
 | _=>none
theorem Fq{x:ae}{n:Nat}(h:HA x=some n):∃sz xs,x=.aA sz xs .ex∧n=xs.length:=by
 unfold HA at h;split at h
 ·exact⟨_,_,rfl,by simpa using h.symm⟩
 cases h
def Kw(aR:ez)(t:TypeId)(x:ae)(K:fS):Prop :=
 on (aR t) fun ti=>on ti.desc.elem fun _=>on (HA x) fun n=>K (.v (.int .i64 n)) .pure
def zn(aR:ez)(O:List ak)(t:TypeId)(x:ae)(K:fS):Prop :=
 on (aR t) fun ti=>on ti.desc.elem fun e=>on (aR e) fun te=>match x with
  | .ms id off len _=>on O[id]? fun
   | .cells cs=>0<len∧0<te.size∧off+len*te.size<=cs.length∧K (.cw []) (.wr O.length [id] (O.set id (.cells (bh cs off (List.replicate len te.zero).flatten))))
   | _=>False
  | _=>False
def KB(x y:ae)(K:fS):Prop :=
 match x,y with
 | .v (.int .i64 m),.v (.int .i64 n)=>K (.v (.int .i64 (max m n))) .pure
 | _,_=>False
def Ky(x y:ae)(K:fS):Prop :=
 match x,y with
 | .v (.int .i64 m),.v (.int .i64 n)=>K (.v (.int .i64 (min m n))) .pure
 | _,_=>False
theorem HP{P:Program}{o:Oper}{σ:St}{rm:Array TypeId}{x y:Operand}{m n:Int}
  (ho:o.op=.call ⟨.builtin .max,#[x,y],rm⟩) (hd:∀d,o.dst=some d->d<σ.n) (hx:σ.ev x=some (.v (.int .i64 m))) (hy:σ.ev y=some (.v (.int .i64 n))):Cert P o σ (.v (.int .i64 (max m n))) .pure :=
 Cert.bL .pure (.inl rfl) hd fun a g _ h _=>by
  obtain⟨ex,fx⟩:=(h x (by simp[ho,Op.operands,Call.operands]) _ hx).bZ;obtain⟨ey,fy⟩:=(h y (by simp[ho,Op.operands,Call.operands]) _ hy).bZ;refine⟨.int .i64 (max m n),?_,.v ?_⟩
  ·rw[cJ ho];have e:(if n > m then n else m)=max m n:=by
    split<;>omega
   simp[builtin,Builtin.max_,Builtin.max2,ex,ey,e]
  rcases Int.le_total m n with q|q
  ·rw[Int.max_eq_right q];exact fy
  rw[Int.max_eq_left q];exact fx
theorem HL{P:Program}{o:Oper}{σ:St}{rm:Array TypeId}{x y:Operand}{m n:Int}
  (ho:o.op=.call ⟨.builtin .min,#[x,y],rm⟩) (hd:∀d,o.dst=some d->d<σ.n) (hx:σ.ev x=some (.v (.int .i64 m))) (hy:σ.ev y=some (.v (.int .i64 n))):Cert P o σ (.v (.int .i64 (min m n))) .pure :=
 Cert.bL .pure (.inl rfl) hd fun a g _ h _=>by
  obtain⟨ex,fx⟩:=(h x (by simp[ho,Op.operands,Call.operands]) _ hx).bZ;obtain⟨ey,fy⟩:=(h y (by simp[ho,Op.operands,Call.operands]) _ hy).bZ;refine⟨.int .i64 (min m n),?_,.v ?_⟩
  ·rw[cJ ho];have e:(if n<m then n else m)=min m n:=by
    split<;>omega
   simp[builtin,Builtin.min_,Builtin.min2,ex,ey,e]
  rcases Int.le_total m n with q|q
  ·rw[Int.min_eq_left q];exact fx
  rw[Int.min_eq_right q];exact fy
def zm(P:Program)(O:List ak)(f:ae)(dC:List ae)(K:fS):Prop :=
 match f with
 | .fn (.func id) fs cs =>
  (∃r,bA P id ((fs++dC++cs).map ae.share) r∧av 0 ((fs++dC++cs).map ae.share)∧wS fun _=>K r .pure) ∨
  (∃r O',(bd P id O (fs++dC++cs) fun r' O1=>r'=r∧O1=O')∧((wS fun _=>K r (.write O'))∨∃n l,(∀i,i<n->i ∉ l->O'[i]?=O[i]?)∧wS fun _=>K r (.wr n l O'))) ∨
  (∃r,(bd P id O (fs++dC++cs) fun r' O1=>r'=r∧O1=O)∧wS fun _=>K r .read)
 | _=>False
def dQ(P:Program)(aR:ez)(md:Md)(dst:Option Nat)(σ:St)(callee:Callee)(args:List Operand)(rm:List TypeId)(K:fS):Prop :=
 match callee with
 | .value f=>on (σ.ev f) fun f=>on (σ.Aq args) fun dC=>zm P σ.objs f dC K
 | .builtin .len =>
  (match args,rm with
  | [x],[t]=>on (σ.ev x) fun x=>Kx aR t x K
  | _,_=>False)
 | .builtin .append =>
  (match args,rm with
  | [x,y],[t,t']=>on (σ.ev x) fun x=>on (σ.ev y) fun y=>vH P md.made md.app aR σ.objs t t' x y K
  | _,_=>False)
 | .builtin .cap =>
  (match args,rm with
  | [x],[t]=>on (σ.ev x) fun x=>Kw aR t x K
  | _,_=>False)
 | .builtin .clear =>
  (match args,rm with
  | [x],[t]=>dst=none∧on (σ.ev x) fun x=>zn aR σ.objs t x K
  | _,_=>False)
 | .builtin .max =>
  (match args with
  | [x,y]=>on (σ.ev x) fun x=>on (σ.ev y) fun y=>KB x y K
  | _=>False)
 | .builtin .min =>
  (match args with
  | [x,y]=>on (σ.ev x) fun x=>on (σ.ev y) fun y=>Ky x y K
  | _=>False)
 | _=>False
def kX(y:ae)(K:fS):Prop :=
 match y with
 | .mp id off=>K (.mp id off) .pure
 | .ip oa cs=>K (.ip oa cs) .pure
 | _=>False
def La:ae->Option (List (Value×ae))
 | .im _ es=>some es
 | _=>none
theorem Ff{x:ae}{es:List (Value×ae)}(h:La x=some es):∃kt,x=.im kt es:=by
 unfold La at h;split at h
 ·simp only[Option.some.injEq]at h;subst h;exact⟨_,rfl⟩
 cases h
def TD.maps:TD->Option (TypeId×TypeId)
 | .map k e=>some (k,e)
 | _=>none
theorem TD.Gj{d:TD}{p:TypeId×TypeId}(h:d.maps=some p):d=.map p.1 p.2:=by
 unfold TD.maps at h;split at h
 ·simp only[Option.some.injEq]at h;subst h;rfl
 cases h
def zw(aR:ez)(O:List ak)(t:TypeId)(x:ae)(K:fS):Prop :=
 on (aR t) fun ti=>on ti.desc.maps fun _=>on (La x) fun es=>(∀p∈es,gK p.1∧∃y,p.2=.v y)∧K (.mp O.length 0) (.wr O.length [] (O++[.map (.iter none) es]))
def tC:ak->Option (Value×Value)
 | .map (.iter c) _=>c
 | _=>none
theorem yL{o:ak}{c:Value×Value}(h:tC o=some c):∃es,o=.map (.iter (some c)) es:=by
 unfold tC at h;split at h
 ·subst h;exact⟨_,rfl⟩
 cases h
def Lb:ae->Option Nat
 | .mp id 0=>some id
 | _=>none
theorem Fg{x:ae}{id:Nat}(h:Lb x=some id):x=.mp id 0:=by
 unfold Lb at h;split at h
 ·simp only[Option.some.injEq]at h;rw[h]
 cases h
def zo(O:List ak)(x:ae)(K:fS):Prop:=on (Lb x) fun id=>on O[id]? fun ob=>on (tC ob) fun c=>K (.cw [.v c.1,.v c.2]) (.rd id)
def KA(P:Program)(aR:ez)(md:Md)(o:Oper)(σ:St)(K:fS):Prop :=
 match o.op with
 | .move x=>vK aR o.type x σ K
 | .assign x=>vK aR o.type x σ K
 | .pick c x z=>D5 σ c x z K
 | .fieldAddr s x k=>on (σ.ev x) fun x=>ov aR s k x K
 | .field s x k=>on (σ.ev x) fun x=>zv aR s k x K
 | .load t x=>on (σ.ev x) fun x=>D4 aR σ.objs t x K
 | .store t x y=>o.dst=none∧on (σ.ev x) fun x=>on (σ.ev y) fun y=>zz aR σ.objs t x y K
 | .indexAddr t x i=>on (σ.ev x) fun x=>on (σ.ev i) fun i=>ox aR t x i K
 | .binOp op t x y _=>pd (isNil y) (fun _=>on (σ.ev x) fun x=>Kz aR op t x K) (fun _=>on (σ.ev x) fun x=>on (σ.ev y) fun y=>pz P op t x y K)
 | .unOp op _ x=>on (σ.ev x) fun x=>KC op x K
 | .slice t x lo hi mx=>on (σ.ev x) fun x=>zy aR σ t x lo hi mx K
 | .build t parts=>zl aR σ t parts K
 | .buildSlice t len parts=>m7 aR σ t len parts K
 | .alloc t=>on (aR t) fun ti=>K (.mp σ.objs.length 0) (.wr σ.objs.length [] (σ.objs++[.cells ti.zero]))
 | .box _ x=>on (σ.ev x) fun y=>y.flat∧K (.mp σ.objs.length 0) (.wr σ.objs.length [] (σ.objs++[.cells y.cells]))
 | .makeMap t none=>sd P aR σ.objs t K
 | .makeSlice t x y=>on (σ.ev x) fun x=>on (σ.ev y) fun y=>oy md.made aR σ.objs t x y K
 | .makeFunc f first captured=>on (σ.Aq first.toList) fun fs=>on (σ.Aq captured.toList) fun cs=>K (.fn f fs cs) .pure
 | .lookup t x y ok=>on (σ.ev x) fun x=>on (σ.ev y) fun y=>vJ P aR σ.objs t x y ok K
 | .mapUpdate t x y v=>o.dst=none∧on (σ.ev x) fun x=>on (σ.ev y) fun y=>on (σ.ev v) fun v=>jV P aR σ.objs t x y v K
 | .insert t x y v=>o.dst=none∧on (σ.ev x) fun x=>on (σ.ev y) fun y=>on (σ.ev v) fun v=>jV P aR σ.objs t x y v K
 | .extract x k=>on (σ.ev x) fun
  | .cw cs=>on cs[k]? fun r=>K r .pure
  | _=>False
 | .call c=>dQ P aR md o.dst σ c.callee c.args.toList c.argTypes.toList K
 | .nilCheck x=>on (σ.ev x) fun y=>kX y K
 | .range t x=>on (σ.ev x) fun x=>zw aR σ.objs t x K
 | .entry x=>on (σ.ev x) fun x=>zo σ.objs x K
 | _=>False
theorem ec{O X:List ak}:∀i,i<O.length->i ∉ ([]:List Nat)->(O++X)[i]?=O[i]?:=fun _ hi _=>List.getElem?_append_left hi
theorem lW{O:List ak}{id:Nat}{x:ak}:∀i,i<O.length->i ∉ [id]->(O.set id x)[i]?=O[i]?:=fun i _ hl=>List.getElem?_set_ne (fun e=>hl (by simp[e]))
theorem Ge{O:List ak}{id:Nat}{x y:ak}:∀i,i<O.length->i ∉ [id]->(O.set id x++[y])[i]?=O[i]?:=fun i hi hl=>by
 rw[List.getElem?_append_left (by simpa using hi)];exact List.getElem?_set_ne (fun e=>hl (by simp[e]))
theorem Dd{x:Operand}(hn:isNil x=true):x=.const (.slice none 0 0):=by
 unfold isNil at hn;split at hn
 ·rfl
 cases hn
theorem Gs{y:ae}{b:Bool}(h:Dq y=some b):(y=.v (.slice none 0 0)∧b=true)∨(∃sz xs,y=.aA sz xs .nn∧b=false)∨(∃id off len cap,y=.ms id off len cap∧b=false):=by
 unfold Dq at h;split at h
 ·exact .inl ⟨rfl,by simpa using h.symm⟩
 ·exact .inr (.inl ⟨_,_,rfl,by simpa using h.symm⟩)
 ·exact .inr (.inr ⟨_,_,_,_,rfl,by simpa using h.symm⟩)
 cases h
theorem mS{op:BinOp}{b r:Bool}(h:jF op b=some r):(op=.eql∧r=b)∨(op=.neq∧r=!b):=by
 unfold jF at h;split at h
 ·exact .inl ⟨rfl,by simpa using h.symm⟩
 ·exact .inr ⟨rfl,by simpa using h.symm⟩
 cases h
theorem rj{P:Program}{aR:ez}{o:Oper}{σ:St}{x:Operand}{K:fS}(ho:o.op=.move x∨o.op=.assign x)(hd:∀d,o.dst=some d->d<σ.n)(h:vK aR o.type x σ K):∃r m,Cert P o σ r m∧K r m:=by
 unfold vK at h;cases hn:isNil x with
 | true =>
  have hx:x=.const (.slice none 0 0):=by
   unfold isNil at hn;split at hn
   ·rfl
   cases hn
  subst hx;simp only[hn]at h;obtain⟨ti,_,h⟩:=aE h;split at h
  ·obtain⟨te,_,h⟩:=aE h;exact⟨_,_,HN te.size ho hd,h⟩
  exact h.elim
 | false =>
  simp only[hn]at h;obtain⟨y,hy,h⟩:=aE h;exact⟨_,_,Fv ho hd hy,h⟩
theorem oQ{P:Program}{k:TypeId}{kt:KT}(h:Df P k=some kt):∃d,P.underlying k=some d∧kt.desc d:=by
 unfold Df at h;split at h
 ·simp only[Option.some.injEq]at h;subst h;exact⟨_,by assumption,rfl⟩
 ·simp only[Option.some.injEq]at h;subst h;exact⟨_,by assumption,rfl⟩
 cases h
theorem kf:∀{l:List (Nat×ae)},mi l->∀p∈l,p.2.flat
 | [],_,p,hp=>by cases hp
 | q::r,h,p,hp=>by
  rcases List.mem_cons.1 hp with e|e
  ·subst e;exact h.1
  exact kf h.2 p e
theorem ql{n:Nat}:∀{l:List ae},qk n l->∀x∈l,x.cells.length=n
 | [],_,p,hp=>by cases hp
 | q::r,h,p,hp=>by
  rcases List.mem_cons.1 hp with e|e
  ·subst e;exact h.1
  exact ql h.2 p e
theorem jL{σ:St}{p:Option Operand}{CF:Nat}{K:Nat->Prop}(h:G6 σ p CF K):∃n,nH σ p CF n∧K n:=by
 unfold G6 at h;split at h
 ·exact⟨CF,.inl ⟨rfl,rfl⟩,h⟩
 rename_i q;obtain⟨y,hy,h⟩:=aE h;split at h
 ·rename_i k n;obtain⟨h1,h2⟩:=h;exact⟨n.toNat,.inr ⟨q,k,rfl,by rw[Int.toNat_of_nonneg h1];exact hy⟩,h2⟩
 exact h.elim
theorem BP{P:Program}{o:Oper}{σ:St}{op:BinOp}{t t':TypeId}{x y:Operand}{k:IntKind}{m n:Int}{K:fS}(ho:o.op=.binOp op t x y t')(hd:∀d,o.dst=some d->d<σ.n)(hx:σ.ev x=some (.v (.int k m)))(hy:σ.ev y=some (.v (.int k n)))
  (h:E8 op k m n K):∃r m,Cert P o σ r m∧K r m:=by
 unfold E8 at h;cases PG:kG op m n with
 | some b =>
  simp only[PG,Option.isSome_some,dJ,yR]at h;exact⟨_,_,zX ho hd hx hy PG,h⟩
 | none =>
  simp only[PG,Option.isSome_none,dc]at h;obtain⟨r,hr,h1,h2,h⟩:=aE h;rw[yM]at h1;rw[yE]at h2;exact⟨_,_,vZ ho hd hx hy hr h1 h2,h⟩
theorem vL{P:Program}{aR:ez}{md:Md}(hT:bT P aR){o:Oper}{σ:St}{K:fS}(hd:∀d,o.dst=some d->d<σ.n)(h:KA P aR md o σ K):∃r m,Cert P o σ r m∧K r m:=by
 unfold KA at h;split at h
 case h_1 x ho=>exact rj (.inl ho) hd h
 case h_2 x ho=>exact rj (.inr ho) hd h
 case h_3 c x z ho =>
  unfold D5 at h;obtain⟨y,hy,h⟩:=aE h;split at h
  ·rename_i b;cases b
   ·rw[dc]at h;obtain⟨r,hr,h⟩:=aE h;exact⟨_,_,wZ ho hd hy (by simp) (fun _=>hr),h⟩
   rw[dJ]at h;obtain⟨r,hr,h⟩:=aE h;exact⟨_,_,wZ ho hd hy (fun _=>hr) (by simp),h⟩
  exact h.elim
 case h_4 s x k ho =>
  obtain⟨y,hy,h⟩:=aE h;unfold ov at h;obtain⟨ti,ht,h⟩:=aE h;split at h
  ·rename_i fs aS;obtain⟨f,hf,h⟩:=aE h;obtain⟨tf,Ty,hz,h⟩:=aE h;split at h
   ·exact⟨_,_,qv hT ho hd ht aS hf Ty hz hy,h⟩
   ·exact⟨_,_,qw hT ho hd ht aS hf Ty hz hy,h⟩
   exact h.elim
  exact h.elim
 case h_5 s x k ho =>
  obtain⟨y,hy,h⟩:=aE h;unfold zv at h;obtain⟨ti,ht,h⟩:=aE h;split at h
  ·rename_i fs aS;obtain⟨f,hf,h⟩:=aE h;obtain⟨tf,Ty,h⟩:=aE h;split at h
   ·cases eM:tf.desc.agg with
    | true =>
     simp only[eM,dJ]at h;exact⟨_,_,um hT ho hd ht aS hf Ty hy (by rw[if_pos eM]),h⟩
    | false =>
     simp only[eM,dc]at h;obtain⟨r,hr,h⟩:=aE h;exact⟨_,_,um hT ho hd ht aS hf Ty hy (by rw[if_neg (by simp[eM])];exact hr),h⟩
   exact h.elim
  exact h.elim
 case h_6 t x ho =>
  obtain⟨y,hy,h⟩:=aE h;unfold D4 at h;obtain⟨ti,ht,h⟩:=aE h;split at h
  ·cases eM:ti.desc.agg with
   | true =>
    simp only[eM,dJ]at h;exact⟨_,_,yj hT ho hd ht hy eM h.1,h.2⟩
   | false =>
    simp only[eM,dc]at h;obtain⟨c,hc,h⟩:=aE h;exact⟨_,_,wg hT ho hd ht hy eM hc,h⟩
  ·obtain⟨os,Ra,h⟩:=aE h;split at h
   ·cases eM:ti.desc.agg with
    | true =>
     simp only[eM,dJ]at h;exact⟨_,_,yk hT ho hd ht hy Ra eM h.1,h.2⟩
    | false =>
     simp only[eM,dc]at h;obtain⟨c,hc,h⟩:=aE h;exact⟨_,_,wh hT ho hd ht hy Ra eM hc,h⟩
   exact h.elim
  exact h.elim
 case h_7 t x y ho =>
  obtain⟨iZ,h⟩:=h;obtain⟨x',hx,h⟩:=aE h;obtain⟨y',hy,h⟩:=aE h;unfold zz at h;obtain⟨ti,ht,h⟩:=aE h;split at h
  ·obtain⟨os,Ra,h⟩:=aE h;split at h
   ·obtain⟨h1,h2,h3,h⟩:=h;exact⟨_,_,(Cz hT ho iZ ht hx Ra hy h1 h2 h3).close lW,h⟩
   exact h.elim
  exact h.elim
 case h_8 t x i ho =>
  obtain⟨x',hx,h⟩:=aE h;obtain⟨i',hi,h⟩:=aE h;unfold ox at h;obtain⟨ti,ht,h⟩:=aE h;split at h
  ·rename_i e aS;obtain⟨te,he,h⟩:=aE h;split at h
   ·split at h
    ·obtain⟨h1,h2,h⟩:=h;obtain⟨y,h3,h⟩:=aE h;exact⟨_,_,pJ hT ho hd ht aS he h1 hx hi h2 h3,h⟩
    ·obtain⟨h1,h2,h⟩:=h;exact⟨_,_,qx hT ho hd ht aS he hx hi h1 h2,h⟩
    ·obtain⟨h1,h2,h⟩:=h;exact⟨_,_,qy hT ho hd ht aS he hx hi h1 h2,h⟩
    exact h.elim
   exact h.elim
  ·rename_i len e aS;obtain⟨te,he,h⟩:=aE h;split at h
   ·split at h
    ·obtain⟨h1,h2,h⟩:=h;exact⟨_,_,pI hT ho hd ht aS he hx hi h1 h2,h⟩
    ·obtain⟨h1,h2,h⟩:=h;exact⟨_,_,ns hT ho hd ht aS he hx hi h1 h2,h⟩
    exact h.elim
   exact h.elim
  exact h.elim
 case h_9 op t x y t' ho =>
  cases hn:isNil y with
  | true =>
   simp only[hn,dJ]at h;have hy:=Dd hn;subst hy;obtain⟨x',hx,h⟩:=aE h;unfold Kz at h;obtain⟨ti,ht,h⟩:=aE h;obtain⟨e,aS,h⟩:=aE h;obtain⟨b,hb,h⟩:=aE h;obtain⟨r,hr,h⟩:=aE h;exact⟨_,_,z7 hT ho hd ht (TD.lS aS) hx (Gs hb) (mS hr),h⟩
  | false =>
  simp only[hn,dc]at h;obtain⟨x',hx,h⟩:=aE h;obtain⟨y',hy,h⟩:=aE h;unfold pz at h;split at h
  ·cases hs:dv op with
   | true =>
    simp only[hs,dJ]at h;obtain⟨h0,h1,h2,h⟩:=h;rw[yM]at h1;rw[yE]at h2;exact⟨_,_,wk ho hd hx hy hs h0 h1 h2,h⟩
   | false =>
    simp only[hs,dc]at h;obtain⟨hk,h⟩:=h;subst hk;exact BP ho hd hx hy h
  ·obtain⟨r,hr,h⟩:=aE h;refine⟨_,_,we ho hd hx hy ?_,h⟩;cases op<;>simp[ux]at hr<;>simp[hr]
  ·obtain⟨hb,h⟩:=h;obtain⟨r,hr,h⟩:=aE h;refine⟨_,_,zZ ho hd hb hx hy ?_,h⟩;cases op<;>simp[qA]at hr<;>simp[hr]
  ·obtain⟨⟨e,he⟩,h⟩:=h;obtain⟨b,hb,h⟩:=aE h;obtain⟨r,hr,h⟩:=aE h;exact⟨_,_,v8 ho hd he hx hy (GC hb) (mS hr),h⟩
  ·obtain⟨⟨e,n,he,hn,uO⟩,KL,h⟩:=h;obtain⟨r,hr,h⟩:=aE h;exact⟨_,_,zY ho hd he hn uO hx hy KL hr,h⟩
  ·obtain⟨⟨k1,k2,k3,hP⟩,h9⟩:=h;obtain⟨r,hr,h8⟩:=aE h9;subst k1;subst k2;subst k3;exact⟨_,_,z6 ho hd hP hx hy (mS hr),h8⟩
  exact h.elim
 case h_10 op t x ho =>
  obtain⟨x',hx,h⟩:=aE h;unfold KC at h;split at h
  ·exact⟨_,_,HO ho hd hx,h⟩
  ·obtain⟨h1,h2,h⟩:=h;rw[yM]at h1;rw[yE]at h2;exact⟨_,_,HM ho hd hx h1 h2,h⟩
  exact h.elim
 case h_11 t x lo hi mx ho =>
  obtain⟨x',hx,h⟩:=aE h;unfold zy at h;obtain⟨ti,ht,h⟩:=aE h;split at h
  ·rename_i e aS;obtain⟨te,he,h⟩:=aE h;split at h
   ·obtain⟨h1,h⟩:=h;obtain⟨l,hl,h⟩:=jL h;obtain⟨hh,o8,h2,h3,h⟩:=jL h;rcases D2 h with⟨e1,e2,e3,hq⟩|hq
    ·subst e1;subst e2;subst e3;exact⟨_,_,s6 hT ho hd ht aS he hx hl o8,hq⟩
    exact⟨_,_,Cy hT ho hd ht aS he h1 hx hl o8 h2 h3,hq⟩
   ·obtain⟨l,hl,h⟩:=jL h;obtain⟨hh,o8,h2,h3,h4,h5,h⟩:=jL h;exact⟨_,_,wm hT ho hd ht aS he hx hl o8 h2 h3 h4 h5,h⟩
   ·obtain⟨h1,h⟩:=h;obtain⟨l,hl,hq⟩:=jL h;obtain⟨hh,o8,h2,h3,hz⟩:=jL hq;subst h2;subst h3;exact⟨_,_,uu hT ho hd ht aS he hx hl o8 h1,hz⟩
   ·obtain⟨l,hl,hq⟩:=jL h;obtain⟨hh,o8,h2,h3,h4,hz⟩:=jL hq;subst h2;exact⟨_,_,wo hT ho hd ht aS he hx hl o8 h3 h4,hz⟩
   exact h.elim
  exact h.elim
 case h_12 t parts ho =>
  unfold zl at h;obtain⟨ti,ht,h⟩:=aE h;split at h
  ·rename_i fs aS;obtain⟨pl,wz,h⟩:=aE h;obtain⟨ps,qO,ga,h⟩:=aE h;obtain⟨cs,fA,h⟩:=aE h;exact⟨_,_,Cs hT ho hd ht aS wz qO (kf ga) fA,h⟩
  ·rename_i n e aS;obtain⟨te,he,h⟩:=aE h;obtain⟨ps,qO,ga,h⟩:=aE h;obtain⟨cs,fA,h⟩:=aE h;exact⟨_,_,ui hT ho hd ht aS he qO (kf ga) fA,h⟩
  exact h.elim
 case h_13 t len parts ho =>
  unfold m7 at h;obtain⟨ti,ht,h⟩:=aE h;split at h
  ·rename_i e aS;obtain⟨te,he,h⟩:=aE h;obtain⟨ps,qO,ga,h⟩:=aE h;obtain⟨xs,u7,h1,h2,h3,h4,h⟩:=aE h;exact⟨_,_,sX hT ho hd ht aS he h1 qO (kf ga) u7 h2 (ql h3) h4,h⟩
  exact h.elim
 case h_14 t ho =>
  obtain⟨ti,ht,h⟩:=aE h;exact⟨_,_,(Cr hT ho hd ht).close ec,h⟩
 case h_15 t x ho =>
  obtain⟨y,hy,hf,h⟩:=aE h;exact⟨_,_,(HJ ho hd hy hf).close ec,h⟩
 case h_16 t ho =>
  unfold sd at h;obtain⟨ti,ht,h⟩:=aE h;split at h
  ·obtain⟨kt,uN,h⟩:=aE h;exact⟨_,_,(yl kt (KT.mv (oQ uN).choose_spec.2) ho hd).close ec,h⟩
  exact h.elim
 case h_17 t x y ho =>
  obtain⟨x',hx,h⟩:=aE h;obtain⟨y',hy,h⟩:=aE h;unfold oy at h;obtain⟨ti,ht,h⟩:=aE h;split at h
  ·rename_i e aS;obtain⟨te,he,h⟩:=aE h;split at h
   ·obtain⟨e1,h1,h2,h3,h4,hq⟩:=h;subst e1;by_cases P4:md.made=true
    ·rw[P4,dJ]at hq;exact⟨_,_,sZ hT ho hd ht aS he hx hy h1 h2 h3 h4 hq.1,hq.2⟩
    rw[show md.made=false by simpa using P4,dc]at hq;exact⟨_,_,(ur hT ho hd ht aS he hx hy h1 h2 h3 h4).close ec,hq⟩
   exact h.elim
  exact h.elim
 case h_18 f first captured ho =>
  obtain⟨fs,Vn,h⟩:=aE h;obtain⟨cs,fA,h⟩:=aE h;exact⟨_,_,wi ho hd Vn fA,h⟩
 case h_19 t x y ok ho =>
  obtain⟨x',hx,h⟩:=aE h;obtain⟨y',hy,h⟩:=aE h;unfold vJ at h;obtain⟨ti,ht,h⟩:=aE h;split at h
  ·rename_i k e aS;obtain⟨kt,uN,h⟩:=aE h;obtain⟨d,hk,uM⟩:=oQ uN;obtain⟨te,he,cH,h⟩:=aE h;split at h
   ·obtain⟨gi,h⟩:=h;split at h
    ·obtain⟨e1,hq⟩:=h;subst e1;exact⟨_,_,uo hT ho hd ht aS hk uM he cH hx hy gi,hq⟩
    ·obtain⟨es,xm,h⟩:=aE h;split at h
     case h_2=>exact h.elim
     obtain⟨e1,hq⟩:=h;subst e1;exact⟨_,_,uq hT ho hd ht aS hk uM he cH hx xm hy gi,hq⟩
    ·exact⟨_,_,sY hT ho hd ht aS hk uM he cH hx hy,h⟩
    exact h.elim
   exact h.elim
  exact h.elim
 case h_20 t x y v ho =>
  obtain⟨iZ,h⟩:=h;obtain⟨x',hx,h⟩:=aE h;obtain⟨y',hy,h⟩:=aE h;obtain⟨v',hv,h⟩:=aE h;unfold jV at h;obtain⟨ti,ht,h⟩:=aE h;split at h
  ·rename_i k e aS;obtain⟨kt,uN,h⟩:=aE h;obtain⟨d,hk,uM⟩:=oQ uN;split at h
   ·obtain⟨gi,h⟩:=h;obtain⟨es,xm,h⟩:=aE h;split at h
    ·obtain⟨e1,hq⟩:=h;subst e1;exact⟨_,_,(nI hT (.inl ho) iZ ht aS hk uM hx xm hy gi hv).close lW,hq⟩
    exact h.elim
   exact h.elim
  exact h.elim
 case h_21 t x y v ho =>
  obtain⟨iZ,h⟩:=h;obtain⟨x',hx,h⟩:=aE h;obtain⟨y',hy,h⟩:=aE h;obtain⟨v',hv,h⟩:=aE h;unfold jV at h;obtain⟨ti,ht,h⟩:=aE h;split at h
  ·rename_i k e aS;obtain⟨kt,uN,h⟩:=aE h;obtain⟨d,hk,uM⟩:=oQ uN;split at h
   ·obtain⟨gi,h⟩:=h;obtain⟨es,xm,h⟩:=aE h;split at h
    ·obtain⟨e1,hq⟩:=h;subst e1;exact⟨_,_,(nI hT (.inr ho) iZ ht aS hk uM hx xm hy gi hv).close lW,hq⟩
    exact h.elim
   exact h.elim
  exact h.elim
 case h_22 x k ho =>
  obtain⟨x',hx,h⟩:=aE h;split at h
  ·obtain⟨r,hr,h⟩:=aE h;exact⟨_,_,yi ho hd hx hr,h⟩
  exact h.elim
 case h_23 c ho =>
  obtain⟨callee,args,rm⟩:=c;simp only at h;unfold dQ at h;split at h
  ·obtain⟨f',hf,h⟩:=aE h;obtain⟨dC,has,h⟩:=aE h;unfold zm at h;split at h
   ·rcases h with⟨r,h1,h2,h⟩|⟨r,O',h1,h|⟨n,l,hk,h⟩⟩|⟨r,h1,h⟩
    ·exact⟨_,_,Cv ho hd hf has h1 h2,h⟩
    ·exact⟨_,_,uj ho hd hf has h1,h⟩
    ·exact⟨_,_,(uj ho hd hf has h1).close hk,h⟩
    exact⟨_,_,Cw ho hd hf has h1,h⟩
   exact h.elim
  ·split at h
   ·rename_i x t e1 e2;have ea:args = #[x]:=Array.toList_inj.1 e1;have et:rm = #[t]:=Array.toList_inj.1 e2;subst ea;subst et;obtain⟨x',hx,h⟩:=aE h;unfold Kx at h;obtain⟨ti,ht,h⟩:=aE h;obtain⟨e,aS,h⟩:=aE h;obtain⟨n,hn,h⟩:=aE h;exact⟨_,_,HK hT ho hd ht (TD.lS aS) hx (Gh hn),h⟩
   exact h.elim
  ·split at h
   ·rename_i x y t t' e1 e2;have ea:args = #[x,y]:=Array.toList_inj.1 e1;have et:rm = #[t,t']:=Array.toList_inj.1 e2;subst ea;subst et;obtain⟨x',hx,h⟩:=aE h;obtain⟨y',hy,h⟩:=aE h;unfold vH at h;obtain⟨ti,ht,h⟩:=aE h;obtain⟨e,aS,h⟩:=aE h;have aS:=TD.lS aS;obtain⟨te,he,h⟩:=aE h;split at h
    ·obtain⟨h0,h1,h2,h3,h4,hq⟩:=h;subst h0;subst h2;by_cases SY:md.app=true
     ·rw[SY,dJ]at hq;obtain⟨Td,Uu⟩:=hq;cases P4:md.made with
      | true =>
       rw[P4,dJ]at Uu;exact⟨_,_,(qu hT ho hd ht aS he h1 hx hy Td h3 h4).close ec,Uu⟩
      | false =>
       rw[P4,dc]at Uu;exact⟨_,_,(sU hT ho hd ht aS he h1 hx hy Td h3 h4).close ec,Uu⟩
     rw[show md.app=false by simpa using SY,dc]at hq;exact⟨_,_,(uf hT ho hd ht aS he h1 hx hy h3 h4).close ec,hq⟩
    ·obtain⟨h0,h1,h2,h3,h4,h5,hq⟩:=h;subst h0;subst h2;exact⟨_,_,(sW hT ho hd ht aS he h1 hx hy h3 h4 h5).close lW,hq⟩
    ·obtain⟨h0,h1,h2,h3,h4,h5,h6,hq⟩:=h;subst h0;subst h1;cases SY:md.app with
     | true =>
      rw[SY,dJ]at hq;exact⟨_,_,(sV hT ho hd ht aS he h2 hx hy h3 h4 h5 h6).close ec,hq⟩
     | false =>
      rw[SY,dc]at hq;exact⟨_,_,(rA hT ho hd ht aS he h2 hx hy h3 h4 h5 h6).close ec,hq⟩
    ·obtain⟨h0,h1,hq⟩:=h;subst h0;obtain⟨o1,mI,hq⟩:=aE hq;split at hq
     ·obtain⟨h2,h3,h4,hq⟩:=hq;exact⟨_,_,(ug hT ho hd ht aS he h1 hx mI hy h2 h3 h4).close lW,hq⟩
     exact hq.elim
    ·obtain⟨h0,h1,h2,hq⟩:=h;subst h0;subst h2;obtain⟨o1,mI,hq⟩:=aE hq;split at hq
     ·obtain⟨h3,h4,h5,h6,hq⟩:=hq;exact⟨_,_,(uh hT ho hd ht aS he h1 hx mI hy h3 h4 h5 h6).close Ge,hq⟩
     exact hq.elim
    exact h.elim
   exact h.elim
  ·split at h
   ·rename_i x t e1 e2;have ea:args = #[x]:=Array.toList_inj.1 e1;have et:rm = #[t]:=Array.toList_inj.1 e2;subst ea;subst et;obtain⟨x',hx,h⟩:=aE h;unfold Kw at h;obtain⟨ti,ht,h⟩:=aE h;obtain⟨e,aS,h⟩:=aE h;obtain⟨n,hn,h⟩:=aE h;obtain⟨sz,xs,e3,e4⟩:=Fq hn;subst e3;subst e4;exact⟨_,_,Ct hT ho hd ht (TD.lS aS) hx,h⟩
   exact h.elim
  ·split at h
   ·rename_i x t e1 e2;have ea:args = #[x]:=Array.toList_inj.1 e1;have et:rm = #[t]:=Array.toList_inj.1 e2;subst ea;subst et;obtain⟨iZ,h⟩:=h;obtain⟨x',hx,h⟩:=aE h;unfold zn at h;obtain⟨ti,ht,h⟩:=aE h;obtain⟨e,aS,h⟩:=aE h;obtain⟨te,he,h⟩:=aE h;split at h
    ·obtain⟨o1,mI,h⟩:=aE h;split at h
     ·obtain⟨h2,h3,h4,h⟩:=h;exact⟨_,_,(v7 hT ho iZ ht (TD.lS aS) he hx mI h2 h3 h4).close lW,h⟩
     exact h.elim
    exact h.elim
   exact h.elim
  ·split at h
   ·rename_i x y e1;have ea:args = #[x,y]:=Array.toList_inj.1 e1;subst ea;obtain⟨x',hx,h⟩:=aE h;obtain⟨y',hy,h⟩:=aE h;unfold KB at h;split at h
    ·exact⟨_,_,HP ho hd hx hy,h⟩
    exact h.elim
   exact h.elim
  ·split at h
   ·rename_i x y e1;have ea:args = #[x,y]:=Array.toList_inj.1 e1;subst ea;obtain⟨x',hx,h⟩:=aE h;obtain⟨y',hy,h⟩:=aE h;unfold Ky at h;split at h
    ·exact⟨_,_,HL ho hd hx hy,h⟩
    exact h.elim
   exact h.elim
  exact h.elim
 case h_24 x ho =>
  obtain⟨y,hy,h⟩:=aE h;unfold kX at h;split at h
  ·exact⟨_,_,pj ho hd hy (.inl ⟨_,_,rfl⟩),h⟩
  ·exact⟨_,_,pj ho hd hy (.inr ⟨_,_,rfl⟩),h⟩
  exact h.elim
 case h_25 t x ho =>
  obtain⟨y,hy,h⟩:=aE h;unfold zw at h;obtain⟨ti,ht,h⟩:=aE h;obtain⟨p,hp,h⟩:=aE h;obtain⟨es,he,h⟩:=aE h;obtain⟨kt,rfl⟩:=Ff he;exact⟨_,_,(wj hT ho hd ht (TD.Gj hp) hy h.1).close ec,h.2⟩
 case h_26 x ho =>
  obtain⟨y,hy,h⟩:=aE h;unfold zo at h;obtain⟨id,fK,h⟩:=aE h;obtain⟨os,Ra,h⟩:=aE h;obtain⟨c,hc,h⟩:=aE h;obtain⟨es,rfl⟩:=yL hc;rw[Fg fK]at hy;exact⟨_,_,Cu ho hd hy Ra,h⟩
 case h_27=>exact h.elim
def HZ(d:Option Nat)(n:Nat):Prop :=
 match d with
 | some d=>d<n
 | none=>True
def iV:List (Nat×Nat)->Nat->Option Nat
 | [],_=>none
 | (k,d)::r,j=>if k=j then some d else iV r j
def lb(i:Nat)(d:Option Nat)(ds:List (Nat×Nat)):List (Nat×Nat) :=
 match d with
 | some d=>(i,d)::ds
 | none=>ds
def Rv(σ:St)(f:St->Prop)(_t:Tag f:={}):Prop:=f σ
theorem Qo(n:Nat)(s:List (Nat×ae))(O:List ak)(f:St->Prop)(t:Tag f):Rv ⟨n,s,O⟩ f t=f ⟨n,s,O⟩:=rfl
def dR(P:Program)(aR:ez)(md:Md):List Oper->Nat->List (Nat×Nat)->St->List Kind->(St->List Kind->Prop)->Prop
 | [],_,_,σ,ks,K=>K σ ks
 | o::r,i,ds,σ,ks,K=>HZ o.dst σ.n ∧
  match o.guard with
  | none=>KA P aR md o σ fun x m=>Rv ⟨σ.n,pc o.dst x σ.bn,m.post σ.objs⟩ fun τ=>dR P aR md r (i+1) (lb i o.dst ds) τ (m.kind::ks) K
  | some (j,want)=>on (iV ds j) fun t=>on (σ.get t) fun
   | .v (.bool b)=>pd (b == want)
    (fun _=>KA P aR md o ⟨σ.n,bw t (.v (.bool want)) σ.bn,σ.objs⟩ fun x m=>Rv ⟨σ.n,pc o.dst x (bw t (.v (.bool want)) σ.bn),m.post σ.objs⟩ fun τ=>dR P aR md r (i+1) (lb i o.dst ds) τ (m.kind::ks) K)
    (fun _=>Rv ⟨σ.n,qE σ.n o.dst (bw t (.v (.bool !want)) σ.bn),σ.objs⟩ fun τ=>dR P aR md r (i+1) (lb i o.dst ds) τ (.pure::ks) K)
   | .cw []=>Rv ⟨σ.n,qE σ.n o.dst σ.bn,σ.objs⟩ fun τ=>dR P aR md r (i+1) (lb i o.dst ds) τ (.pure::ks) K
   | _=>False
theorem B8{all:Array Oper}{i:Nat}{o:Oper}(ho:all[i]?=some o){ds:List (Nat×Nat)}(h:∀j t,iV ds j=some t->(all[j]?).bind (·.dst)=some t):∀j t,iV (lb i o.dst ds) j=some t->(all[j]?).bind (·.dst)=some t:=by
 intro j t hj;cases hd:o.dst with
 | none =>
  rw[hd]at hj;exact h j t hj
 | some d =>
  rw[hd]at hj;simp only[lb,iV]at hj;split at hj
  ·rename_i e;subst e;simp only[Option.some.injEq]at hj;subst hj;simp[ho,hd]
  exact h j t hj
theorem BD{σ:St}{t:Nat}{x:ae}(h:σ.get t=some x):gQ ⟨σ.n,bw t x σ.bn,σ.objs⟩ σ:=by
 refine⟨rfl,rfl,fun s=>?_⟩;simp only[St.get,fP];split
 ·rename_i e;subst e;exact h.symm
 rfl
theorem mr{P:Program}{ops:Array Oper}:∀{l l':List (Nat×Kind)} {σ τ ρ:St},eO P ops l σ τ->eO P ops l' τ ρ->eO P ops (l++l') σ ρ
 | [],_,_,_,_,h,k=>k.same h.symm
 | (i,q)::r,_,_,_,_,h,k=>by
  obtain⟨fw,h1,h2⟩:=h;exact⟨fw,h1,mr h2 k⟩
theorem ef{P:Program}{aR:ez}{md:Md}(hT:bT P aR){all:Array Oper}{K:St->List Kind->Prop}:∀(l:List Oper) (k:Nat) (ds:List (Nat×Nat)) (σ:St) (ks:List Kind),(∀j,l[j]?=all[k+j]?)->(∀j t,iV ds j=some t->(all[j]?).bind (·.dst)=some t)->dR P aR md l k ds σ ks K ->
  ∃(τ:St) (sA:List Kind),eO P all (sA.zipIdx k |>.map fun p=>(p.2,p.1)) σ τ∧sA.length=l.length∧K τ (sA.reverse++ks)
 | [],k,_,σ,ks,_,_,h=>⟨σ,[],gQ.refl σ,rfl,h⟩
 | o::r,k,ds,σ,ks,hl,tw,h=>by
  obtain⟨hd,h⟩:=h;have W5:∀d,o.dst=some d->d<σ.n:=fun d e=>by
   rw[e]at hd;exact hd
  have ho:all[k]?=some o:=by
   have:=hl 0;simpa using this.symm
  have LX:=B8 ho tw;have hr:∀j,r[j]?=all[k+1+j]?:=fun j=>by
   have:=hl (j+1);rw[show k+1+j=k+(j+1) by omega];simpa using this
  cases hg:o.guard with
  | none =>
   simp only[hg]at h;obtain⟨x,m,hc,h⟩:=vL hT W5 h;obtain⟨τ,sA,h1,h2,h3⟩:=ef hT r (k+1) _ _ _ hr LX h;refine⟨τ,m.kind::sA,?_,by simp[h2],by simpa using h3⟩;simp only[List.zipIdx_cons,List.map_cons];exact⟨_,⟨o,ho,.inl ⟨by simp[cU,hg],x,m,hc,rfl,rfl⟩⟩,h1⟩
  | some p =>
   obtain⟨j,want⟩:=p;simp only[hg]at h;obtain⟨t,Rh,h⟩:=aE h;have ht:=tw j t Rh;obtain⟨y,hy,h⟩:=aE h;split at h
   ·rename_i b;by_cases hb:b=want
    ·rw[show(b == want)=true by simp[hb],dJ]at h;have hs:=BD (hb ▸ hy);obtain⟨x,m,hc,h⟩:=vL hT (σ:=⟨σ.n,bw t (.v (.bool want)) σ.bn,σ.objs⟩) W5 h;obtain⟨τ,sA,h1,h2,h3⟩:=ef hT r (k+1) _ _ _ hr LX h;refine⟨τ,m.kind::sA,?_,by simp[h2],by simpa using h3⟩;simp only[List.zipIdx_cons,List.map_cons];have fo:lx P all k m.kind ⟨σ.n,bw t (.v (.bool want)) σ.bn,σ.objs⟩ (St.put ⟨σ.n,bw t (.v (.bool want)) σ.bn,σ.objs⟩ o.dst x (m.post σ.objs)) :=
      ⟨o,ho,.inl ⟨by simp[cU,hg,ht,St.get,fP],x,m,hc,rfl,rfl⟩⟩
     obtain⟨fw,q1,q2⟩:=fo.same hs;exact⟨fw,q1,h1.same q2⟩
    rw[show(b == want)=false by simp[hb],dc]at h;have CV:b=!want:=by cases b<;>cases want<;>simp_all
    have hs:=BD (CV ▸ hy);obtain⟨τ,sA,h1,h2,h3⟩:=ef hT r (k+1) _ _ _ hr LX h;refine⟨τ,.pure::sA,?_,by simp[h2],by simpa using h3⟩;simp only[List.zipIdx_cons,List.map_cons];have fo:lx P all k .pure ⟨σ.n,bw t (.v (.bool !want)) σ.bn,σ.objs⟩ (St.skip ⟨σ.n,bw t (.v (.bool !want)) σ.bn,σ.objs⟩ o.dst) :=
     ⟨o,ho,.inr ⟨by cases want<;>simp[cU,hg,ht,St.get,fP],rfl,rfl⟩⟩
    obtain⟨fw,q1,q2⟩:=fo.same hs;exact⟨fw,q1,h1.same q2⟩
   ·obtain⟨τ,sA,h1,h2,h3⟩:=ef hT r (k+1) _ _ _ hr LX h;refine⟨τ,.pure::sA,?_,by simp[h2],by simpa using h3⟩;simp only[List.zipIdx_cons,List.map_cons];exact⟨_,⟨o,ho,.inr ⟨by simp[cU,hg,ht,hy],rfl,rfl⟩⟩,h1⟩
   exact h.elim
def du(ops:Array Oper)(ks:List Kind):Prop:=oc ops ks=true
def fW(draw:Bool)(p:Unit->Prop)(_t:Tag p:={}):Prop:=draw=true->p ()
theorem Af(p:Unit->Prop)(t:Tag p):fW false p t=True:=by simp[fW]
theorem CH(p:Unit->Prop)(t:Tag p):fW true p t=p ():=by simp[fW]
theorem gk{P:Program}{kb:Nat}{aR:ez}(md:Md)(hT:bT P aR)(hm:P.follows .mixedOrders=true){id:Nat}{l:List Oper}{draw:Bool}{Q:dt->St->Prop}{σ:St}
  (h:dR P aR md l 0 [] σ [] fun τ ks=>fW draw (fun _=>du l.toArray ks.reverse)∧At τ (Q .norm)):bX P kb (.region id l.toArray draw) Q σ:=by
 obtain⟨ops,P8⟩:∃ops,ops=l.toArray:=⟨_,rfl⟩
 have hl:l=ops.toList:=by rw[P8]
 rw[<-P8]at h ⊢;rw[hl]at h;clear P8 hl;obtain⟨τ,ks,h1,h2,h3,h4⟩:=ef (all:=ops) hT ops.toList 0 [] σ [] (fun j=>by simp) (fun j t hj=>by simp[iV]at hj) h;intro base a g hb hr;have pn:eO P ops ((List.range ops.size).map fun i=>(i,ks.getD i .write)) σ τ:=by
  have e:(ks.zipIdx 0).map (fun p=>(p.2,p.1))=(List.range ops.size).map fun i=>(i,ks.getD i .write):=by
   apply List.ext_getElem?;intro i;simp only[List.getElem?_map];have hlen:ks.length=ops.size:=by simpa using h2
   by_cases hi:i<ops.size
   ·rw[List.getElem?_range hi];simp[hlen,hi]
   rw[List.getElem?_eq_none (by simp only[List.length_zipIdx];omega),List.getElem?_eq_none (by simp only[List.length_range];omega)];rfl
  rw[<-e];exact h1
 cases draw with
 | false=>exact lK pn hr fun a g Da=>⟨g,τ,rfl,Da,h4⟩
 | true =>
  have hB:=h3 rfl;simp only[List.append_nil,List.reverse_reverse]at hB;exact nq hm hB pn hr fun a g Da=>⟨g,τ,rfl,Da,h4⟩
theorem eC{P:Program}{kb:Nat}{aR:ez}(hT:bT P aR)(hm:P.follows .mixedOrders=true){id:Nat}{l:List Oper}{draw:Bool}{Q:dt->St->Prop}{σ:St}
  (h:dR P aR ⟨false,false⟩ l 0 [] σ [] fun τ ks=>fW draw (fun _=>du l.toArray ks.reverse)∧At τ (Q .norm)):bX P kb (.region id l.toArray draw) Q σ:=gk ⟨false,false⟩ hT hm h
def slotsOf:Nat->List ae->List (Nat×ae)
 | _,[]=>[]
 | k,x::r=>(k,x)::slotsOf (k+1) r
theorem mO:∀(l:List ae) (k s:Nat) (x:ae),look (slotsOf k l) s=some x->k<=s∧l[s-k]?=some x
 | [],k,s,x,h=>by cases h
 | y::r,k,s,x,h=>by
  simp only[slotsOf,look]at h;split at h
  ·rename_i e;subst e;simp only[Option.some.injEq]at h;subst h;simp
  obtain⟨h1,h2⟩:=mO r (k+1) s x h;refine⟨by omega,?_⟩;rw[show s-k=(s-(k+1))+1 by omega];simpa using h2
def oh(aR:ez)(σ:St):ResultVar->Option ae
 | .tmp t=>σ.get t
 | .cell a ty =>
  match σ.get a,aR ty with
  | some (.mp id off),some ti =>
   match σ.objs[id]? with
   | some (.cells cs)=>if ti.desc.agg then(if off+ti.size<=cs.length then some (.agg ((cs.drop off).take ti.size))else none)else cs[off]?
   | _=>none
  | _,_=>none
def fH(aR:ez)(σ:St):List ResultVar->Option (List ae)
 | []=>some []
 | v::r =>
  match oh aR σ v,fH aR σ r with
  | some x,some xs=>some (x::xs)
  | _,_=>none
def iQ:List ae->ae
 | [x]=>x
 | xs=>.cw xs
def kR(a:Act):ResultVar->Sem Value
 | .tmp t=>pure (a.tmps.getD t undef)
 | .cell c t=>do loadVar t (<-asAddr (a.tmps.getD c undef))
theorem Bw{P:Program}{aR:ez}(hT:bT P aR){σ:St}{base:G}{a:Act}{g:G}(hr:Rel base σ a g){v:ResultVar}{x:ae}(h:oh aR σ v=some x) :
  ∃u,(kR a v).run P g.w=.ok u g.w∧RV g x u:=by
 cases v with
 | tmp t =>
  obtain⟨u,h1,h2⟩:=hr.slot t x h;exact⟨u,by simp[kR,Array.getD_eq_getD_getElem?,h1],h2⟩
 | cell c ty =>
  simp only[oh]at h;split at h
  ·rename_i id off ti hc Tz;obtain⟨u,h1,h2⟩:=hr.slot c _ hc;obtain⟨l,o1,he,ho,_,eu⟩:=h2.kO;split at h
   ·rename_i cs fA;have C1:g.objs[id]?=some (.cells cs):=by rw[hr.objs];exact fA
    obtain⟨arr,t',_,da,hlen,th,df,_⟩:=hr.good.row C1 he;subst eu;split at h
    ·rename_i eM;split at h
     ·rename_i hs;simp only[Option.some.injEq]at h;subst h;obtain⟨f,hf⟩:∃f:Nat->Value,∀j,off+j<arr.size->arr[off+j]?=some (f j):=⟨fun j=>arr.getD (off+j) undef,fun j hj=>by simp[Array.getD_eq_getD_getElem?,hj]⟩
      have bF:=(hT ty ti Tz).nY eM g.w l.block off f (fun j hj=>by
       rw[cell_of_row da];exact hf j (by omega))
      refine⟨.agg ((List.range ti.size).map f).toArray,by simp[kR,Array.getD_eq_getD_getElem?,h1,asAddr,bF],?_⟩;have hl:((cs.drop off).take ti.size).length=ti.size:=by simp;omega
      have:=RV.ofRow (g:=g) ((cs.drop off).take ti.size) f (fun c hc=>df c (List.mem_of_mem_drop (List.mem_of_mem_take hc))) (fun j c hj=>by
       have iB:=l9 hj;rw[List.getElem?_drop]at iB;have bf:=I iB;exact th (off+j) c _ iB (hf j (by omega)))
      rw[hl]at this;exact this
     cases h
    rename_i eM;have bf:=I h;have eS:g.w.cell? ⟨l.block,off,none⟩=some arr[off]:=by
     rw[cell_of_row da];simp[show off<arr.size by omega]
    have bF:=(hT ty ti Tz).mL (by simpa using eM) g.w ⟨l.block,off,none⟩ _ eS;exact⟨arr[off],by simp[kR,Array.getD_eq_getD_getElem?,h1,asAddr,bF],th off x _ h (by simp[show off<arr.size by omega])⟩
   cases h
  cases h
theorem mV{P:Program}{aR:ez}(hT:bT P aR){σ:St}{base:G}{a:Act}{g:G}(hr:Rel base σ a g):∀{vs:List ResultVar} {xs:List ae},fH aR σ vs=some xs ->
  ∃us:List Value,(vs.mapM (kR a)).run P g.w=.ok us g.w∧jg g xs us.toArray
 | [],xs,h=>by
  simp only[fH,Option.some.injEq]at h;subst h;exact⟨[],by simp,⟨rfl,by simp⟩⟩
 | v::r,xs,h=>by
  simp only[fH]at h;cases hv:oh aR σ v with
  | none=>simp[hv]at h
  | some x =>
   cases xv:fH aR σ r with
   | none=>simp[hv,xv]at h
   | some ys =>
    simp only[hv,xv,Option.some.injEq]at h;subst h;obtain⟨u,h1,h2⟩:=Bw hT hr hv;obtain⟨us,h3,h4,h5⟩:=mV hT hr xv;refine⟨u::us,?_,by simpa using h4,fun j c w e1 e2=>?_⟩
    ·rw[List.mapM_cons];simp only[Sem.run_bind,h1,Result.andThen_ok,h3,Sem.run_pure]
    cases j with
    | zero =>
     simp at e1 e2;subst e1;subst e2;exact h2
    | succ j=>exact h5 j c w (by simpa using e1) (by simpa using e2)
def D'(aR:ez)(rv:List ResultVar)(sh:Bool)(k:Nat)(R:ae->List ak->Prop):dt->St->Prop
 | .exit _,_=>False
 | _,σ=>on (fH aR σ rv) fun rs=>k<=σ.objs.length∧(∀o∈σ.objs.take k,o.upto k)∧(iQ (if sh then rs.map ae.share else rs)).upto k∧R (iQ (if sh then rs.map ae.share else rs)) (σ.objs.take k)
theorem RV.iQ{g:G}{xs:List ae}{us:List Value}(h:jg g xs us.toArray):RV g (iQ xs) (if h:us.toArray.size=1 then us.toArray[0]else .tuple us.toArray):=by
 obtain⟨h1,h2⟩:=h
 match xs,us,h1,h2 with
 | [],[],_,h2=>exact .cw rfl (by simp)
 | [x],[u],_,h2 =>
  simp only[List.size_toArray,List.length_singleton,dite_true];exact h2 0 x u rfl rfl
 | x::y::r,u0::u1::s,h1,h2 =>
  rw[dif_neg (by simp)];exact .cw h1 h2
 | [],_::_,h1,_=>simp at h1
 | _::_,[],h1,_=>simp at h1
 | [_],_::_::_,h1,_=>simp at h1
 | _::_::_,[_],h1,_=>simp at h1
theorem dj{P:Program}{aR:ez}(hT:bT P aR){f:FuncId}{fn:Func}{c:Code}{O:List ak}{args:List ae}{R:ae->List ak->Prop}(sh:Bool)(k:Nat)(hf:P.funcs[f]?=some fn)(hb:fn.body=some c)
  (uP : (fn.name == "runtime.NumGoroutine") = false) (hn : args.length <= fn.ntmps) (hk : O.length <= k) (h : bX P O.length c (D' aR fn.results.toList sh k R) ⟨fn.ntmps, slotsOf 0 args, O⟩) : bd P f O args R := by
 refine⟨⟨fn,hf,uP,by simp[hb]⟩,fun g vs hg ho ha=>?_⟩;refine calls_of_wp hf hb ?_;have bE:Rel g ⟨fn.ntmps,slotsOf 0 args,O⟩ { tmps:=vs++Array.replicate (fn.ntmps-vs.size) undef,defers:=[] } g:={
  le:=Le.refl g
  good:=hg
  objs:=ho
  size:=by
   have:=ha.1;simp only[Array.size_append,Array.size_replicate];omega
  defers:=rfl
  slot:=fun s x hx=>by
   obtain⟨_,h1⟩:=mO args 0 s x hx;simp only[Nat.sub_zero]at h1;have bf:=I h1;have j6:s<vs.size:=by rw[ha.1];exact bf
   refine⟨vs[s],?_,ha.2 s x _ h1 (by simp[j6])⟩;simp only;rw[Array.getElem?_append,if_pos j6];simp[j6] }
 refine wp_mono (h g _ g (by rw[ho];exact Nat.le_refl _) bE) fun e a w hp=>?_;have key:∀g' fw,g'.w=w->Rel g fw a g'->(on (fH aR fw fn.results.toList) fun rs=>k<=fw.objs.length∧(∀o∈fw.objs.take k,o.upto k)∧(Av.iQ (if sh then rs.map ae.share else rs)).upto k∧R (Av.iQ (if sh then rs.map ae.share else rs)) (fw.objs.take k)) ->
   a.defers=[]∧∃v,(results fn a.tmps).run P w=.ok v w∧∃g' v' r,Ending.returned v=.returned v'∧g'.w=w∧Le g g'∧Good g'∧RV g' r v'∧R r g'.objs:=by
  intro g' fw hw hr hq;subst hw;obtain⟨rs,xv,h1,h2,h3,h4⟩:=aE hq;obtain⟨us,q1,q2⟩:=mV hT hr xv;have hO:g'.objs=fw.objs:=hr.objs;refine⟨hr.defers,(if h:us.toArray.size=1 then us.toArray[0]else .tuple us.toArray),?_,g'.cg k,_,_,rfl,rfl,hr.le.cg (by rw[ho];exact hk),hr.good.cg (by rw[hO];exact h1) (by rw[hO];exact h2),?_,by simp only[G.cg,hO];exact h4⟩
  ·have hm:fn.results.mapM (kR a)=Functor.map List.toArray (fn.results.toList.mapM (kR a)):=Array.mapM_eq_mapM_toList;have eh:results fn a.tmps=(do
    let vs <-fn.results.mapM (kR a)
    pure (if h:vs.size=1 then vs[0]else .tuple vs)):=rfl
   rw[eh,hm];simp only[Sem.run_bind,Sem.run_map,q1,Result.andThen_ok,Sem.run_pure]
  have lD:jg g' (if sh then rs.map ae.share else rs) us.toArray:=by
   cases sh
   ·exact q2
   exact q2.share
  exact(RV.iQ lD).cg (by rw[hO];exact h1) h3
 cases e with
 | normal =>
  obtain⟨g',fw,h1,h2,h3⟩:=hp;exact key g' fw h1 h2 h3
 | ret =>
  obtain⟨g',fw,h1,h2,h3⟩:=hp;exact key g' fw h1 h2 h3
 | exit id =>
  obtain⟨g',fw,h1,h2,h3⟩:=hp;exact h3.elim
 | goto l=>exact hp.elim
 | panic c=>exact hp.elim
 | outgrown=>exact hp.elim
theorem y7(P:Program)(kb:Nat)(c:Code)(Q:dt->St->Prop)(σ:St):bC P kb c Q .norm σ=bX P kb c Q σ:=rfl
theorem lp(P:Program)(kb:Nat)(c:Code)(Q:dt->St->Prop)(σ:St):bC P kb c Q .ret σ=Q .ret σ:=rfl
theorem y6(P:Program)(kb:Nat)(c:Code)(Q:dt->St->Prop)(σ:St)(id:Nat):bC P kb c Q (.exit id) σ=Q (.exit id) σ:=rfl
theorem tY(id:Nat)(Q:dt->St->Prop)(σ:St):bG id Q .norm σ=Q .norm σ:=rfl
theorem jB(id:Nat)(Q:dt->St->Prop)(σ:St):bG id Q .ret σ=Q .ret σ:=rfl
theorem tZ(id:Nat)(Q:dt->St->Prop)(σ:St):bG id Q (.exit id) σ=Q .norm σ:=by simp[bG]
theorem sS{id lE:Nat}(h:lE≠id)(Q:dt->St->Prop)(σ:St):bG id Q (.exit lE) σ=Q (.exit lE) σ:=by simp[bG,h]
theorem wI{ι:Type}(L:ι->St)(μ:ι->Nat)(i:ι)(Q:dt->St->Prop)(σ:St):fM L μ i Q .norm σ = ∃j,μ j<μ i∧ba σ (L j):=rfl
theorem kl{ι:Type}(L:ι->St)(μ:ι->Nat)(i:ι)(Q:dt->St->Prop)(σ:St):fM L μ i Q .ret σ=Q .ret σ:=rfl
theorem wH{ι:Type}(L:ι->St)(μ:ι->Nat)(i:ι)(Q:dt->St->Prop)(σ:St)(id:Nat):fM L μ i Q (.exit id) σ=Q (.exit id) σ:=rfl
def D9:ae->Value->Bool
 | .v (.int k n),.int k' n'=>decide (k=k')&&decide (n=n')&&decide (k.min<=n)&&decide (n<=k.max)
 | .v (.bool b),.bool b'=>b == b'
 | .v (.string s),.string s'=>decide (s=s')
 | .v (.pointer none),.pointer none=>true
 | .v (.map none),.map none=>true
 | .v .nilFunc,.nilFunc=>true
 | .v .nilIface,.nilIface=>true
 | .aA _ [] .ex,.slice none 0 0=>true
 | _,_=>false
theorem BW{x:ae}{u:Value}(h:D9 x u=true):(∀g:G,RV g x u)∧x.scalar:=by
 unfold D9 at h;split at h
 ·simp only[Bool.and_eq_true,decide_eq_true_eq]at h;obtain⟨⟨⟨h1,h2⟩,h3⟩,h4⟩:=h;subst h1;subst h2;exact⟨fun g=>.v ⟨h3,h4⟩,trivial⟩
 ·simp only[beq_iff_eq]at h;subst h;exact⟨fun g=>.v trivial,trivial⟩
 ·simp only[decide_eq_true_eq]at h;subst h;exact⟨fun g=>.v trivial,trivial⟩
 ·exact⟨fun g=>.v trivial,trivial⟩
 ·exact⟨fun g=>.v trivial,trivial⟩
 ·exact⟨fun g=>.v trivial,trivial⟩
 ·exact⟨fun g=>.v trivial,trivial⟩
 ·exact⟨fun g=>.nil (fun id e=>by cases e) (by simp),trivial⟩
 cases h
def o6:List ae->List Value->Bool
 | [],[]=>true
 | x::xs,u::us=>D9 x u&&o6 xs us
 | _,_=>false
theorem rl:∀{xs:List ae} {us:List Value},o6 xs us=true->us.length=xs.length∧(∀g:G,∀(j:Nat) (c:ae) (u:Value),xs[j]?=some c->us[j]?=some u->RV g c u)∧∀c∈xs,c.scalar
 | [],[],_=>⟨rfl,by simp,by simp⟩
 | x::xs,u::us,h=>by
  simp only[o6,Bool.and_eq_true]at h;obtain⟨h1,h2⟩:=BW h.1;obtain⟨h3,h4,h5⟩:=rl h.2;refine⟨by simp[h3],fun g j c w a b=>?_,fun c hc=>?_⟩
  ·cases j with
   | zero =>
    simp at a b;subst a;subst b;exact h1 g
   | succ j=>exact h4 g j c w (by simpa using a) (by simpa using b)
  rcases List.mem_cons.1 hc with e|e
  ·subst e;exact h2
  exact h5 c e
 | [],_::_,h=>by simp[o6]at h
 | _::_,[],h=>by simp[o6]at h
def oH:List Field->List (Nat×TypeId)->Bool
 | [],[]=>true
 | f::r,p::q=>decide (f.offset=p.1)&&decide (f.type=p.2)&&oH r q
 | _,_=>false
theorem qG:∀{fs:List Field} {ps:List (Nat×TypeId)},oH fs ps=true->fs.map (fun f=>(f.offset,f.type))=ps
 | [],[],_=>rfl
 | f::r,p::q,h=>by
  simp only[oH,Bool.and_eq_true,decide_eq_true_eq]at h;obtain⟨⟨h1,h2⟩,h3⟩:=h;rw[List.map_cons,qG h3,h1,h2]
 | [],_::_,h=>by simp[oH]at h
 | _::_,[],h=>by simp[oH]at h
def HU:TypeDesc->TD->Bool
 | .struct fields,.struct fs=>oH fields.toList fs
 | .slice e,.slice e'=>decide (e=e')
 | .array n e,.array n' e'=>decide (n=n')&&decide (e=e')
 | .map k e,.map k' e'=>decide (k=k')&&decide (e=e')
 | .struct _,.other=>false
 | .array _ _,.other=>false
 | _,.other=>true
 | _,_=>false
theorem CE{d:TypeDesc}{td:TD}(h:HU d td=true):rF d td:=by
 unfold HU at h;split at h
 ·exact⟨_,rfl,qG h⟩
 ·simp only[decide_eq_true_eq]at h;subst h;rfl
 ·simp only[Bool.and_eq_true,decide_eq_true_eq]at h;obtain⟨h1,h2⟩:=h;subst h1;subst h2;rfl
 ·simp only[Bool.and_eq_true,decide_eq_true_eq]at h;obtain⟨h1,h2⟩:=h;subst h1;subst h2;rfl
 ·cases h
 ·cases h
 ·rename_i h1 h2;cases d<;>first|trivial|exact(h1 _ rfl).elim|exact(h2 _ _ rfl).elim
 cases h
def DQ(agg:Bool):Value->Bool
 | .agg _=>agg
 | _=>!agg
def cX(P:Program)(t:TypeId)(ti:b6):Bool :=
 match P.info? t,P.underlying t with
 | some i,some d=>decide (i.size=ti.size)&&decide (i.bytes=ti.bytes)&&HU d ti.desc&&decide (ti.zero.length=ti.size) &&
  (match i.zero with
  | some z=>o6 ti.zero z.cells.toList&&DQ ti.desc.agg z
  | none=>false)
 | _,_=>false
theorem aY{P:Program}{t:TypeId}{ti:b6}(h:cX P t ti=true):Ea P t ti:=by
 unfold cX at h;split at h
 ·rename_i i d hi hd;split at h
  ·rename_i z hz;simp only[Bool.and_eq_true,decide_eq_true_eq]at h;obtain⟨⟨⟨⟨h1,h2⟩,h3⟩,h4⟩,h5,h6⟩:=h;obtain⟨q1,q2,q3⟩:=rl h5;refine⟨⟨i,z,hi,h1,h2,hz,by simpa using q1,h4,⟨fun ha=>?_,fun ha=>?_⟩,fun g j c u a b=>q2 g j c u a (by simpa using b),q3⟩,d,hd,CE h3⟩
   ·cases z with
    | agg cs=>exact⟨cs,rfl⟩
    | _=>simp[DQ,ha]at h6
   cases z with
   | agg cs=>simp[DQ,ha]at h6
   | _=>rfl
  simp at h
 cases h
end Go.Av
namespace Go.Proofs.YtjdnhamngpafmaaGreat
open Go.Av
def aR:ez
 | 1=>some ⟨1,8,[.v .nilFunc],.other⟩
 | 2=>some ⟨1,8,[.v (.int .i64 0)],.other⟩
 | 3=>some ⟨1,8,[.v (.int .i64 0)],.other⟩
 | 4=>some ⟨1,1,[.v (.bool false)],.other⟩
 | 5=>some ⟨1,1,[.v (.int .u8 0)],.other⟩
 | 9=>some ⟨1,16,[.v (.string ByteArray.empty)],.other⟩
 | 22=>some ⟨1,24,[.aA 2 [] .ex],.slice 34⟩
 | 24=>some ⟨2,32,[.aA 2 [] .ex,.v (.int .i64 0)],.struct [(0,22),(1,3)]⟩
 | 26=>some ⟨1,8,[.v (.int .i64 0)],.other⟩
 | 32=>some ⟨1,24,[.aA 7 [] .ex],.slice 50⟩
 | 34=>some ⟨2,32,[.v (.int .i64 0),.aA 7 [] .ex],.struct [(0,3),(1,32)]⟩
 | 35=>some ⟨1,24,[.aA 3 [] .ex],.slice 43⟩
 | 38=>some ⟨1,24,[.aA 1 [] .ex],.slice 41⟩
 | 41=>some ⟨1,24,[.aA 1 [] .ex],.slice 3⟩
 | 43=>some ⟨3,40,[.v (.int .i64 0),.aA 1 [] .ex,.v (.int .i64 0)],.struct [(0,3),(1,41),(2,3)]⟩
 | 45=>some ⟨1,24,[.aA 2 [] .ex],.slice 82⟩
 | 47=>some ⟨5,72,[.v (.int .i64 0),.v (.int .i64 0),.v (.int .i64 0),.aA 1 [] .ex,.aA 2 [] .ex],.struct [(0,3),(1,3),(2,3),(3,41),(4,45)]⟩
 | 48=>some ⟨1,24,[.aA 4 [] .ex],.slice 65⟩
 | 50=>some ⟨7,120,[.aA 1 [] .ex,.aA 4 [] .ex,.v (.int .i64 0),.v (.int .i64 0),.v (.int .i64 0),.aA 1 [] .ex,.aA 2 [] .ex],.struct [(0,41),(1,48),(2,47)]⟩
 | 56=>some ⟨1,24,[.aA 1 [] .ex],.slice 4⟩
 | 65=>some ⟨4,48,[.v (.int .i64 0),.v (.int .i64 0),.v (.int .i64 0),.aA 1 [] .ex],.struct [(0,3),(1,3),(2,3),(3,41)]⟩
 | 67=>some ⟨3,40,[.aA 1 [] .ex,.v (.int .i64 0),.v (.int .i64 0)],.struct [(0,41),(1,3),(2,3)]⟩
 | 77=>some ⟨1,24,[.aA 2 [] .ex],.slice 79⟩
 | 79=>some ⟨2,16,[.v (.int .i64 0),.v (.int .i64 0)],.array 2 3⟩
 | 82=>some ⟨2,32,[.v (.int .i64 0),.aA 1 [] .ex],.struct [(0,3),(1,41)]⟩
 | 83=>some ⟨1,24,[.aA 2 [] .ex],.slice 87⟩
 | 87=>some ⟨2,16,[.v (.int .i64 0),.v (.int .i64 0)],.struct [(0,3),(1,3)]⟩
 | 97=>some ⟨1,8,[.v .nilFunc],.other⟩
 | 102=>some ⟨1,8,[.v (.pointer none)],.other⟩
 | 103=>some ⟨1,8,[.v (.map none)],.map 3 138⟩
 | 105=>some ⟨3,40,[.v (.int .i64 0),.aA 7 [] .ex,.v (.map none)],.struct [(0,34),(2,103)]⟩
 | 110=>some ⟨1,8,[.v (.int .u64 0)],.other⟩
 | 112=>some ⟨1,8,[.v .nilFunc],.other⟩
 | 120=>some ⟨4,80,[.v (.int .i64 0),.aA 7 [] .ex,.aA 1 [] .ex,.aA 1 [] .ex],.struct [(0,34),(2,41),(3,38)]⟩
 | 121=>some ⟨1,8,[.v (.pointer none)],.other⟩
 | 122=>some ⟨1,24,[.aA 1 [] .ex],.slice 56⟩
 | 124=>some ⟨1,24,[.aA 1 [] .ex],.slice 162⟩
 | 126=>some ⟨9,168,[.v (.int .i64 0),.aA 7 [] .ex,.aA 1 [] .ex,.aA 1 [] .ex,.aA 1 [] .ex,.v (.int .i64 0),.v (.int .i64 0),.aA 7 [] .ex,.aA 1 [] .ex],.struct [(0,120),(4,122),(5,3),(6,34),(8,124)]⟩
 | 129=>some ⟨1,8,[.v (.pointer none)],.other⟩
 | 130=>some ⟨1,24,[.aA 1 [] .ex],.slice 172⟩
 | 132=>some ⟨9,112,[.aA 2 [] .ex,.v (.int .i64 0),.aA 1 [] .ex,.v (.int .i64 0),.v (.bool false),.v (.bool false),.aA 1 [] .ex,.v (.int .i64 0),.v (.int .i64 0)],.struct [(0,24),(2,130),(3,3),(4,4),(5,4),(6,67)]⟩
 | 138=>some ⟨2,16,[.v (.int .i64 0),.v (.int .i64 0)],.struct [(0,3),(1,3)]⟩
 | 139=>some ⟨1,24,[.aA 2 [] .ex],.slice 142⟩
 | 140=>some ⟨1,8,[.v (.int .u64 0)],.other⟩
 | 142=>some ⟨2,16,[.v (.int .u64 0),.v (.int .u64 0)],.array 2 140⟩
 | 148=>some ⟨2,48,[.aA 1 [] .ex,.aA 1 [] .ex],.struct [(0,41),(1,41)]⟩
 | 162=>some ⟨1,8,[.v (.map none)],.map 3 3⟩
 | 166=>some ⟨2,16,[.v (.int .i64 0),.v (.int .i64 0)],.struct [(0,3),(1,3)]⟩
 | 167=>some ⟨1,24,[.aA 2 [] .ex],.slice 166⟩
 | 168=>some ⟨1,8,[.v (.pointer none)],.other⟩
 | 171=>some ⟨1,24,[.aA 4 [] .ex],.slice 178⟩
 | 172=>some ⟨1,8,[.v (.pointer none)],.other⟩
 | 173=>some ⟨1,8,[.v (.map none)],.map 3 178⟩
 | 175=>some ⟨5,40,[.v (.int .i64 0),.v (.int .i64 0),.v (.int .i64 0),.v (.int .i64 0),.v (.map none)],.struct [(0,3),(1,3),(2,3),(3,3),(4,173)]⟩
 | 176=>some ⟨1,8,[.v (.pointer none)],.other⟩
 | 178=>some ⟨4,48,[.v (.int .i64 0),.v (.int .i64 0),.aA 4 [] .ex,.v (.pointer none)],.struct [(0,3),(1,3),(2,171),(3,176)]⟩
 | 187=>some ⟨1,8,[.v .nilFunc],.other⟩
 | 191=>some ⟨1,8,[.v (.int .u64 0)],.other⟩
 | 195=>some ⟨1,8,[.v (.pointer none)],.other⟩
 | 206=>some ⟨1,8,[.v .nilFunc],.other⟩
 | 211=>some ⟨1,8,[.v (.pointer none)],.other⟩
 | _=>none
theorem TQ:aR 1=some ⟨1,8,[.v .nilFunc],.other⟩:=rfl
theorem TR:aR 2=some ⟨1,8,[.v (.int .i64 0)],.other⟩:=rfl
theorem TS:aR 3=some ⟨1,8,[.v (.int .i64 0)],.other⟩:=rfl
theorem TT:aR 4=some ⟨1,1,[.v (.bool false)],.other⟩:=rfl
theorem TU:aR 5=some ⟨1,1,[.v (.int .u8 0)],.other⟩:=rfl
theorem TV:aR 9=some ⟨1,16,[.v (.string ByteArray.empty)],.other⟩:=rfl
theorem Qu:aR 22=some ⟨1,24,[.aA 2 [] .ex],.slice 34⟩:=rfl
theorem Qv:aR 24=some ⟨2,32,[.aA 2 [] .ex,.v (.int .i64 0)],.struct [(0,22),(1,3)]⟩:=rfl
theorem Qw:aR 26=some ⟨1,8,[.v (.int .i64 0)],.other⟩:=rfl
theorem DW:aR 32=some ⟨1,24,[.aA 7 [] .ex],.slice 50⟩:=rfl
theorem Qx:aR 34=some ⟨2,32,[.v (.int .i64 0),.aA 7 [] .ex],.struct [(0,3),(1,32)]⟩:=rfl
theorem Qy:aR 35=some ⟨1,24,[.aA 3 [] .ex],.slice 43⟩:=rfl
theorem Qz:aR 38=some ⟨1,24,[.aA 1 [] .ex],.slice 41⟩:=rfl
theorem QA:aR 41=some ⟨1,24,[.aA 1 [] .ex],.slice 3⟩:=rfl
theorem QB:aR 43=some ⟨3,40,[.v (.int .i64 0),.aA 1 [] .ex,.v (.int .i64 0)],.struct [(0,3),(1,41),(2,3)]⟩:=rfl
theorem QC:aR 45=some ⟨1,24,[.aA 2 [] .ex],.slice 82⟩:=rfl
theorem QD:aR 47=some ⟨5,72,[.v (.int .i64 0),.v (.int .i64 0),.v (.int .i64 0),.aA 1 [] .ex,.aA 2 [] .ex],.struct [(0,3),(1,3),(2,3),(3,41),(4,45)]⟩:=rfl
theorem QE:aR 48=some ⟨1,24,[.aA 4 [] .ex],.slice 65⟩:=rfl
theorem DX:aR 50=some ⟨7,120,[.aA 1 [] .ex,.aA 4 [] .ex,.v (.int .i64 0),.v (.int .i64 0),.v (.int .i64 0),.aA 1 [] .ex,.aA 2 [] .ex],.struct [(0,41),(1,48),(2,47)]⟩:=rfl
theorem QF:aR 56=some ⟨1,24,[.aA 1 [] .ex],.slice 4⟩:=rfl
theorem QG:aR 65=some ⟨4,48,[.v (.int .i64 0),.v (.int .i64 0),.v (.int .i64 0),.aA 1 [] .ex],.struct [(0,3),(1,3),(2,3),(3,41)]⟩:=rfl
theorem QH:aR 67=some ⟨3,40,[.aA 1 [] .ex,.v (.int .i64 0),.v (.int .i64 0)],.struct [(0,41),(1,3),(2,3)]⟩:=rfl
theorem QI:aR 77=some ⟨1,24,[.aA 2 [] .ex],.slice 79⟩:=rfl
theorem QJ:aR 79=some ⟨2,16,[.v (.int .i64 0),.v (.int .i64 0)],.array 2 3⟩:=rfl
theorem QK:aR 82=some ⟨2,32,[.v (.int .i64 0),.aA 1 [] .ex],.struct [(0,3),(1,41)]⟩:=rfl
theorem QL:aR 83=some ⟨1,24,[.aA 2 [] .ex],.slice 87⟩:=rfl
theorem QM:aR 87=some ⟨2,16,[.v (.int .i64 0),.v (.int .i64 0)],.struct [(0,3),(1,3)]⟩:=rfl
theorem QN:aR 97=some ⟨1,8,[.v .nilFunc],.other⟩:=rfl
theorem MY:aR 102=some ⟨1,8,[.v (.pointer none)],.other⟩:=rfl
theorem MZ:aR 103=some ⟨1,8,[.v (.map none)],.map 3 138⟩:=rfl
theorem M0:aR 105=some ⟨3,40,[.v (.int .i64 0),.aA 7 [] .ex,.v (.map none)],.struct [(0,34),(2,103)]⟩:=rfl
theorem M3:aR 110=some ⟨1,8,[.v (.int .u64 0)],.other⟩:=rfl
theorem M4:aR 112=some ⟨1,8,[.v .nilFunc],.other⟩:=rfl
theorem E4:aR 120=some ⟨4,80,[.v (.int .i64 0),.aA 7 [] .ex,.aA 1 [] .ex,.aA 1 [] .ex],.struct [(0,34),(2,41),(3,38)]⟩:=rfl
theorem M5:aR 121=some ⟨1,8,[.v (.pointer none)],.other⟩:=rfl
theorem M6:aR 122=some ⟨1,24,[.aA 1 [] .ex],.slice 56⟩:=rfl
theorem E5:aR 124=some ⟨1,24,[.aA 1 [] .ex],.slice 162⟩:=rfl
theorem M7:aR 126=some ⟨9,168,[.v (.int .i64 0),.aA 7 [] .ex,.aA 1 [] .ex,.aA 1 [] .ex,.aA 1 [] .ex,.v (.int .i64 0),.v (.int .i64 0),.aA 7 [] .ex,.aA 1 [] .ex],.struct [(0,120),(4,122),(5,3),(6,34),(8,124)]⟩:=rfl
theorem M8:aR 129=some ⟨1,8,[.v (.pointer none)],.other⟩:=rfl
theorem M9:aR 130=some ⟨1,24,[.aA 1 [] .ex],.slice 172⟩:=rfl
theorem M':aR 132=some ⟨9,112,[.aA 2 [] .ex,.v (.int .i64 0),.aA 1 [] .ex,.v (.int .i64 0),.v (.bool false),.v (.bool false),.aA 1 [] .ex,.v (.int .i64 0),.v (.int .i64 0)],.struct [(0,24),(2,130),(3,3),(4,4),(5,4),(6,67)]⟩:=rfl
theorem Na:aR 138=some ⟨2,16,[.v (.int .i64 0),.v (.int .i64 0)],.struct [(0,3),(1,3)]⟩:=rfl
theorem Nb:aR 139=some ⟨1,24,[.aA 2 [] .ex],.slice 142⟩:=rfl
theorem E6:aR 140=some ⟨1,8,[.v (.int .u64 0)],.other⟩:=rfl
theorem Nc:aR 142=some ⟨2,16,[.v (.int .u64 0),.v (.int .u64 0)],.array 2 140⟩:=rfl
theorem Nf:aR 148=some ⟨2,48,[.aA 1 [] .ex,.aA 1 [] .ex],.struct [(0,41),(1,41)]⟩:=rfl
theorem E7:aR 162=some ⟨1,8,[.v (.map none)],.map 3 3⟩:=rfl
theorem Nh:aR 166=some ⟨2,16,[.v (.int .i64 0),.v (.int .i64 0)],.struct [(0,3),(1,3)]⟩:=rfl
theorem Ni:aR 167=some ⟨1,24,[.aA 2 [] .ex],.slice 166⟩:=rfl
theorem Nj:aR 168=some ⟨1,8,[.v (.pointer none)],.other⟩:=rfl
theorem Nk:aR 171=some ⟨1,24,[.aA 4 [] .ex],.slice 178⟩:=rfl
theorem Nn:aR 172=some ⟨1,8,[.v (.pointer none)],.other⟩:=rfl
theorem No:aR 173=some ⟨1,8,[.v (.map none)],.map 3 178⟩:=rfl
theorem Np:aR 175=some ⟨5,40,[.v (.int .i64 0),.v (.int .i64 0),.v (.int .i64 0),.v (.int .i64 0),.v (.map none)],.struct [(0,3),(1,3),(2,3),(3,3),(4,173)]⟩:=rfl
theorem Nq:aR 176=some ⟨1,8,[.v (.pointer none)],.other⟩:=rfl
theorem Nr:aR 178=some ⟨4,48,[.v (.int .i64 0),.v (.int .i64 0),.aA 4 [] .ex,.v (.pointer none)],.struct [(0,3),(1,3),(2,171),(3,176)]⟩:=rfl
theorem Nt:aR 187=some ⟨1,8,[.v .nilFunc],.other⟩:=rfl
theorem Nu:aR 191=some ⟨1,8,[.v (.int .u64 0)],.other⟩:=rfl
theorem Nv:aR 195=some ⟨1,8,[.v (.pointer none)],.other⟩:=rfl
theorem Nw:aR 206=some ⟨1,8,[.v .nilFunc],.other⟩:=rfl
theorem Ny:aR 211=some ⟨1,8,[.v (.pointer none)],.other⟩:=rfl
theorem QP:cX Go.Proofs.Tryz.prog 1 ⟨1,8,[.v .nilFunc],.other⟩=true:=by kernel_rfl
theorem QQ:cX Go.Proofs.Tryz.prog 2 ⟨1,8,[.v (.int .i64 0)],.other⟩=true:=by kernel_rfl
theorem QR:cX Go.Proofs.Tryz.prog 3 ⟨1,8,[.v (.int .i64 0)],.other⟩=true:=by kernel_rfl
theorem QS:cX Go.Proofs.Tryz.prog 4 ⟨1,1,[.v (.bool false)],.other⟩=true:=by kernel_rfl
theorem QT:cX Go.Proofs.Tryz.prog 5 ⟨1,1,[.v (.int .u8 0)],.other⟩=true:=by kernel_rfl
theorem QU:cX Go.Proofs.Tryz.prog 9 ⟨1,16,[.v (.string ByteArray.empty)],.other⟩=true:=by kernel_rfl
theorem Nz:cX Go.Proofs.Tryz.prog 22 ⟨1,24,[.aA 2 [] .ex],.slice 34⟩=true:=by kernel_rfl
theorem NA:cX Go.Proofs.Tryz.prog 24 ⟨2,32,[.aA 2 [] .ex,.v (.int .i64 0)],.struct [(0,22),(1,3)]⟩=true:=by kernel_rfl
theorem NB:cX Go.Proofs.Tryz.prog 26 ⟨1,8,[.v (.int .i64 0)],.other⟩=true:=by kernel_rfl
theorem NC:cX Go.Proofs.Tryz.prog 32 ⟨1,24,[.aA 7 [] .ex],.slice 50⟩=true:=by kernel_rfl
theorem ND:cX Go.Proofs.Tryz.prog 34 ⟨2,32,[.v (.int .i64 0),.aA 7 [] .ex],.struct [(0,3),(1,32)]⟩=true:=by kernel_rfl
theorem NF:cX Go.Proofs.Tryz.prog 35 ⟨1,24,[.aA 3 [] .ex],.slice 43⟩=true:=by kernel_rfl
theorem NG:cX Go.Proofs.Tryz.prog 38 ⟨1,24,[.aA 1 [] .ex],.slice 41⟩=true:=by kernel_rfl
theorem NH:cX Go.Proofs.Tryz.prog 41 ⟨1,24,[.aA 1 [] .ex],.slice 3⟩=true:=by kernel_rfl
theorem NI:cX Go.Proofs.Tryz.prog 43 ⟨3,40,[.v (.int .i64 0),.aA 1 [] .ex,.v (.int .i64 0)],.struct [(0,3),(1,41),(2,3)]⟩=true:=by kernel_rfl
theorem NJ:cX Go.Proofs.Tryz.prog 45 ⟨1,24,[.aA 2 [] .ex],.slice 82⟩=true:=by kernel_rfl
theorem NK:cX Go.Proofs.Tryz.prog 47 ⟨5,72,[.v (.int .i64 0),.v (.int .i64 0),.v (.int .i64 0),.aA 1 [] .ex,.aA 2 [] .ex],.struct [(0,3),(1,3),(2,3),(3,41),(4,45)]⟩=true:=by kernel_rfl
theorem NL:cX Go.Proofs.Tryz.prog 48 ⟨1,24,[.aA 4 [] .ex],.slice 65⟩=true:=by kernel_rfl
theorem NM:cX Go.Proofs.Tryz.prog 50 ⟨7,120,[.aA 1 [] .ex,.aA 4 [] .ex,.v (.int .i64 0),.v (.int .i64 0),.v (.int .i64 0),.aA 1 [] .ex,.aA 2 [] .ex],.struct [(0,41),(1,48),(2,47)]⟩=true:=by kernel_rfl
theorem NN:cX Go.Proofs.Tryz.prog 56 ⟨1,24,[.aA 1 [] .ex],.slice 4⟩=true:=by kernel_rfl
theorem NO:cX Go.Proofs.Tryz.prog 65 ⟨4,48,[.v (.int .i64 0),.v (.int .i64 0),.v (.int .i64 0),.aA 1 [] .ex],.struct [(0,3),(1,3),(2,3),(3,41)]⟩=true:=by kernel_rfl
theorem NP:cX Go.Proofs.Tryz.prog 67 ⟨3,40,[.aA 1 [] .ex,.v (.int .i64 0),.v (.int .i64 0)],.struct [(0,41),(1,3),(2,3)]⟩=true:=by kernel_rfl
theorem NQ:cX Go.Proofs.Tryz.prog 77 ⟨1,24,[.aA 2 [] .ex],.slice 79⟩=true:=by kernel_rfl
theorem NR:cX Go.Proofs.Tryz.prog 79 ⟨2,16,[.v (.int .i64 0),.v (.int .i64 0)],.array 2 3⟩=true:=by kernel_rfl
theorem NS:cX Go.Proofs.Tryz.prog 82 ⟨2,32,[.v (.int .i64 0),.aA 1 [] .ex],.struct [(0,3),(1,41)]⟩=true:=by kernel_rfl
theorem NT:cX Go.Proofs.Tryz.prog 83 ⟨1,24,[.aA 2 [] .ex],.slice 87⟩=true:=by kernel_rfl
theorem NU:cX Go.Proofs.Tryz.prog 87 ⟨2,16,[.v (.int .i64 0),.v (.int .i64 0)],.struct [(0,3),(1,3)]⟩=true:=by kernel_rfl
theorem NV:cX Go.Proofs.Tryz.prog 97 ⟨1,8,[.v .nilFunc],.other⟩=true:=by kernel_rfl
theorem JY:cX Go.Proofs.Tryz.prog 102 ⟨1,8,[.v (.pointer none)],.other⟩=true:=by kernel_rfl
theorem JZ:cX Go.Proofs.Tryz.prog 103 ⟨1,8,[.v (.map none)],.map 3 138⟩=true:=by kernel_rfl
theorem J0:cX Go.Proofs.Tryz.prog 105 ⟨3,40,[.v (.int .i64 0),.aA 7 [] .ex,.v (.map none)],.struct [(0,34),(2,103)]⟩=true:=by kernel_rfl
theorem J1:cX Go.Proofs.Tryz.prog 110 ⟨1,8,[.v (.int .u64 0)],.other⟩=true:=by kernel_rfl
theorem J2:cX Go.Proofs.Tryz.prog 112 ⟨1,8,[.v .nilFunc],.other⟩=true:=by kernel_rfl
theorem J3:cX Go.Proofs.Tryz.prog 120 ⟨4,80,[.v (.int .i64 0),.aA 7 [] .ex,.aA 1 [] .ex,.aA 1 [] .ex],.struct [(0,34),(2,41),(3,38)]⟩=true:=by kernel_rfl
theorem J4:cX Go.Proofs.Tryz.prog 121 ⟨1,8,[.v (.pointer none)],.other⟩=true:=by kernel_rfl
theorem J5:cX Go.Proofs.Tryz.prog 122 ⟨1,24,[.aA 1 [] .ex],.slice 56⟩=true:=by kernel_rfl
theorem J6:cX Go.Proofs.Tryz.prog 124 ⟨1,24,[.aA 1 [] .ex],.slice 162⟩=true:=by kernel_rfl
theorem J7:cX Go.Proofs.Tryz.prog 126 ⟨9,168,[.v (.int .i64 0),.aA 7 [] .ex,.aA 1 [] .ex,.aA 1 [] .ex,.aA 1 [] .ex,.v (.int .i64 0),.v (.int .i64 0),.aA 7 [] .ex,.aA 1 [] .ex],.struct [(0,120),(4,122),(5,3),(6,34),(8,124)]⟩=true:=by kernel_rfl
theorem J8:cX Go.Proofs.Tryz.prog 129 ⟨1,8,[.v (.pointer none)],.other⟩=true:=by kernel_rfl
theorem J9:cX Go.Proofs.Tryz.prog 130 ⟨1,24,[.aA 1 [] .ex],.slice 172⟩=true:=by kernel_rfl
theorem J':cX Go.Proofs.Tryz.prog 132 ⟨9,112,[.aA 2 [] .ex,.v (.int .i64 0),.aA 1 [] .ex,.v (.int .i64 0),.v (.bool false),.v (.bool false),.aA 1 [] .ex,.v (.int .i64 0),.v (.int .i64 0)],.struct [(0,24),(2,130),(3,3),(4,4),(5,4),(6,67)]⟩=true:=by kernel_rfl
theorem Ka:cX Go.Proofs.Tryz.prog 138 ⟨2,16,[.v (.int .i64 0),.v (.int .i64 0)],.struct [(0,3),(1,3)]⟩=true:=by kernel_rfl
theorem Kb:cX Go.Proofs.Tryz.prog 139 ⟨1,24,[.aA 2 [] .ex],.slice 142⟩=true:=by kernel_rfl
theorem Kc:cX Go.Proofs.Tryz.prog 140 ⟨1,8,[.v (.int .u64 0)],.other⟩=true:=by kernel_rfl
theorem Kd:cX Go.Proofs.Tryz.prog 142 ⟨2,16,[.v (.int .u64 0),.v (.int .u64 0)],.array 2 140⟩=true:=by kernel_rfl
theorem Ke:cX Go.Proofs.Tryz.prog 148 ⟨2,48,[.aA 1 [] .ex,.aA 1 [] .ex],.struct [(0,41),(1,41)]⟩=true:=by kernel_rfl
theorem Kf:cX Go.Proofs.Tryz.prog 162 ⟨1,8,[.v (.map none)],.map 3 3⟩=true:=by kernel_rfl
theorem Kg:cX Go.Proofs.Tryz.prog 166 ⟨2,16,[.v (.int .i64 0),.v (.int .i64 0)],.struct [(0,3),(1,3)]⟩=true:=by kernel_rfl
theorem Kh:cX Go.Proofs.Tryz.prog 167 ⟨1,24,[.aA 2 [] .ex],.slice 166⟩=true:=by kernel_rfl
theorem Ki:cX Go.Proofs.Tryz.prog 168 ⟨1,8,[.v (.pointer none)],.other⟩=true:=by kernel_rfl
theorem Kj:cX Go.Proofs.Tryz.prog 171 ⟨1,24,[.aA 4 [] .ex],.slice 178⟩=true:=by kernel_rfl
theorem Kk:cX Go.Proofs.Tryz.prog 172 ⟨1,8,[.v (.pointer none)],.other⟩=true:=by kernel_rfl
theorem Kl:cX Go.Proofs.Tryz.prog 173 ⟨1,8,[.v (.map none)],.map 3 178⟩=true:=by kernel_rfl
theorem Km:cX Go.Proofs.Tryz.prog 175 ⟨5,40,[.v (.int .i64 0),.v (.int .i64 0),.v (.int .i64 0),.v (.int .i64 0),.v (.map none)],.struct [(0,3),(1,3),(2,3),(3,3),(4,173)]⟩=true:=by kernel_rfl
theorem Kn:cX Go.Proofs.Tryz.prog 176 ⟨1,8,[.v (.pointer none)],.other⟩=true:=by kernel_rfl
theorem Ko:cX Go.Proofs.Tryz.prog 178 ⟨4,48,[.v (.int .i64 0),.v (.int .i64 0),.aA 4 [] .ex,.v (.pointer none)],.struct [(0,3),(1,3),(2,171),(3,176)]⟩=true:=by kernel_rfl
theorem Kp:cX Go.Proofs.Tryz.prog 187 ⟨1,8,[.v .nilFunc],.other⟩=true:=by kernel_rfl
theorem Kq:cX Go.Proofs.Tryz.prog 191 ⟨1,8,[.v (.int .u64 0)],.other⟩=true:=by kernel_rfl
theorem Kr:cX Go.Proofs.Tryz.prog 195 ⟨1,8,[.v (.pointer none)],.other⟩=true:=by kernel_rfl
theorem Ks:cX Go.Proofs.Tryz.prog 206 ⟨1,8,[.v .nilFunc],.other⟩=true:=by kernel_rfl
theorem Kt:cX Go.Proofs.Tryz.prog 211 ⟨1,8,[.v (.pointer none)],.other⟩=true:=by kernel_rfl
set_option maxRecDepth 100000 in
theorem hT:bT Go.Proofs.Tryz.prog aR:=by
 intro t ti h;unfold aR at h;split at h
 ·cases h;exact aY QP
 ·cases h;exact aY QQ
 ·cases h;exact aY QR
 ·cases h;exact aY QS
 ·cases h;exact aY QT
 ·cases h;exact aY QU
 ·cases h;exact aY Nz
 ·cases h;exact aY NA
 ·cases h;exact aY NB
 ·cases h;exact aY NC
 ·cases h;exact aY ND
 ·cases h;exact aY NF
 ·cases h;exact aY NG
 ·cases h;exact aY NH
 ·cases h;exact aY NI
 ·cases h;exact aY NJ
 ·cases h;exact aY NK
 ·cases h;exact aY NL
 ·cases h;exact aY NM
 ·cases h;exact aY NN
 ·cases h;exact aY NO
 ·cases h;exact aY NP
 ·cases h;exact aY NQ
 ·cases h;exact aY NR
 ·cases h;exact aY NS
 ·cases h;exact aY NT
 ·cases h;exact aY NU
 ·cases h;exact aY NV
 ·cases h;exact aY JY
 ·cases h;exact aY JZ
 ·cases h;exact aY J0
 ·cases h;exact aY J1
 ·cases h;exact aY J2
 ·cases h;exact aY J3
 ·cases h;exact aY J4
 ·cases h;exact aY J5
 ·cases h;exact aY J6
 ·cases h;exact aY J7
 ·cases h;exact aY J8
 ·cases h;exact aY J9
 ·cases h;exact aY J'
 ·cases h;exact aY Ka
 ·cases h;exact aY Kb
 ·cases h;exact aY Kc
 ·cases h;exact aY Kd
 ·cases h;exact aY Ke
 ·cases h;exact aY Kf
 ·cases h;exact aY Kg
 ·cases h;exact aY Kh
 ·cases h;exact aY Ki
 ·cases h;exact aY Kj
 ·cases h;exact aY Kk
 ·cases h;exact aY Kl
 ·cases h;exact aY Km
 ·cases h;exact aY Kn
 ·cases h;exact aY Ko
 ·cases h;exact aY Kp
 ·cases h;exact aY Kq
 ·cases h;exact aY Kr
 ·cases h;exact aY Ks
 ·cases h;exact aY Kt
 cases h
theorem hm:Go.Proofs.Tryz.prog.follows .mixedOrders=true:=by kernel_rfl
structure Ins where
 to:Int
 op:Int
 n:Int
 args:List Int
structure Edge where
 block:Int
 args:List Int
structure Term where
 kind:Int
 arg:Int
 n:Int
 cases:List Int
 to:List Edge
structure Block where
 params:List Int
 ins:List Ins
 term:Term
structure Func where
 name:Int
 blocks:List Block
structure cd where
 fns:List Func
 main:Int
abbrev aI(n:Int):ae:=.v (.int .i64 n)
abbrev aJ(l:List Int):ae:=.aA 1 (l.map aI) .sh
def Ins.enc(i:Ins):ae:=.agg [aI i.to,aI i.op,aI i.n,aJ i.args]
abbrev a7(l:List Ins):ae:=.aA 4 (l.map Ins.enc) .sh
def Edge.enc(e:Edge):ae:=.agg [aI e.block,aJ e.args]
abbrev aG(l:List Edge):ae:=.aA 2 (l.map Edge.enc) .sh
def Term.enc(t:Term):ae:=.agg [aI t.kind,aI t.arg,aI t.n,aJ t.cases,aG t.to]
def Block.enc(b:Block):ae:=.agg [aJ b.params,a7 b.ins,aI b.term.kind,aI b.term.arg,aI b.term.n,aJ b.term.cases,aG b.term.to]
abbrev aw(l:List Block):ae:=.aA 7 (l.map Block.enc) .sh
def Func.enc(f:Func):ae:=.agg [aI f.name,aw f.blocks]
abbrev bc(l:List Func):ae:=.aA 2 (l.map Func.enc) .sh
def cd.enc(u:cd):ae:=.agg [bc u.fns,aI u.main]
theorem ax(n:Nat)(l:List Int):av n (l.map aI):=by
 rw[aT];intro x hx;obtain⟨c,_,rfl⟩:=List.mem_map.1 hx;trivial
theorem Hn(l:List Int):(l.map aI).map ae.share=l.map aI:=by
 rw[List.map_map];rfl
theorem Ins.aj(i:Ins):i.enc.cells=[aI i.to,aI i.op,aI i.n,aJ i.args]:=rfl
theorem Ins.fold(i:Ins):ae.agg [aI i.to,aI i.op,aI i.n,aJ i.args]=i.enc:=rfl
theorem Ins.aO(n:Nat)(i:Ins):i.enc.upto n:=by
 simp only[Ins.enc,ae.upto,av,and_true,true_and,ax]
theorem Ins.ag(n:Nat)(l:List Ins):av n (l.map Ins.enc):=by
 rw[aT];intro x hx;obtain⟨c,_,rfl⟩:=List.mem_map.1 hx;exact c.aO n
theorem Ins.au(i:Ins):i.enc.flat:=trivial
theorem Ins.al(i:Ins):i.enc.share=i.enc:=rfl
theorem Ins.de(l:List Ins):(l.map Ins.enc).map ae.share=l.map Ins.enc:=by
 rw[List.map_map];rfl
theorem Edge.aj(e:Edge):e.enc.cells=[aI e.block,aJ e.args]:=rfl
theorem Edge.fold(e:Edge):ae.agg [aI e.block,aJ e.args]=e.enc:=rfl
theorem Edge.aO(n:Nat)(e:Edge):e.enc.upto n:=by
 simp only[Edge.enc,ae.upto,av,and_true,true_and,ax]
theorem Edge.ag(n:Nat)(l:List Edge):av n (l.map Edge.enc):=by
 rw[aT];intro x hx;obtain⟨c,_,rfl⟩:=List.mem_map.1 hx;exact c.aO n
theorem Edge.au(e:Edge):e.enc.flat:=trivial
theorem Edge.al(e:Edge):e.enc.share=e.enc:=rfl
theorem Edge.de(l:List Edge):(l.map Edge.enc).map ae.share=l.map Edge.enc:=by
 rw[List.map_map];rfl
theorem Term.aj(t:Term):t.enc.cells=[aI t.kind,aI t.arg,aI t.n,aJ t.cases,aG t.to]:=rfl
theorem Term.fold(t:Term):ae.agg [aI t.kind,aI t.arg,aI t.n,aJ t.cases,aG t.to]=t.enc:=rfl
theorem Term.aO(n:Nat)(t:Term):t.enc.upto n:=by
 simp only[Term.enc,ae.upto,av,and_true,true_and,ax,Edge.ag]
theorem Term.ag(n:Nat)(l:List Term):av n (l.map Term.enc):=by
 rw[aT];intro x hx;obtain⟨c,_,rfl⟩:=List.mem_map.1 hx;exact c.aO n
theorem Term.au(t:Term):t.enc.flat:=trivial
theorem Term.al(t:Term):t.enc.share=t.enc:=rfl
theorem Term.de(l:List Term):(l.map Term.enc).map ae.share=l.map Term.enc:=by
 rw[List.map_map];rfl
theorem Block.aj(b:Block):b.enc.cells=[aJ b.params,a7 b.ins,aI b.term.kind,aI b.term.arg,aI b.term.n,aJ b.term.cases,aG b.term.to]:=rfl
theorem Block.fold(b:Block):ae.agg [aJ b.params,a7 b.ins,aI b.term.kind,aI b.term.arg,aI b.term.n,aJ b.term.cases,aG b.term.to]=b.enc:=rfl
theorem Block.aO(n:Nat)(b:Block):b.enc.upto n:=by
 simp only[Block.enc,ae.upto,av,and_true,true_and,ax,Edge.ag,Ins.ag]
theorem Block.ag(n:Nat)(l:List Block):av n (l.map Block.enc):=by
 rw[aT];intro x hx;obtain⟨c,_,rfl⟩:=List.mem_map.1 hx;exact c.aO n
theorem Block.au(b:Block):b.enc.flat:=trivial
theorem Block.al(b:Block):b.enc.share=b.enc:=rfl
theorem Block.de(l:List Block):(l.map Block.enc).map ae.share=l.map Block.enc:=by
 rw[List.map_map];rfl
theorem Func.aj(f:Func):f.enc.cells=[aI f.name,aw f.blocks]:=rfl
theorem Func.fold(f:Func):ae.agg [aI f.name,aw f.blocks]=f.enc:=rfl
theorem Func.aO(n:Nat)(f:Func):f.enc.upto n:=by
 simp only[Func.enc,ae.upto,av,and_true,true_and,ax,Block.ag]
theorem Func.ag(n:Nat)(l:List Func):av n (l.map Func.enc):=by
 rw[aT];intro x hx;obtain⟨c,_,rfl⟩:=List.mem_map.1 hx;exact c.aO n
theorem Func.au(f:Func):f.enc.flat:=trivial
theorem Func.al(f:Func):f.enc.share=f.enc:=rfl
theorem Func.de(l:List Func):(l.map Func.enc).map ae.share=l.map Func.enc:=by
 rw[List.map_map];rfl
theorem cd.aj(u:cd):u.enc.cells=[bc u.fns,aI u.main]:=rfl
theorem cd.fold(u:cd):ae.agg [bc u.fns,aI u.main]=u.enc:=rfl
theorem cd.aO(n:Nat)(u:cd):u.enc.upto n:=by
 simp only[cd.enc,ae.upto,av,and_true,true_and,ax,Func.ag]
theorem cd.ag(n:Nat)(l:List cd):av n (l.map cd.enc):=by
 rw[aT];intro x hx;obtain⟨c,_,rfl⟩:=List.mem_map.1 hx;exact c.aO n
theorem cd.au(u:cd):u.enc.flat:=trivial
theorem cd.al(u:cd):u.enc.share=u.enc:=rfl
theorem cd.de(l:List cd):(l.map cd.enc).map ae.share=l.map cd.enc:=by
 rw[List.map_map];rfl
theorem Wa:Df Tryz.prog 3=some (.int .i64):=by
 unfold Df;rw[Tryz.underlying3]
def ca(n:Int):Prop:=-9223372036854775808<=n∧n<=9223372036854775807
def iv(l:List Int):Prop:=∀n∈l,ca n
def Ins.fit(i:Ins):Prop:=ca i.to∧ca i.op∧ca i.n∧iv i.args∧i.args.length<=2 ^ 47
def Edge.fit(e:Edge):Prop:=ca e.block∧iv e.args∧e.args.length<=2 ^ 47
def Term.fit(t:Term):Prop:=ca t.kind∧ca t.arg∧ca t.n∧iv t.cases∧t.cases.length<=2 ^ 47∧t.to.length<=2 ^ 47∧∀e∈t.to,e.fit
def Block.fit(b:Block):Prop:=iv b.params∧b.params.length<=2 ^ 47∧b.ins.length<=2 ^ 47∧(∀i∈b.ins,i.fit)∧b.term.fit
def Func.fit(f:Func):Prop:=ca f.name∧f.blocks.length<=2 ^ 47∧∀b∈f.blocks,b.fit
def cd.fit(u:cd):Prop:=ca u.main∧u.fns.length<=2 ^ 47∧∀f∈u.fns,f.fit
inductive SV where
 | mk (kind n:Int) (list:List SV) (arr:Option Nat)
def eP:Option Nat->ae
 | none=>.v (.pointer none)
 | some id=>.mp id 0
namespace SV
def kind:SV->Int|mk k _ _ _=>k
def n:SV->Int|mk _ n _ _=>n
def list:SV->List SV|mk _ _ l _=>l
def arr:SV->Option Nat|mk _ _ _ a=>a
mutual
def enc:SV->ae
 | mk k n l a=>.agg [aI k,aI n,.aA 4 (H7 l) .sh,eP a]
def H7:List SV->List ae
 | []=>[]
 | p::r=>p.enc::H7 r
end
theorem Aj:∀l:List SV,H7 l=l.map enc
 | []=>by simp[H7]
 | p::r=>by simp[H7,Aj r]
theorem fF(p:SV):p.enc=.agg [aI p.kind,aI p.n,.aA 4 (p.list.map enc) .sh,eP p.arr]:=by
 cases p with
 | mk k n l a=>simp[enc,kind,SV.n,list,arr,Aj]
theorem fold(p:SV):ae.agg [aI p.kind,aI p.n,.aA 4 (p.list.map enc) .sh,eP p.arr]=p.enc:=(fF p).symm
theorem jk(k n:Int)(l:List SV)(a:Option Nat):(mk k n l a).enc=.agg [aI k,aI n,.aA 4 (l.map enc) .sh,eP a]:=fF _
theorem aj(p:SV):p.enc.cells=[aI p.kind,aI p.n,.aA 4 (p.list.map enc) .sh,eP p.arr]:=by
 rw[fF];rfl
theorem Fe(p:SV):ae.agg p.enc.cells=p.enc:=by
 rw[aj,fold]
theorem _root_.Go.Proofs.YtjdnhamngpafmaaGreat.cf(a:Option Nat):(eP a).bg=eP a:=by cases a<;>rfl
theorem _root_.Go.Proofs.YtjdnhamngpafmaaGreat.FA(a:Option Nat):(eP a).scalar:=by cases a<;>trivial
theorem al(p:SV):p.enc.share=p.enc:=by
 rw[fF];have:=cf p.arr;unfold ae.bg at this;simp[ae.share,ae.bg,this]
theorem au(p:SV):p.enc.flat:=by
 rw[fF];trivial
theorem de(l:List SV):(l.map enc).map ae.share=l.map enc:=by
 rw[List.map_map];exact List.map_congr_left fun p _=>al p
theorem cZ(p:SV):p.enc.cells.length=4:=by
 rw[aj];rfl
inductive bj(n:Nat):SV->Prop
 | mk {k m:Int} {l:List SV} {a:Option Nat} (ha:∀id,a=some id->id<n) (hl:∀v,v∈l->bj n v):bj n (.mk k m l a)
theorem bj.mono{n m:Nat}(h:n<=m){v:SV}(k:bj n v):bj m v:=by
 induction k with
 | mk ha hl ih=>exact .mk (fun id e=>Nat.lt_of_lt_of_le (ha id e) h) ih
theorem Lu{n:Nat}{a:Option Nat}(h:∀id,a=some id->id<n):(eP a).upto n:=by
 cases a with
 | none=>trivial
 | some id=>exact h id rfl
theorem bj.aO{n:Nat}{p:SV}(h:bj n p):p.enc.upto n:=by
 induction h with
 | mk ha hl ih =>
  rw[jk];simp only[ae.upto,av,true_and,and_true];refine⟨?_,Lu ha⟩;rw[aT];intro x hx;obtain⟨v,hv,rfl⟩:=List.mem_map.1 hx;exact ih v hv
theorem ag{n:Nat}{l:List SV}(h:∀v∈l,bj n v):av n (l.map enc):=by
 rw[aT];intro x hx;obtain⟨v,hv,rfl⟩:=List.mem_map.1 hx;exact(h v hv).aO
theorem jj{n:Nat}{l:List SV}(h:∀v∈l,bj n v):av n (an (l.map enc)):=by
 rw[aT];intro c hc;simp only[an,List.mem_flatMap,List.mem_map]at hc;obtain⟨_,⟨p,hp,rfl⟩,hc⟩:=hc;have:=(h p hp).aO;rw[fF]at this;rw[aj]at hc;simp only[ae.upto,aT]at this;exact this c hc
theorem MI(l:List SV):(an (l.map enc)).length=l.length*4:=by
 rw[bz (sz:=4) (fun x hx=>by
  obtain⟨p,_,rfl⟩:=List.mem_map.1 hx;exact p.cZ)]
 simp
theorem E3:∀{l:List SV} {k:Nat} {p:SV},l[k]?=some p->((an (l.map enc)).drop (k*4)).take 4=p.enc.cells
 | q::r,0,p,h=>by
  simp only[List.getElem?_cons_zero,Option.some.injEq]at h;subst h;simp only[List.map_cons,an,List.flatMap_cons,Nat.zero_mul,List.drop_zero];rw[List.take_append_of_le_length (by rw[cZ];exact Nat.le_refl _),List.take_of_length_le (by rw[cZ];exact Nat.le_refl _)]
 | q::r,k+1,p,h=>by
  have ih:=E3 (l:=r) (k:=k) (p:=p) (by simpa using h);simp only[List.map_cons,an,List.flatMap_cons]at ih ⊢;rw[List.drop_append,List.drop_of_length_le (by rw[cZ];omega),cZ,show(k+1)*4-4=k*4 by omega];exact ih
theorem MJ{l:List SV}{k:Nat}(h:k<l.length)(q:SV):bh (an (l.map enc)) (k*4) q.enc.cells=an ((l.set k q).map enc):=by
 induction l generalizing k with
 | nil=>simp at h
 | cons p r ih =>
  cases k with
  | zero =>
   simp only[List.set_cons_zero,List.map_cons,an,List.flatMap_cons,bh,Nat.zero_mul,List.take_zero,List.nil_append,Nat.zero_add,cZ];rw[List.drop_append_of_le_length (by rw[cZ];exact Nat.le_refl _),List.drop_of_length_le (by rw[cZ];exact Nat.le_refl _)];rfl
  | succ k =>
   have:=ih (k:=k) (by simpa using h);simp only[List.set_cons_succ,List.map_cons,an,List.flatMap_cons,bh,cZ]at this ⊢;rw[List.take_append,List.drop_append,cZ,List.take_of_length_le (by rw[cZ];omega),List.drop_of_length_le (by rw[cZ];omega),show(k+1)*4-4=k*4 by omega,show(k+1)*4+4-4=k*4+4 by omega,List.nil_append,List.append_assoc,this]
def word(n:Int):SV:=mk 0 n [] none
def zero:SV:=mk 0 0 [] none
inductive Wf(f:Nat)(a:Nat->Prop):SV->Prop
 | mk {k m:Int} {l:List SV} {r:Option Nat}
   (h0:0<=k∧k<=4) (h1:k=0∨k=1->-1073741824<=m∧m<=1073741823) (h2:k=2->0<=m∧m<f) (h3:k=3->∃id,r=some id)
   (h4:k=4->∀v,v∈l->v.kind=0) (hl:l.length<=1000) (hr:∀id,r=some id->a id) (h:∀v,v∈l->Wf f a v):Wf f a (.mk k m l r)
theorem Wf.under{f n:Nat}{a:Nat->Prop}(ha:∀id,a id->id<n){v:SV}(h:Wf f a v):bj n v:=by
 induction h with
 | mk h0 h1 h2 h3 h4 hl hr h ih=>exact .mk (fun id e=>ha id (hr id e)) ih
theorem Wf.mono{f:Nat}{a b:Nat->Prop}(KL:∀id,a id->b id){v:SV}(h:Wf f a v):Wf f b v:=by
 induction h with
 | mk h0 h1 h2 h3 h4 hl hr h ih=>exact .mk h0 h1 h2 h3 h4 hl (fun id e=>KL id (hr id e)) ih
theorem Wf.word{f:Nat}{a:Nat->Prop}{n:Int}(h:-1073741824<=n∧n<=1073741823):Wf f a (word n) :=
 .mk (by omega) (fun _=>h) (by omega) (by omega) (by omega) (by simp) (by simp) (by simp)
theorem Wf.zero{f:Nat}{a:Nat->Prop}:Wf f a zero:=Wf.word (n:=0) (by omega)
theorem Wf.num{f:Nat}{a:Nat->Prop}{v:SV}(h:Wf f a v):v.kind=0∨v.kind=1->-1073741824<=v.n∧v.n<=1073741823:=by cases h;assumption
theorem Wf.fn{f:Nat}{a:Nat->Prop}{v:SV}(h:Wf f a v):v.kind=2->0<=v.n∧v.n<f:=by cases h;assumption
theorem Wf.array{f:Nat}{a:Nat->Prop}{v:SV}(h:Wf f a v):v.kind=3->∃id,v.arr=some id:=by cases h;assumption
theorem Wf.vec{f:Nat}{a:Nat->Prop}{v:SV}(h:Wf f a v):v.kind=4->∀x∈v.list,x.kind=0:=by cases h;assumption
theorem Wf.len{f:Nat}{a:Nat->Prop}{v:SV}(h:Wf f a v):v.list.length<=1000:=by cases h;assumption
theorem Wf.ref{f:Nat}{a:Nat->Prop}{v:SV}(h:Wf f a v):∀id,v.arr=some id->a id:=by cases h;assumption
theorem Wf.kids{f:Nat}{a:Nat->Prop}{v:SV}(h:Wf f a v):∀x∈v.list,Wf f a x:=by cases h;assumption
end SV
def iP:List (Int×SV)->Int->Option SV
 | [],_=>none
 | (k,v)::r,key=>if k=key then some v else iP r key
def eT:List (Int×SV)->Int->SV->List (Int×SV)
 | [],key,y=>[(key,y)]
 | (k,x)::r,key,y=>if k=key then(key,y)::r else(k,x)::eT r key y
def gz(e:Int×SV):Value×ae:=(.int .i64 e.1,e.2.enc)
theorem oG(k l:Int):lT (.int .i64 k) (.int .i64 l)=decide (k=l):=by
 simp[lT]
theorem lX(es:List (Int×SV))(k:Int):eY (es.map gz) (.int .i64 k)=(iP es k).map SV.enc:=by
 induction es with
 | nil=>rfl
 | cons p r ih =>
  obtain⟨a,v⟩:=p;simp only[List.map_cons,gz,eY,iP,oG,decide_eq_true_eq];split
  ·rfl
  exact ih
theorem qU(es:List (Int×SV))(k:Int)(v:SV):gf (es.map gz) (.int .i64 k) v.enc=(eT es k v).map gz:=by
 induction es with
 | nil=>rfl
 | cons p r ih =>
  obtain⟨a,x⟩:=p;simp only[List.map_cons,gz,gf,eT,oG,decide_eq_true_eq];split
  ·rfl
  simp only[List.map_cons,gz];rw[<-ih]
def iO(es:List (Int×SV))(k:Int):SV:=(iP es k).getD .zero
theorem xI{es:List (Int×SV)}{k:Int}{v:SV}(h:iP es k=some v):∃e∈es,e.2=v:=by
 induction es with
 | nil=>simp[iP]at h
 | cons p r ih =>
  obtain⟨a,x⟩:=p;simp only[iP]at h;split at h
  ·exact⟨(a,x),by simp,by simpa using h⟩
  obtain⟨e,h1,h2⟩:=ih h;exact⟨e,by simp[h1],h2⟩
theorem js{es:List (Int×SV)}{k:Int}{v:SV}{e:Int×SV}(h:e∈eT es k v):e∈es∨e=(k,v):=by
 induction es with
 | nil=>simpa[eT]using h
 | cons p r ih =>
  obtain⟨a,x⟩:=p;simp only[eT]at h;split at h
  ·rcases List.mem_cons.1 h with h|h
   ·exact .inr h
   exact .inl (by simp[h])
  rcases List.mem_cons.1 h with h|h
  ·exact .inl (by simp[h])
  rcases ih h with h|h
  ·exact .inl (by simp[h])
  exact .inr h
instance:Inhabited Ins:=⟨⟨0,0,0,[]⟩⟩
instance:Inhabited Edge:=⟨⟨0,[]⟩⟩
instance:Inhabited Term:=⟨⟨0,0,0,[],[]⟩⟩
instance:Inhabited Block:=⟨⟨[],[],default⟩⟩
instance:Inhabited Func:=⟨⟨0,[]⟩⟩
instance:Inhabited SV:=⟨.zero⟩
structure Fr where
 bR:Nat
 dn:Nat
 fn:Int
 blk:Int
 pos:Nat
 to:Int
 vals:List (Int×SV)
structure B2 where
 lr:Nat
 dO:Nat
 l:List SV
structure Mach where
 sid:Nat
 frames:List Fr
 heap:List B2
 next:Nat
 left:Int
 short:Bool
 over:Bool
 out:List Int
 fin:Int
 val:Int
def cx(u:cd)(k:Int):Func:=u.fns[k.toNat]?.getD default
def aF(f:Func)(k:Int):Block:=f.blocks[k.toNat]?.getD default
def ke(n:Int):Int:=(n+1073741824) % 2147483648-1073741824
def c5(op a b:Int):SV×Int :=
 if op=1 then(.word (ke (a+b)),0)
 else if op=2 then(.word (ke (a-b)),0)
 else if op=3 then(.word (ke (a*b)),0)
 else if op=6 then(.word (if a<b then 1 else 0),0)
 else if op=7 then(.word (if a=b then 1 else 0),0)
 else if b=0 then(.zero,1)
 else if op=4 then(.word (ke (a.tdiv b)),0)
 else(.word (a.tmod b),0)
def kD(l:List SV)(k:Int):Bool:=l.all fun v=>decide (v.kind=k)
def cu(l:List SV)(k:Nat):SV:=l[k]?.getD .zero
def cN(i:Ins)(args:List SV):SV×Int :=
 if i.op=11 then
  if((cu args 0).kind≠1∧(cu args 0).kind≠2)∨((cu args 0).list.length:Int)<=i.n then(.zero,5)else(cu (cu args 0).list i.n.toNat,0)
 else if(cu args 0).kind≠1 then(.zero,5)
 else if i.op=10 then(.word (cu args 0).n,0)
 else if i.op=12 then(.word (cu args 0).list.length,0)
 else if(cu args 1).kind≠0 then(.zero,5)
 else if(cu args 1).n<0∨((cu args 0).list.length:Int)<=(cu args 1).n then(.zero,2)
 else(cu (cu args 0).list (cu args 1).n.toNat,0)
def kq(op:Int):List SV->List SV->List SV
 | a::r,b::s=>(c5 op a.n b.n).1::kq op r s
 | _,_=>[]
def c6(i:Ins)(args:List SV):SV×Int :=
 if i.op=22 then
  if kD args 0 then(.mk 4 0 args none,0)else(.zero,5)
 else if i.op=24 then
  if(cu args 0).kind≠4∨((cu args 0).list.length:Int)<=i.n then(.zero,5)else(cu (cu args 0).list i.n.toNat,0)
 else if !kD args 4∨(cu args 0).list.length≠(cu args 1).list.length then(.zero,5)
 else(.mk 4 0 (kq i.n (cu args 0).list (cu args 1).list) none,0)
namespace Mach
def fG(m:Mach)(n:Int):Mach:=if m.left<n then { m with short:=true,over:=true }else { m with left:=m.left-n }
def stop(m:Mach)(e n:Int):Mach:={ m with over:=true,fin:=e,val:=n }
def jI:List B2->Option Nat->List SV
 | [],_=>[]
 | a::r,id=>if id=some a.lr then a.l else jI r id
def j9:List B2->Option Nat->List SV->List B2
 | [],_,_=>[]
 | a::r,id,l=>if id=some a.lr then⟨a.lr,a.dO,l⟩::r else a::j9 r id l
def bJ(m:Mach)(size fill:SV):Mach×SV×Int :=
 if size.kind≠0 then(m,.zero,5)
 else if size.n<0∨1024<size.n then(m,.zero,6)
 else if(m.fG size.n).short then(m.fG size.n,.zero,0)
 else({ m.fG size.n with heap:=m.heap++[⟨m.next+8,m.next+7,List.replicate size.n.toNat fill⟩],next:=m.next+9 },.mk 3 0 [] (some (m.next+8)),0)
def effect(m:Mach)(i:Ins)(args:List SV):Mach×SV×Int :=
 if i.op=15 then
  if(cu args 0).kind≠0 then(m,.zero,5)
  else if m.out.length=1000 then(m,.zero,6)
  else({ m with out:=m.out++[(cu args 0).n] },.word 0,0)
 else if i.op=16 then m.bJ (cu args 0) (cu args 1)
 else if i.op=18 then
  if !kD args 0 then(m,.zero,5)
  else if(cu args 0).n<0∨(cu args 1).n<=(cu args 0).n then(m,.zero,2)
  else(m,.word 0,0)
 else if(cu args 0).kind≠3∨(i.op≠17∧(cu args 1).kind≠0)then(m,.zero,5)
 else if i.op=17 then(m,.word (jI m.heap (cu args 0).arr).length,0)
 else if(cu args 1).n<0∨((jI m.heap (cu args 0).arr).length:Int)<=(cu args 1).n then(m,.zero,2)
 else if i.op=19 then(m,cu (jI m.heap (cu args 0).arr) (cu args 1).n.toNat,0)
 else({ m with heap:=j9 m.heap (cu args 0).arr ((jI m.heap (cu args 0).arr).set (cu args 1).n.toNat (cu args 2)) },.word 0,0)
def exec(m:Mach)(i:Ins)(args:List SV):Mach×SV×Int :=
 if i.op=0 then(m,.word i.n,0)
 else if 1<=i.op∧i.op<=7 then
  if !kD args 0 then(m,.zero,5)else(m,c5 i.op (cu args 0).n (cu args 1).n)
 else if i.op=8 then(m,.mk 1 i.n args none,0)
 else if i.op=9 then(m,.mk 2 i.n args none,0)
 else if i.op=10∨i.op=11∨i.op=12∨i.op=21 then(m,cN i args)
 else if i.op=22∨i.op=23∨i.op=24 then(m,c6 i args)
 else if i.op=100 then(m,cu args 0,0)
 else m.effect i args
end Mach
def gl:List (Int×SV)->List Int->List SV->List (Int×SV)
 | es,p::ps,a::l=>gl (eT es p a) ps l
 | es,_,_=>es
def fZ(es:List (Int×SV))(l:List Int):List SV:=l.map (iO es)
def iK(t:Term)(n:Int):Nat :=
 if t.kind=2 then(if n≠0 then 0 else 1)else t.cases.findIdx (· == n)
namespace Mach
def enter(u:cd)(m:Mach)(fn:Int)(args:List SV)(to:Int):Mach :=
 { m with sid:=m.next+2,next:=m.next+3,frames:=⟨m.next+1,m.next,fn,0,0,to,gl [] (aF (cx u fn) 0).params args⟩::m.frames }
def bP(m:Mach)(f:Fr):Mach:={ m with frames:=f::m.frames.tail }
def follow(u:cd)(m:Mach)(f:Fr)(e:Edge):Mach :=
 m.bP { f with blk:=e.block,pos:=0,vals:=gl f.vals (aF (cx u f.fn) e.block).params (fZ f.vals e.args) }
def leave(m:Mach)(f:Fr)(v:SV):Mach :=
 match m.frames.tail with
 | []=>{ m with frames:=[] }.stop 0 (if v.kind=0∨v.kind=1 then v.n else 0)
 | g::r=>{ m with frames:={ g with vals:=eT g.vals f.to v }::r }
def finish(u:cd)(m:Mach)(f:Fr)(t:Term):Mach :=
 if t.kind=4 then m.stop t.n 0
 else if t.kind=1 then m.follow u f (t.to[0]?.getD default)
 else if t.kind=0 then m.leave f (iO f.vals t.arg)
 else if(iO f.vals t.arg).kind≠0 then m.stop 5 0
 else m.follow u f (t.to[iK t (iO f.vals t.arg).n]?.getD default)
def settle(f:Fr)(to:Int)(r:Mach×SV×Int):Mach :=
 (if r.2.2≠0 then r.1.stop r.2.2 0 else r.1).bP { f with vals:=eT f.vals to r.2.1 }
def act(u:cd)(m:Mach)(f:Fr)(i:Ins)(args:List SV):Mach :=
 if i.op=13 then m.enter u i.n args i.to
 else if i.op=14 then
  if(cu args 0).kind=2∧(aF (cx u (cu args 0).n) 0).params.length=args.length then m.enter u (cu args 0).n args i.to else m.stop 5 0
 else settle f i.to (m.exec i args)
def step(u:cd)(m:Mach):Mach :=
 match m.frames with
 | []=>m
 | f::_ =>
  match (aF (cx u f.fn) f.blk).ins[f.pos]? with
  | none=>m.finish u f (aF (cx u f.fn) f.blk).term
  | some i=>(m.bP { f with pos:=f.pos+1 }).act u { f with pos:=f.pos+1 } i (fZ f.vals i.args)
def start(fuel:Int):Mach:=⟨0,[],[],4,fuel,false,false,[],0,0⟩
def run(u:cd):Nat->Mach->Mach
 | 0,m=>m
 | k+1,m=>if m.over then m else if(m.fG 1).short then m.fG 1 else run u k (step u (m.fG 1))
end Mach
structure QY where
 out:List Int
 fin:Int
 val:Int
 n:Int
 e:Int
def vo(u:cd)(fuel:Int):QY :=
 let m:=Mach.run u (fuel.toNat+2) ((Mach.start fuel).enter u u.main [] 0)
 if m.short then⟨[],0,0,0,13⟩else⟨m.out,m.fin,m.val,fuel-m.left,0⟩
def fv(n:Int):Prop:=-1073741824<=n∧n<=1073741823
structure Hk(u:cd)(i:Ins):Prop where
 op:(0<=i.op∧i.op<=24)∨i.op=100
 len:i.args.length<=4096
 fits:ca i.to∧ca i.n
 c0:i.op=0->fv i.n
 c2:(1<=i.op∧i.op<=7)∨i.op=16∨i.op=18∨i.op=19∨i.op=21∨i.op=23->i.args.length=2
 c1:i.op=10∨i.op=11∨i.op=12∨i.op=15∨i.op=17∨i.op=24∨i.op=100->i.args.length=1
 c3:i.op=20->i.args.length=3
 T4:i.op=8->fv i.n∧i.args.length<=16
 UJ:i.op=9->0<=i.n∧i.n<u.fns.length∧i.args.length<=16
 call:i.op=13->0<=i.n∧i.n<u.fns.length∧(aF (cx u i.n) 0).params.length=i.args.length
 app:i.op=14->1<=i.args.length
 UB:i.op=11∨i.op=24->0<=i.n
 pack:i.op=22->i.args.length<=16
 vec:i.op=23->i.n=1∨i.n=2∨i.n=3
structure x7(f:Func)(e:Edge):Prop where
 lo:0<=e.block
 hi:e.block<f.blocks.length
 args:e.args.length=(aF f e.block).params.length
 len:e.args.length<=4096
structure x8(f:Func)(t:Term):Prop where
 kind:0<=t.kind∧t.kind<=4
 n:0<=t.n∧t.n<=6
 jump:t.kind=1->t.to.length=1
 cond:t.kind=2->t.to.length=2
 switch:t.kind=3->t.to.length=t.cases.length+1
 gG:∀e∈t.to,x7 f e
 cl:t.cases.length<=2 ^ 40
structure K3(u:cd)(f:Func)(b:Block):Prop where
 ins:∀i∈b.ins,Hk u i
 term:x8 f b.term
 len:b.ins.length<=2 ^ 40
structure mh(u:cd):Prop where
 main:0<=u.main∧u.main<u.fns.length
 few:u.fns.length<=256
 none:(aF (cx u u.main) 0).params=[]
 ne:∀f∈u.fns,f.blocks≠[]∧f.blocks.length<=2 ^ 40
 blocks:∀f∈u.fns,∀b∈f.blocks,K3 u f b
def fX(u:cd)(m:Mach)(v:SV):Prop:=SV.Wf u.fns.length (fun id=>∃a∈m.heap,a.lr=id) v
structure nD(u:cd)(m:Mach)(f:Fr):Prop where
 fn:0<=f.fn∧f.fn<u.fns.length
 blk:0<=f.blk∧f.blk<(cx u f.fn).blocks.length
 pos:f.pos<=(aF (cx u f.fn) f.blk).ins.length
 vals:∀e∈f.vals,fX u m e.2
structure cb(u:cd)(m:Mach):Prop where
 frames:∀f∈m.frames,nD u m f
 gR:∀a∈m.heap,a.l.length<=1024∧∀v∈a.l,fX u m v
 left:0<=m.left
 depth:m.frames.length+m.left<=2 ^ 40
 out:m.out.length<=1000
 words:∀n∈m.out,fv n
 fin:0<=m.fin∧m.fin<=6
 val:fv m.val
 done:m.fin≠0->m.val=0
 over:m.over=false->m.frames≠[]∧m.short=false
def eB(b:Bool):ae:=.v (.bool b)
def aB(u:cd)(m:Mach):List ae:=[bc u.fns,aI u.main,.os m.sid m.frames.length 1,aI m.left,.v (.bool m.short),.v (.bool m.over),.aA 1 (m.out.map aI) (.tok 3),aI m.fin,aI m.val]
def aW(f:Fr):List ae:=[aI f.fn,aI f.blk,aI f.pos,aI f.to,.mm f.dn]
def eL(l:List Fr):List ae:=l.reverse.map fun f=>.mp f.bR 0
theorem I5(v:Int):KT.ok (.int .i64) (.int .i64 v)=True:=by simp[KT.ok]
theorem bt{O:List ak}{n k:Nat}{x:ak}(h:∀o∈O,o.upto n)(hx:x.upto n):∀o∈O.set k x,o.upto n:=fun o ho=>by
 rcases List.mem_or_eq_of_mem_set ho with q|q
 ·exact h o q
 subst q;exact hx
theorem jx{O:List ak}{n:Nat}{x:ak}(h:∀o∈O,o.upto n)(hx:x.upto n):∀o∈O++[x],o.upto n:=fun o ho=>by
 rcases List.mem_append.1 ho with q|q
 ·exact h o q
 simp only[List.mem_singleton]at q;subst q;exact hx
theorem ct{O:List ak}{k:Nat}{x:ak}:(O.set k x).take O.length=O.set k x:=List.take_of_length_le (by simp)
theorem cm{O X:List ak}{k:Nat}{x:ak}(h:O[k]?=some x):(O++X)[k]?=some x:=by
 rw[List.getElem?_append_left (I h),h]
theorem br{O:List ak}{k j:Nat}{x y:ak}(h:O[k]?=some x)(hj:j≠k):(O.set j y)[k]?=some x:=by
 rw[List.getElem?_set_ne hj,h]
theorem nF{O:List ak}{k:Nat}{x y:ak}(h:O[k]?=some x):(O.set k y)[k]?=some y:=List.getElem?_set_self (I h)
theorem ld{O X:List ak}{k:Nat}:(O++X)[O.length+k]?=X[k]?:=by
 rw[List.getElem?_append_right (by omega)];simp
theorem Ef{O X:List ak}:(O++X)[O.length]?=X[0]?:=ld (k:=0)
theorem BF{O X:List ak}{k:Nat}{y:ak}:(O++X).set (O.length+k) y=O++X.set k y:=by
 rw[List.set_append_right _ _ (by omega)];simp
theorem JH{O X:List ak}{y:ak}:(O++X).set O.length y=O++X.set 0 y:=BF (k:=0)
theorem JK{a y:ak}{X:List ak}:(a::X).set 0 y=y::X:=rfl
theorem JJ{a y:ak}{k:Nat}{X:List ak}:(a::X).set (k+1) y=a::X.set k y:=rfl
theorem JX{O X:List ak}:(O++X).take O.length=O:=by simp
end Go.Proofs.YtjdnhamngpafmaaGreat
namespace Go.Av
theorem Lf{P:Program}{kb:Nat}{c:Code}{Q:dt->St->Prop}{σ:St}{F:Prop}(hf:∀base a g,Rel base σ a g->F)(h:F->bX P kb c Q σ):bX P kb c Q σ:=fun base a g hb hr=>h (hf base a g hr) base a g hb hr
theorem fD{P:Program}{kb:Nat}{c:Code}{Q:dt->St->Prop}{n:Nat}{bn:List (Nat×ae)}{O:List ak}(s:Nat){sz:Nat}{xs:List ae}{o:m9}(hs:look bn s=some (.aA sz xs o))
  (h:xs.length<=2 ^ 62->bX P kb c Q ⟨n,bn,O⟩):bX P kb c Q ⟨n,bn,O⟩ :=
 Lf (fun _ _ _ hr=>by
  obtain⟨u,_,h2⟩:=hr.slot s _ hs;exact h2.EU) h
theorem qP:∀{l:List (Nat×ae)} {s:Nat} {x:ae},look l s=some x->(s,x)∈l
 | (k,y)::r,s,x,h=>by
  simp only[look]at h;split at h
  ·rename_i e;subst e;simp only[Option.some.injEq]at h;subst h;exact List.mem_cons_self
  exact List.mem_cons_of_mem _ (qP h)
theorem bp{P:Program}{kb:Nat}{c:Code}{Q:dt->St->Prop}{n:Nat}{bn:List (Nat×ae)}{O:List ak}(k:Nat)(cz:List (Nat×ae))(hk:k<=O.length)(FZ:kb<=k)(O':List ak)(Py:O.take k=O')(hb:∀o∈O',o.upto k)
  (hs:eQ ⟨n,bn,O⟩ cz) (ng:∀p∈cz,p.2.upto k) (h:bX P kb c Q ⟨n,cz,O'⟩):bX P kb c Q ⟨n,bn,O⟩ :=
 ru k hk FZ cz (by rw[Py];exact hb) hs (fun s x hx=>ng _ (qP hx)) (by rw[Py];exact h)
theorem kT{α:Type}(l:List α)(x:α):(l++[x])[l.length]?=some x:=by simp
theorem vC{α:Type}(l:List α)(x y:α):(l++[x]).set l.length y=l++[y]:=by simp
theorem xX{α:Type}(l m:List α):(l++m).take l.length=l:=by simp
theorem DU(cs:List ae):bh cs 0 []=cs:=by simp[bh]
theorem BK(c x:ae)(cs xs:List ae):bh (c::cs) 0 (x::xs)=x::bh cs 0 xs:=by simp[bh]
theorem BL(c:ae)(cs xs:List ae)(k:Nat):bh (c::cs) (k+1) xs=c::bh cs k xs:=by
 simp only[bh,List.take_succ_cons,List.cons_append,List.cons.injEq,true_and];rw[show k+1+xs.length=(k+xs.length)+1 by omega,List.drop_succ_cons]
theorem zh{α β:Type}(f:α->β)(l:List α):(l.map f).take l.length=l.map f:=List.take_of_length_le (by simp)
mutual
theorem ae.b8{n m:Nat}(h:n<=m):∀x:ae,x.upto n->x.upto m
 | .v _,_=>trivial
 | .agg cs,hx=>dq h cs hx
 | .aA _ xs o,hx=>by
  refine⟨dq h xs hx.1,?_⟩;have:=hx.2;cases o<;>first|trivial|exact Nat.lt_of_lt_of_le this h
 | .ip _ cs,hx=>dq h cs hx
 | .mp _ _,hx=>Nat.lt_of_lt_of_le hx h
 | .ms _ _ _ _,hx=>Nat.lt_of_lt_of_le hx h
 | .os _ _ _,hx=>Nat.lt_of_lt_of_le hx h
 | .raw _ _ _,hx=>Nat.lt_of_lt_of_le hx h
 | .mm _,hx=>Nat.lt_of_lt_of_le hx h
 | .im _ es,hx=>qd h es hx
 | .fn _ fs cs,hx=>⟨dq h fs hx.1,dq h cs hx.2⟩
 | .cw cs,hx=>dq h cs hx
theorem dq{n m:Nat}(h:n<=m):∀l:List ae,av n l->av m l
 | [],_=>trivial
 | x::r,hx=>⟨ae.b8 h x hx.1,dq h r hx.2⟩
theorem qd{n m:Nat}(h:n<=m):∀l:List (Value×ae),kW n l->kW m l
 | [],_=>trivial
 | (k,x)::r,hx=>⟨ae.b8 h x hx.1,qd h r hx.2⟩
end
theorem ak.b8{n m:Nat}(h:n<=m){o:ak}(ho:o.upto n):o.upto m:=by
 cases o with
 | cells cs=>exact dq h cs ho
 | map kt es=>exact qd h es ho
 | _=>trivial
theorem sub_self(O:List ak)(x:ae):Sub O x x=True:=by simp[Sub.refl]
theorem Sub.int{O:List ak}{k:IntKind}{a b:Int}(h:a=b):Sub O (.v (.int k a)) (.v (.int k b)):=.of_eq (by rw[h])
theorem ao{p:Unit->Prop}{t:Tag p}(h:p ()):wS p t:=h
theorem Lq(x:Value):ae.cells (.v x)=[.v x]:=rfl
theorem Pt(x:Value):ae.flat (.v x)=True:=rfl
theorem tJ(x:Value):ae.share (.v x)=.v x:=rfl
theorem cD(x:Value):ae.bg (.v x)=.v x:=rfl
theorem Ft(sz:Nat)(xs:List ae)(o:m9):ae.cells (.aA sz xs o)=[.aA sz xs o]:=rfl
theorem Ik(sz:Nat)(xs:List ae)(o:m9):ae.flat (.aA sz xs o)=True:=rfl
theorem GM(sz:Nat)(xs:List ae)(o:m9):ae.share (.aA sz xs o)=.aA sz xs .sh:=rfl
theorem bW(sz:Nat)(xs:List ae)(o:m9):ae.bg (.aA sz xs o)=.aA sz xs .sh:=rfl
theorem HF(oa:Option Addr)(cs:List ae):ae.cells (.ip oa cs)=[.ip oa cs]:=rfl
theorem Ly(oa:Option Addr)(cs:List ae):ae.flat (.ip oa cs)=True:=rfl
theorem JN(oa:Option Addr)(cs:List ae):ae.share (.ip oa cs)=.ip oa cs:=rfl
theorem dz(oa:Option Addr)(cs:List ae):ae.bg (.ip oa cs)=.ip oa cs:=rfl
theorem HH(id off:Nat):ae.cells (.mp id off)=[.mp id off]:=rfl
theorem LA(id off:Nat):ae.flat (.mp id off)=True:=rfl
theorem JP(id off:Nat):ae.share (.mp id off)=.mp id off:=rfl
theorem dB(id off:Nat):ae.bg (.mp id off)=.mp id off:=rfl
theorem Fu(sz n id:Nat):ae.cells (.raw sz n id)=[.raw sz n id]:=rfl
theorem Il(sz n id:Nat):ae.flat (.raw sz n id)=True:=rfl
theorem GN(sz n id:Nat):ae.share (.raw sz n id)=.raw sz n id:=rfl
theorem wN(sz n id:Nat):ae.bg (.raw sz n id)=.raw sz n id:=rfl
theorem HI(id off len cap:Nat):ae.cells (.ms id off len cap)=[.ms id off len cap]:=rfl
theorem LB(id off len cap:Nat):ae.flat (.ms id off len cap)=True:=rfl
theorem JQ(id off len cap:Nat):ae.share (.ms id off len cap)=.ms id off len cap:=rfl
theorem y9(id off len cap:Nat):ae.bg (.ms id off len cap)=.ms id off len cap:=rfl
theorem HG(id:Nat):ae.cells (.mm id)=[.mm id]:=rfl
theorem Lz(id:Nat):ae.flat (.mm id)=True:=rfl
theorem JO(id:Nat):ae.share (.mm id)=.mm id:=rfl
theorem dA(id:Nat):ae.bg (.mm id)=.mm id:=rfl
theorem HE(kt:KT)(es:List (Value×ae)):ae.cells (.im kt es)=[.im kt es]:=rfl
theorem Lx(kt:KT)(es:List (Value×ae)):ae.flat (.im kt es)=True:=rfl
theorem JM(kt:KT)(es:List (Value×ae)):ae.share (.im kt es)=.im kt es:=rfl
theorem dy(kt:KT)(es:List (Value×ae)):ae.bg (.im kt es)=.im kt es:=rfl
theorem HD(f:Fn)(fs cs:List ae):ae.cells (.fn f fs cs)=[.fn f fs cs]:=rfl
theorem Lw(f:Fn)(fs cs:List ae):ae.flat (.fn f fs cs)=True:=rfl
theorem JL(f:Fn)(fs cs:List ae):ae.share (.fn f fs cs)=.fn f fs cs:=rfl
theorem dx(f:Fn)(fs cs:List ae):ae.bg (.fn f fs cs)=.fn f fs cs:=rfl
theorem Fs(cs:List ae):ae.cells (.agg cs)=cs:=rfl
theorem flat_agg(cs:List ae):ae.flat (.agg cs)=True:=rfl
theorem GL(cs:List ae):ae.share (.agg cs)=.agg (cs.map ae.bg):=rfl
theorem GO(cs:List ae):ae.share (.cw cs)=.cw cs:=rfl
def aa:=And.intro @dR.eq_1 <|
 And.intro @dR.eq_2 <|
 And.intro @KA.eq_1 <|
 And.intro @vK.eq_1 <|
 And.intro @yR <|
 And.intro @Af <|
 And.intro @CH <|
 And.intro @dJ <|
 And.intro @dc <|
 And.intro @D5.eq_1 <|
 And.intro @ov.eq_1 <|
 And.intro @zv.eq_1 <|
 And.intro @D4.eq_1 <|
 And.intro @zz.eq_1 <|
 And.intro @ox.eq_1 <|
 And.intro @pz.eq_1 <|
 And.intro @pz.eq_2 <|
 And.intro @pz.eq_3 <|
 And.intro @pz.eq_4 <|
 And.intro @pz.eq_5 <|
 And.intro @pz.eq_6 <|
 And.intro @pz.eq_7 <|
 And.intro @OU.eq_1 <|
 And.intro @GB.eq_1 <|
 And.intro @GB.eq_2 <|
 And.intro @GB.eq_3 <|
 And.intro @E8.eq_1 <|
 And.intro @KC.eq_1 <|
 And.intro @KC.eq_2 <|
 And.intro @KC.eq_3 <|
 And.intro @G6.eq_1 <|
 And.intro @G6.eq_2 <|
 And.intro @zy.eq_1 <|
 And.intro @BO.eq_1 <|
 And.intro @BO.eq_2 <|
 And.intro @zl.eq_1 <|
 And.intro @m7.eq_1 <|
 And.intro @oy.eq_1 <|
 And.intro @vJ.eq_1 <|
 And.intro @jV.eq_1 <|
 And.intro @sd.eq_1 <|
 And.intro @zw.eq_1 <|
 And.intro @zo.eq_1 <|
 And.intro @Lb.eq_1 <|
 And.intro @La.eq_1 <|
 And.intro @TD.maps.eq_1 <|
 And.intro @tC.eq_1 <|
 And.intro @Kx.eq_1 <|
 And.intro @vH.eq_1 <|
 And.intro @Kz.eq_1 <|
 And.intro @Kw.eq_1 <|
 And.intro @zn.eq_1 <|
 And.intro @zm.eq_1 <|
 And.intro @zm.eq_2 <|
 And.intro @dQ.eq_1 <|
 And.intro @dQ.eq_2 <|
 And.intro @dQ.eq_3 <|
 And.intro @dQ.eq_4 <|
 And.intro @dQ.eq_5 <|
 And.intro @dQ.eq_6 <|
 And.intro @dQ.eq_7 <|
 And.intro @dQ.eq_8 <|
 And.intro @dQ.eq_9 <|
 And.intro @dQ.eq_10 <|
 And.intro @dQ.eq_11 <|
 And.intro @dQ.eq_12 <|
 And.intro @dQ.eq_13 <|
 And.intro @dQ.eq_14 <|
 And.intro @KB.eq_1 <|
 And.intro @Ky.eq_1 <|
 And.intro @kX.eq_1 <|
 And.intro @kX.eq_2 <|
 @kX.eq_3
def Wk:=And.intro @Qo <|
 And.intro @qR.eq_1 <|
 And.intro @qR.eq_2 <|
 And.intro @qR.eq_3 <|
 And.intro @qR.eq_4 <|
 And.intro @qR.eq_5 <|
 And.intro @qz.eq_1 <|
 And.intro @qz.eq_2 <|
 And.intro @isNil.eq_1 <|
 And.intro @isNil.eq_2 <|
 And.intro @St.ev.eq_1 <|
 And.intro @St.ev.eq_2 <|
 And.intro @St.ev.eq_3 <|
 And.intro @St.ev.eq_4 <|
 And.intro @St.get.eq_1 <|
 And.intro @iV.eq_1 <|
 And.intro @iV.eq_2 <|
 And.intro @lb.eq_1 <|
 And.intro @lb.eq_2 <|
 And.intro @look.eq_1 <|
 And.intro @look.eq_2 <|
 And.intro @slotsOf.eq_1 <|
 And.intro @slotsOf.eq_2 <|
 And.intro @HZ.eq_1 <|
 And.intro @HZ.eq_2 <|
 And.intro @pc.eq_1 <|
 And.intro @pc.eq_2 <|
 And.intro @bw.eq_1 <|
 And.intro @a8.eq_1 <|
 And.intro @a8.eq_2 <|
 And.intro @qE.eq_1 <|
 And.intro @qE.eq_2 <|
 And.intro @Mode.post.eq_1 <|
 And.intro @Mode.post.eq_2 <|
 And.intro @Mode.post.eq_3 <|
 And.intro @Mode.post.eq_4 <|
 And.intro @Mode.kind.eq_1 <|
 And.intro @Mode.kind.eq_2 <|
 And.intro @Mode.kind.eq_3 <|
 And.intro @Mode.kind.eq_4 <|
 And.intro @Mode.kind.eq_5 <|
 And.intro @Mode.kind.eq_6 <|
 And.intro @Lq <|
 And.intro @Pt <|
 And.intro @tJ <|
 And.intro @cD <|
 And.intro @Ft <|
 And.intro @Ik <|
 And.intro @GM <|
 And.intro @bW <|
 And.intro @HF <|
 And.intro @Ly <|
 And.intro @JN <|
 And.intro @dz <|
 And.intro @HH <|
 And.intro @LA <|
 And.intro @JP <|
 And.intro @dB <|
 And.intro @Fu <|
 And.intro @Il <|
 And.intro @GN <|
 And.intro @wN <|
 And.intro @HI <|
 And.intro @LB <|
 And.intro @JQ <|
 And.intro @y9 <|
 And.intro @HG <|
 And.intro @Lz <|
 And.intro @JO <|
 And.intro @dA <|
 And.intro @HE <|
 And.intro @Lx <|
 And.intro @JM <|
 And.intro @dy <|
 And.intro @HD <|
 And.intro @Lw <|
 And.intro @JL <|
 And.intro @dx <|
 And.intro @Fs <|
 And.intro @flat_agg <|
 And.intro @GL <|
 And.intro @GO <|
 And.intro @rr.eq_1 <|
 And.intro @rr.eq_2 <|
 And.intro @rr.eq_3 <|
 And.intro @rr.eq_4 <|
 And.intro @kG.eq_1 <|
 And.intro @kG.eq_2 <|
 And.intro @kG.eq_3 <|
 And.intro @kG.eq_4 <|
 And.intro @kG.eq_5 <|
 And.intro @kG.eq_6 <|
 And.intro @kG.eq_7 <|
 And.intro @eA.eq_1 <|
 And.intro @eA.eq_2 <|
 And.intro @eA.eq_3 <|
 And.intro @eA.eq_4 <|
 And.intro @eA.eq_5 <|
 And.intro @eA.eq_6 <|
 And.intro @eA.eq_7 <|
 And.intro @eA.eq_8 <|
 And.intro @eA.eq_9 <|
 And.intro @eU.eq_1 <|
 And.intro @dv.eq_1 <|
 And.intro @dv.eq_2 <|
 And.intro @dv.eq_3 <|
 And.intro @dv.eq_4 <|
 And.intro @dv.eq_5 <|
 And.intro @dv.eq_6 <|
 And.intro @dv.eq_7 <|
 And.intro @dv.eq_8 <|
 And.intro @dv.eq_9 <|
 And.intro @dv.eq_10 <|
 And.intro @dv.eq_11 <|
 And.intro @dv.eq_12 <|
 And.intro @dv.eq_13 <|
 And.intro @dv.eq_14 <|
 And.intro @dv.eq_15 <|
 And.intro @dv.eq_16 <|
 And.intro @dv.eq_17 <|
 And.intro @ux.eq_1 <|
 And.intro @ux.eq_2 <|
 And.intro @ux.eq_3 <|
 And.intro @qA.eq_1 <|
 And.intro @qA.eq_2 <|
 And.intro @qA.eq_3 <|
 And.intro @Bool.and_true <|
 And.intro @Bool.true_and <|
 And.intro @Bool.and_false <|
 And.intro @Bool.false_and <|
 And.intro @Bool.and_self <|
 And.intro @Dq.eq_1 <|
 And.intro @Dq.eq_2 <|
 And.intro @Dq.eq_3 <|
 And.intro @Dq.eq_4 <|
 And.intro @jF.eq_1 <|
 And.intro @jF.eq_2 <|
 And.intro @jF.eq_3 <|
 And.intro @HA.eq_1 <|
 And.intro @HA.eq_2 <|
 And.intro @St.Aq.eq_1 <|
 And.intro @St.Aq.eq_2 <|
 And.intro @St.eR.eq_1 <|
 And.intro @St.eR.eq_2 <|
 And.intro @mi.eq_1 <|
 And.intro @mi.eq_2 <|
 And.intro @qk.eq_1 <|
 And.intro @qk.eq_2 <|
 And.intro @iN.eq_1 <|
 And.intro @iN.eq_2 <|
 And.intro @DU <|
 And.intro @BK <|
 And.intro @BL <|
 And.intro @gv.eq_1 <|
 And.intro @gv.eq_2 <|
 And.intro @iT.eq_1 <|
 And.intro @iT.eq_2 <|
 And.intro @TD.agg.eq_1 <|
 And.intro @TD.agg.eq_2 <|
 And.intro @TD.agg.eq_3 <|
 And.intro @TD.elem.eq_1 <|
 And.intro @TD.elem.eq_2 <|
 And.intro @pS.eq_1 <|
 And.intro @pS.eq_2 <|
 And.intro @pS.eq_3 <|
 And.intro @ll.eq_1 <|
 And.intro @zeroOf.eq_1 <|
 And.intro @KZ.eq_1 <|
 And.intro @KZ.eq_2 <|
 And.intro @KZ.eq_3 <|
 And.intro @KZ.eq_4 <|
 And.intro @KZ.eq_5 <|
 And.intro @FX.eq_1 <|
 And.intro @FX.eq_2 <|
 And.intro @FX.eq_3 <|
 And.intro @FX.eq_4 <|
 And.intro @FX.eq_5 <|
 And.intro @FX.eq_6 <|
 And.intro @FX.eq_7 <|
 And.intro @FX.eq_8 <|
 And.intro @and_self <|
 And.intro @true_and <|
 And.intro @and_true <|
 And.intro @not_false_eq_true <|
 And.intro @List.nil_append.{0} <|
 And.intro @List.cons_append.{0} <|
 And.intro @List.append_nil.{0} <|
 And.intro @List.length_nil.{0} <|
 And.intro @List.length_cons.{0} <|
 And.intro @List.getElem?_cons_zero.{0} <|
 And.intro @List.getElem?_cons_succ.{0} <|
 And.intro @List.getElem?_nil.{0} <|
 And.intro @List.take_succ_cons.{0} <|
 And.intro @List.take_zero.{0} <|
 And.intro @List.take_nil.{0} <|
 And.intro @List.drop_succ_cons.{0} <|
 And.intro @List.drop_zero.{0} <|
 And.intro @List.drop_nil.{0} <|
 And.intro @List.set_cons_zero.{0} <|
 And.intro @List.set_cons_succ.{0} <|
 And.intro @List.map_cons.{0,0} <|
 And.intro @List.map_nil.{0,0} <|
 And.intro @Option.map_none.{0,0} <|
 And.intro @Option.map_some.{0,0} <|
 And.intro @Option.isSome_some.{0} <|
 And.intro @Option.isSome_none.{0} <|
 And.intro @Option.bind_some.{0,0} <|
 And.intro @Bool.false_eq_true <|
 And.intro @Bool.not_true <|
 And.intro @Bool.not_false <|
 And.intro @beq_self_eq_true.{0} <|
 And.intro @List.getElem?_toArray.{0} <|
 And.intro @Nat.zero_add <|
 And.intro @Nat.add_zero <|
 And.intro @decide_true <|
 And.intro @decide_false <|
 And.intro @beq_true <|
 And.intro @beq_false <|
 And.intro @Bool.true_beq <|
 And.intro @Bool.false_beq <|
 And.intro @Bool.not_not <|
 And.intro @decide_eq_true_eq <|
 And.intro @decide_eq_false_iff_not <|
 And.intro @Bool.not_eq_true' <|
 And.intro @Bool.not_eq_false' <|
 And.intro @Bool.not_eq_true <|
 And.intro @Bool.not_eq_false <|
 And.intro @Int.toNat_natCast <|
 And.intro @Int.natCast_zero <|
 And.intro @Int.sub_zero <|
 And.intro @Int.add_zero <|
 And.intro @Int.zero_add <|
 And.intro @Int.toNat_zero <|
 And.intro @List.getElem?_map.{0,0} <|
 And.intro @Int.natCast_nonneg <|
 And.intro @List.length_map.{0,0} <|
 And.intro @List.not_mem_nil.{0} <|
 And.intro @false_implies <|
 And.intro @List.length_append.{0} <|
 And.intro @or_false <|
 And.intro @or_true <|
 And.intro @true_or <|
 And.intro @false_or <|
 And.intro @or_self <|
 And.intro @kT <|
 And.intro @vC <|
 And.intro @zh <|
 @Nat.le_refl
def bI:=And.intro @y7 <|
 And.intro @y6 <|
 And.intro @lp <|
 And.intro @tY <|
 And.intro @jB <|
 And.intro @tZ <|
 And.intro @sS <|
 And.intro @wI <|
 And.intro @kl <|
 And.intro @wH <|
 @not_false_eq_true
def G.cut(g:G)(n:Nat):G:=⟨g.w,fun b off=>g.fr b off∨∃(id:Nat) (l:Loc) (o:ak),n<=id∧g.env[id]?=some (some l)∧g.objs[id]?=some o∧o.live∧l.block=b∧l.lo<=off,g.env.take n,g.objs.take n⟩
theorem bx{α:Type}{l:List α}{n i:Nat}{x:α}:(l.take n)[i]?=some x↔i<n∧l[i]?=some x:=by
 rw[List.getElem?_take];split
 ·rename_i h;simp[h]
 rename_i h;simp[h]
theorem tr{g:G}{n b off:Nat}:iX (g.cut n) b off↔iX g b off:=by
 constructor
 ·rintro((h|⟨id,l,o,_,h1,h2,h3,h4,h5⟩)|⟨id,l,o,h1,h2,h3,h4,h5⟩)
  ·exact .inl h
  ·exact .inr ⟨id,l,o,h1,h2,h3,h4,h5⟩
  exact .inr ⟨id,l,o,(bx.1 h1).2,(bx.1 h2).2,h3,h4,h5⟩
 rintro(h|⟨id,l,o,h1,h2,h3,h4,h5⟩)
 ·exact .inl (.inl h)
 rcases Nat.lt_or_ge id n with bf|pq
 ·exact .inr ⟨id,l,o,bx.2 ⟨bf,h1⟩,bx.2 ⟨bf,h2⟩,h3,h4,h5⟩
 exact .inl (.inr ⟨id,l,o,pq,h1,h2,h3,h4,h5⟩)
theorem RV.cut{g:G}{n:Nat}(uO:n<=g.objs.length){x:ae}{u:Value}(h:RV g x u)(hb:x.upto n):RV (g.cut n) x u:=by
 induction h with
 | v hx=>exact .v hx
 | agg hl df _ ih =>
  simp only[ae.upto,aT]at hb;exact .agg hl df fun i c u a b=>ih i c u a b (hb c (List.mem_of_getElem? a))
 | nil ho yH =>
  simp only[ae.upto]at hb;refine .nil (fun id e=>?_) yH;subst e;have:=hb.2;simp only at this;simp only[G.cut,List.length_take];omega
 | aA cH df cP cy hs f hm hr ho ih =>
  rename_i sz xs o a cap;simp only[ae.upto,aT]at hb;refine .aA cH df cP cy hs f (fun j c hj=>⟨(hm j c hj).1,fun q=>(hm j c hj).2 (tr.1 q)⟩) (fun j c hj=>ih j c hj ?_) ?_
  ·have hc:=List.mem_of_getElem? hj;simp only[an,List.mem_flatMap]at hc;obtain⟨x,hx,hc⟩:=hc;have:=hb.1 x hx;cases x with
   | agg cs =>
    simp only[ae.upto,aT]at this;exact this c hc
   | _=>simp only[ae.cells,List.mem_singleton]at hc;subst hc;exact this
  cases o with
  | sh=>trivial
  | nn=>trivial
  | ex=>exact ho
  | loc a=>exact ho
  | tok id =>
   have fK:=hb.2;simp only at fK;refine⟨by simp only[G.cut,List.length_take];omega,fun m dS=>?_⟩;obtain⟨h1,h2⟩:=ho.2 m (bx.1 dS).2;refine⟨h1,fun e=>?_⟩;rcases h2 e with q|⟨l,arr,t,q1,q2⟩
   ·exact .inl q
   exact .inr ⟨l,arr,t,bx.2 ⟨fK,q1⟩,q2⟩
 | ip ha df f hm hr ih =>
  simp only[ae.upto,aT]at hb;exact .ip ha df f (fun j c hj=>⟨(hm j c hj).1,fun q=>(hm j c hj).2 (tr.1 q)⟩) fun j c hj=>ih j c hj (hb c (List.mem_of_getElem? hj))
 | mp he ho jm =>
  simp only[ae.upto]at hb;exact .mp (bx.2 ⟨hb,he⟩) (bx.2 ⟨hb,ho⟩) jm
 | ms he ho jm hc qh cy =>
  simp only[ae.upto]at hb;exact .ms (bx.2 ⟨hb,he⟩) (bx.2 ⟨hb,ho⟩) jm hc qh cy
 | os he ho jm hc qh cy =>
  simp only[ae.upto]at hb;exact .os (bx.2 ⟨hb,he⟩) (bx.2 ⟨hb,ho⟩) jm hc qh cy
 | raw yH ho =>
  rename_i sz n0 id a cap;have fK:id<n:=hb;refine .raw yH ⟨by simp only[G.cut,List.length_take];omega,fun m dS=>?_⟩;obtain⟨h1,h2⟩:=ho.2 m (bx.1 dS).2;refine⟨h1,fun e=>?_⟩;rcases h2 e with q|⟨l,arr,t,q1,q2⟩
  ·exact .inl q
  exact .inr ⟨l,arr,t,bx.2 ⟨fK,q1⟩,q2⟩
 | mm he ho jm =>
  simp only[ae.upto]at hb;exact .mm (bx.2 ⟨hb,he⟩) (bx.2 ⟨hb,ho⟩) jm
 | im hh jm hl hk uN Iy _ ih =>
  simp only[ae.upto,kA]at hb;exact .im hh (fun off q=>jm off (tr.1 q)) hl hk uN Iy fun i e kx a b=>ih i e kx a b (hb kx (List.mem_of_getElem? b))
 | fn hl zF _ _ ih EO =>
  simp only[ae.upto,aT]at hb;exact .fn hl zF (fun i c u a b=>ih i c u a b (hb.1 c (List.mem_of_getElem? a))) fun i c u a b=>EO i c u a b (hb.2 c (List.mem_of_getElem? a))
 | cw hl _ ih =>
  simp only[ae.upto,aT]at hb;exact .cw hl fun i c u a b=>ih i c u a b (hb c (List.mem_of_getElem? a))
theorem Good.cut{g:G}(hg:Good g){n:Nat}(hn:n<=g.objs.length)(hb:∀o∈g.objs.take n,o.upto n):Good (g.cut n) where
 frlt:=fun b off h=>by
  rcases h with h|⟨id,l,o,_,h1,h2,h3,h4,_⟩
  ·exact hg.frlt b off h
  exact h4 ▸ hg.loc id l o h1 h2 h3
 fm:=fun id l o h1 h2 h3 off h=>by
  obtain⟨q1,h1⟩:=bx.1 h1;obtain⟨_,h2⟩:=bx.1 h2;rcases h with h|⟨lE,l',o',k0,k1,k2,k3,k4,_⟩
  ·exact hg.fm id l o h1 h2 h3 off h
  have:=hg.apart id lE l l' o o' h1 h2 h3 k1 k2 k3 k4.symm;omega
 len:=by simp[G.cut,hg.len]
 loc:=fun id l o h1 h2 h3=>hg.loc id l o (bx.1 h1).2 (bx.1 h2).2 h3
 apart:=fun id lE l l' o o' h1 h2 h3 k1 k2 k3=>hg.apart id lE l l' o o' (bx.1 h1).2 (bx.1 h2).2 h3 (bx.1 k1).2 (bx.1 k2).2 k3
 cells:=fun id cs h1=>by
  have CV:=hb _ (List.mem_of_getElem? h1);obtain⟨q,h1⟩:=bx.1 h1;obtain⟨l,arr,t,e1,e0,e2,e3,e4,e5⟩:=hg.cells id cs h1;simp only[ak.upto,aT]at CV;exact⟨l,arr,t,bx.2 ⟨q,e1⟩,e0,e2,e3,fun j c u a b=>(e4 j c u a b).cut hn (CV c (List.mem_of_getElem? a)),e5⟩
 spare:=fun id m l h1 h2=>hg.spare id m l (bx.1 h1).2 (bx.1 h2).2
 map:=fun id kt es h1=>by
  have CV:=hb _ (List.mem_of_getElem? h1);obtain⟨q,h1⟩:=bx.1 h1;obtain⟨l,ob,e1,e0,e2,e3⟩:=hg.map id kt es h1;simp only[ak.upto,kA]at CV;exact⟨l,ob,bx.2 ⟨q,e1⟩,e0,e2,e3.imp (fun p hp u r=>r.cut hn (CV p hp)) fun m clk arr q1 q2=>⟨q1,fun off q=>q2 off (tr.1 q)⟩⟩
def G.fV(g:G)(n:Nat)(g':G):G:=⟨g'.w,g.fr,g'.env++g.env.drop n,g'.objs++g.objs.drop n⟩
theorem aM{α:Type}{a l:List α}{n i:Nat}{x:α}(ha:a.length=n):(a++l.drop n)[i]?=some x↔(i<n∧a[i]?=some x)∨(n<=i∧l[i]?=some x):=by
 rw[List.getElem?_append];split
 ·rename_i h;constructor
  ·intro e;exact .inl ⟨by omega,e⟩
  rintro(⟨_,e⟩|⟨q,_⟩)
  ·exact e
  omega
 rename_i h;rw[List.getElem?_drop,show n+(i-a.length)=i by omega];constructor
 ·intro e;exact .inr ⟨by omega,e⟩
 rintro(⟨q,_⟩|⟨_,e⟩)
 ·omega
 exact e
structure qi(g:G)(n:Nat)(g':G):Prop where
 good:Good g
 le:Le (g.cut n) g'
 qI:Good g'
 lt:n<=g.objs.length
 same:g'.objs.length=n
theorem qi.env{g g':G}{n:Nat}(h:qi g n g'):g'.env.length=n:=h.qI.len.trans h.same
theorem qi.We{g g':G}{n b:Nat}(h:qi g n g')(hn:fJ (g.fV n g') b):fJ g' b∨∃(id:Nat) (l:Loc) (o:ak),n<=id∧g.env[id]?=some (some l)∧g.objs[id]?=some o∧o.live∧l.block=b:=by
 obtain⟨id,l,o,h1,h2,h3,h4⟩:=hn;rcases(aM h.env).1 h1 with⟨q1,h1⟩|⟨q1,h1⟩
 ·rcases(aM h.same).1 h2 with⟨q2,h2⟩|⟨q2,h2⟩
  ·exact .inl ⟨id,l,o,h1,h2,h3,h4⟩
  omega
 rcases(aM h.same).1 h2 with⟨q2,h2⟩|⟨q2,h2⟩
 ·omega
 exact .inr ⟨id,l,o,q1,h1,h2,h3,h4⟩
theorem qi.own{g g':G}{n b off:Nat}(h:qi g n g'):iX (g.fV n g') b off->iX g' b off:=by
 rintro(hf|⟨id,l,o,h1,h2,h3,h4,h5⟩)
 ·refine .inl ?_;rw[h.le.fr];exact .inl hf
 rcases(aM h.env).1 h1 with⟨q1,h1⟩|⟨q1,h1⟩
 ·rcases(aM h.same).1 h2 with⟨q2,h2⟩|⟨q2,h2⟩
  ·exact .inr ⟨id,l,o,h1,h2,h3,h4,h5⟩
  omega
 rcases(aM h.same).1 h2 with⟨q2,h2⟩|⟨q2,h2⟩
 ·omega
 refine .inl ?_;rw[h.le.fr];exact .inr ⟨id,l,o,q1,h1,h2,h3,h4,h5⟩
theorem HS{g:G}{n b:Nat}(h:fJ (g.cut n) b):fJ g b:=by
 obtain⟨id,l,o,h1,h2,h3,h4⟩:=h;exact⟨id,l,o,(bx.1 h1).2,(bx.1 h2).2,h3,h4⟩
theorem HT{g:G}{n b off:Nat}(h:jH (g.cut n) b off):jH g b off:=by
 obtain⟨id,l,o,h1,h2,h3,h4,h5⟩:=h;exact⟨id,l,o,(bx.1 h1).2,(bx.1 h2).2,h3,h4,h5⟩
theorem qi.block{g g':G}{n:Nat}(h:qi g n g'){id:Nat}{l:Loc}{o:ak}(fK:n<=id)(h1:g.env[id]?=some (some l))(h2:g.objs[id]?=some o)(h3:o.live):g'.w.heap[l.block]?=g.w.heap[l.block]?:=by
 refine(h.le.block l.block (h.good.loc id l o h1 h2 h3) ?_).1;rintro⟨lE,l',o',k1,k2,k3,k4⟩;obtain⟨q,k1⟩:=bx.1 k1;have:=h.good.apart lE id l' l o' o k1 (bx.1 k2).2 k3 h1 h2 h3 k4;omega
theorem qi.Wd{g g':G}{n:Nat}(h:qi g n g'):Le g (g.fV n g') where
 os:=h.le.os
 tape:=h.le.tape
 output:=h.le.output
 fr:=rfl
 size:=h.le.size
 block:=fun k hk hh=>by
  obtain⟨q1,q2⟩:=h.le.block k hk (fun q=>hh (HS q));refine⟨q1,fun q=>?_⟩;rcases h.We q with q|⟨id,l,o,_,q⟩
  ·exact q2 q
  exact hh ⟨id,l,o,q⟩
 cell:=fun b off x hx hh=>by
  obtain⟨q1,q2⟩:=h.le.cell b off x hx (fun q=>hh (HT q));refine⟨q1,fun q=>?_⟩;obtain⟨id,l,o,h1,h2,h3,h4,h5⟩:=q;rcases(aM h.env).1 h1 with⟨e1,h1⟩|⟨e1,h1⟩
  ·rcases(aM h.same).1 h2 with⟨e2,h2⟩|⟨e2,h2⟩
   ·exact q2 ⟨id,l,o,h1,h2,h3,h4,h5⟩
   omega
  rcases(aM h.same).1 h2 with⟨e2,h2⟩|⟨e2,h2⟩
  ·omega
  exact hh ⟨id,l,o,h1,h2,h3,h4,h5⟩
 len:=by
  simp only[G.fV,List.length_append,List.length_drop,h.same];omega
 spare:=fun id m hm=>by
  rcases Nat.lt_or_ge id n with q|q
  ·rcases h.le.spare id m (bx.2 ⟨q,hm⟩)with⟨m',k1,k2⟩|⟨o',k1,k2⟩
   ·exact .inl ⟨m',(aM h.same).2 (.inl ⟨q,k1⟩),k2⟩
   exact .inr ⟨o',(aM h.same).2 (.inl ⟨q,k1⟩),k2⟩
  exact .inl ⟨m,(aM h.same).2 (.inr ⟨q,hm⟩),Nat.le_refl _⟩
 plain:=fun id o ho hs=>by
  have bf:=I ho;have he:g.env[id]?=some (g.env[id]'(by rw[h.good.len];exact bf)):=List.getElem?_eq_getElem _;rcases Nat.lt_or_ge id n with q|q
  ·obtain⟨⟨o',k1,k2⟩,k3⟩:=h.le.plain id o (bx.2 ⟨q,ho⟩) hs;refine⟨⟨o',(aM h.same).2 (.inl ⟨q,k1⟩),k2⟩,?_⟩;rw[he];refine(aM h.env).2 (.inl ⟨q,?_⟩);rw[k3];exact bx.2 ⟨q,he⟩
  refine⟨⟨o,(aM h.same).2 (.inr ⟨q,ho⟩),hs⟩,?_⟩;rw[he];exact(aM h.env).2 (.inr ⟨q,he⟩)
 gone:=fun id ho=>by
  rcases Nat.lt_or_ge id n with q|q
  ·exact(aM h.same).2 (.inl ⟨q,h.le.gone id (bx.2 ⟨q,ho⟩)⟩)
  exact(aM h.same).2 (.inr ⟨q,ho⟩)
 tok:=fun id m hm dS=>by
  have bf:=I hm;have he:g.env[id]?=some (g.env[id]'(by rw[h.good.len];exact bf)):=List.getElem?_eq_getElem _;rcases(aM h.same).1 dS with⟨q,dS⟩|⟨q,dS⟩
  ·obtain⟨k1,k2⟩:=h.le.tok id m (bx.2 ⟨q,hm⟩) dS;refine⟨?_,fun l hl=>k2 l (bx.2 ⟨q,hl⟩)⟩;rw[he];refine(aM h.env).2 (.inl ⟨q,?_⟩);rw[k1];exact bx.2 ⟨q,he⟩
  refine⟨?_,fun l hl=>h.block q hl hm trivial⟩;rw[he];exact(aM h.env).2 (.inr ⟨q,he⟩)
theorem RV.fV{g g':G}{n:Nat}(hc:qi g n g'){x:ae}{u:Value}(h:RV g' x u):RV (g.fV n g') x u:=by
 have bf:∀{id:Nat} {o:ak},g'.objs[id]?=some o->id<n:=fun ho=>by
  have:=I ho;rw[hc.same]at this;exact this
 induction h with
 | v hx=>exact .v hx
 | agg hl df _ ih=>exact .agg hl df ih
 | nil ho yH =>
  refine .nil (fun id e=>?_) yH;have:=ho id e;simp only[G.fV,List.length_append];omega
 | aA cH df cP cy hs f hm hr ho ih =>
  rename_i sz xs o a cap;refine .aA cH df cP cy hs f (fun j c hj=>⟨(hm j c hj).1,fun q=>(hm j c hj).2 (hc.own q)⟩) ih ?_;cases o with
  | sh=>trivial
  | nn=>trivial
  | ex=>exact ho
  | loc a=>exact ho
  | tok id =>
   have fK:=ho.1;rw[hc.same]at fK;refine⟨by simp only[G.fV,List.length_append,hc.same];omega,fun m dS=>?_⟩;rcases(aM hc.same).1 dS with⟨q,dS⟩|⟨q,_⟩
   ·obtain⟨h1,h2⟩:=ho.2 m dS;refine⟨h1,fun e=>?_⟩;rcases h2 e with k|⟨l,arr,t,k1,k2⟩
    ·exact .inl k
    exact .inr ⟨l,arr,t,(aM hc.env).2 (.inl ⟨q,k1⟩),k2⟩
   omega
 | ip ha df f hm hr ih=>exact .ip ha df f (fun j c hj=>⟨(hm j c hj).1,fun q=>(hm j c hj).2 (hc.own q)⟩) ih
 | mp he ho jm=>exact .mp ((aM hc.env).2 (.inl ⟨bf ho,he⟩)) ((aM hc.same).2 (.inl ⟨bf ho,ho⟩)) jm
 | ms he ho jm lj qh cy=>exact .ms ((aM hc.env).2 (.inl ⟨bf ho,he⟩)) ((aM hc.same).2 (.inl ⟨bf ho,ho⟩)) jm lj qh cy
 | os he ho jm lj qh cy=>exact .os ((aM hc.env).2 (.inl ⟨bf ho,he⟩)) ((aM hc.same).2 (.inl ⟨bf ho,ho⟩)) jm lj qh cy
 | raw yH ho =>
  rename_i sz n0 id a cap;have fK:=ho.1;rw[hc.same]at fK;refine .raw yH ⟨by simp only[G.fV,List.length_append,hc.same];omega,fun m dS=>?_⟩;rcases(aM hc.same).1 dS with⟨q,dS⟩|⟨q,_⟩
  ·obtain⟨h1,h2⟩:=ho.2 m dS;refine⟨h1,fun e=>?_⟩;rcases h2 e with k|⟨l,arr,t,k1,k2⟩
   ·exact .inl k
   exact .inr ⟨l,arr,t,(aM hc.env).2 (.inl ⟨q,k1⟩),k2⟩
  omega
 | mm he ho jm=>exact .mm ((aM hc.env).2 (.inl ⟨bf ho,he⟩)) ((aM hc.same).2 (.inl ⟨bf ho,ho⟩)) jm
 | im hh jm hl hk uN Iy _ ih=>exact .im hh (fun off q=>jm off (hc.own q)) hl hk uN Iy ih
 | fn hl zF _ _ ih EO=>exact .fn hl zF ih EO
 | cw hl _ ih=>exact .cw hl ih
theorem qi.Pw{g g':G}{n:Nat}(h:qi g n g'):Good (g.fV n g') where
 frlt:=fun b off hf=>Nat.lt_of_lt_of_le (h.good.frlt b off hf) h.le.size
 fm:=fun id l o h1 h2 h3 off hf=>by
  rcases(aM h.env).1 h1 with⟨q,h1⟩|⟨q,h1⟩
  ·rcases(aM h.same).1 h2 with⟨_,h2⟩|⟨q2,_⟩
   ·refine h.qI.fm id l o h1 h2 h3 off ?_;rw[h.le.fr];exact .inl hf
   omega
  rcases(aM h.same).1 h2 with⟨q2,_⟩|⟨_,h2⟩
  ·omega
  exact h.good.fm id l o h1 h2 h3 off hf
 len:=by simp[G.fV,h.env,h.same,h.good.len]
 loc:=fun id l o h1 h2 h3=>by
  rcases(aM h.env).1 h1 with⟨q,h1⟩|⟨q,h1⟩
  ·rcases(aM h.same).1 h2 with⟨_,h2⟩|⟨q2,_⟩
   ·exact h.qI.loc id l o h1 h2 h3
   omega
  rcases(aM h.same).1 h2 with⟨q2,_⟩|⟨_,h2⟩
  ·omega
  exact Nat.lt_of_lt_of_le (h.good.loc id l o h1 h2 h3) h.le.size
 apart:=fun id lE l l' o o' h1 h2 h3 k1 k2 k3 pN=>by
  have hx:∀{i:Nat} {l:Loc} {o:ak},(g.fV n g').env[i]?=some (some l)->(g.fV n g').objs[i]?=some o->(i<n∧g'.env[i]?=some (some l)∧g'.objs[i]?=some o)∨(n<=i∧g.env[i]?=some (some l)∧g.objs[i]?=some o):=by
   intro i l o h1 h2;rcases(aM h.env).1 h1 with⟨q,h1⟩|⟨q,h1⟩
   ·rcases(aM h.same).1 h2 with⟨_,h2⟩|⟨q2,_⟩
    ·exact .inl ⟨q,h1,h2⟩
    omega
   rcases(aM h.same).1 h2 with⟨q2,_⟩|⟨_,h2⟩
   ·omega
   exact .inr ⟨q,h1,h2⟩
  rcases hx h1 h2 with⟨q,e1,e2⟩|⟨q,e1,e2⟩
  ·rcases hx k1 k2 with⟨q',f1,f2⟩|⟨q',f1,f2⟩
   ·exact h.qI.apart id lE l l' o o' e1 e2 h3 f1 f2 k3 pN
   refine absurd ?_ (h.qI.fm id l o e1 e2 h3 l'.lo);rw[h.le.fr];exact .inr ⟨lE,l',o',q',f1,f2,k3,pN.symm,Nat.le_refl _⟩
  rcases hx k1 k2 with⟨q',f1,f2⟩|⟨q',f1,f2⟩
  ·refine absurd ?_ (h.qI.fm lE l' o' f1 f2 k3 l.lo);rw[h.le.fr];exact .inr ⟨id,l,o,q,e1,e2,h3,pN,Nat.le_refl _⟩
  exact h.good.apart id lE l l' o o' e1 e2 h3 f1 f2 k3 pN
 cells:=fun id cs h1=>by
  rcases(aM h.same).1 h1 with⟨q,h1⟩|⟨q,h1⟩
  ·obtain⟨l,arr,t,e1,e0,e2,e3,e4,e5⟩:=h.qI.cells id cs h1;exact⟨l,arr,t,(aM h.env).2 (.inl ⟨q,e1⟩),e0,e2,e3,fun j c u a b=>(e4 j c u a b).fV h,e5⟩
  obtain⟨l,arr,t,e1,e0,e2,e3,e4,e5⟩:=h.good.cells id cs h1;exact⟨l,arr,t,(aM h.env).2 (.inr ⟨q,e1⟩),e0,(h.block q e1 h1 trivial).trans e2,e3,fun j c u a b=>(e4 j c u a b).mono h.Wd,e5⟩
 spare:=fun id m l h1 h2=>by
  rcases(aM h.same).1 h1 with⟨q,h1⟩|⟨q,h1⟩
  ·rcases(aM h.env).1 h2 with⟨_,h2⟩|⟨q2,_⟩
   ·exact h.qI.spare id m l h1 h2
   omega
  rcases(aM h.env).1 h2 with⟨q2,_⟩|⟨_,h2⟩
  ·omega
  obtain⟨arr,t,e⟩:=h.good.spare id m l h1 h2;exact⟨arr,t,(h.block q h2 h1 trivial).trans e⟩
 map:=fun id kt es h1=>by
  rcases(aM h.same).1 h1 with⟨q,h1⟩|⟨q,h1⟩
  ·obtain⟨l,ob,e1,e0,e2,e3⟩:=h.qI.map id kt es h1;exact⟨l,ob,(aM h.env).2 (.inl ⟨q,e1⟩),e0,e2,e3.imp (fun p hp u r=>r.fV h) fun m clk arr q1 q2=>⟨q1,fun off q=>q2 off (h.own q)⟩⟩
  obtain⟨l,ob,e1,e0,e2,e3⟩:=h.good.map id kt es h1;exact⟨l,ob,(aM h.env).2 (.inr ⟨q,e1⟩),e0,(h.block q e1 h1 trivial).trans e2,e3.mono h.Wd⟩
theorem bd.frame{P:Program}{f:FuncId}{O O':List ak}{args:List ae}{r:ae}(h:bd P f O args fun r' O1=>r'=r∧O1=O')(hlen:O'.length=O.length)(hb:av O.length args)(hO:∀o∈O,o.upto O.length)(X:List ak) :
  bd P f (O++X) args fun r' O1=>r'=r∧O1=O'++X:=by
 refine⟨h.1,?_⟩;intro g vs hg ho ha;have hn:O.length<=g.objs.length:=by simp[ho]
 have gH:g.objs.take O.length=O:=by simp[ho]
 have G':jg (g.cut O.length) args vs:=⟨ha.1,fun j c u a b=>(ha.2 j c u a b).cut hn (aT.1 hb c (List.mem_of_getElem? a))⟩
 refine(h.2 (g.cut O.length) vs (hg.cut hn (by rw[gH];exact hO)) gH G').mono ?_;rintro e w' ⟨g',v,r',h1,h2,h3,h4,h5,h6,h7⟩;subst h6;have hc:qi g O.length g':=⟨hg,h3,h4,hn,by rw[h7,hlen]⟩
 exact⟨g.fV O.length g',v,r',h1,h2,hc.Wd,hc.Pw,h5.fV hc,rfl,by simp[G.fV,h7,ho]⟩
end Go.Av
namespace Go.Av
open Go.ChangeShapes Go.WideShapes Go.RowKit
def g0(w:World):G:=⟨w,fun _ _=>False,[],[]⟩
theorem Pu{w:World}{b off:Nat}:¬iX (g0 w) b off:=by
 rintro(h|⟨id,l,o,h1,_⟩)
 ·exact h
 simp[g0]at h1
theorem Io{w:World}{b:Nat}:¬fJ (g0 w) b:=by
 rintro⟨id,l,o,h1,_⟩;simp[g0]at h1
theorem LC(w:World):Good (g0 w) where
 frlt:=fun _ _ h=>h.elim
 fm:=fun _ _ _ h=>by simp[g0]at h
 len:=rfl
 loc:=fun _ _ _ h=>by simp[g0]at h
 apart:=fun _ _ _ _ _ _ h=>by simp[g0]at h
 cells:=fun _ _ h=>by simp[g0]at h
 spare:=fun _ _ _ h=>by simp[g0]at h
 map:=fun _ _ _ h=>by simp[g0]at h
def zL(P:Program)(t:TypeId):Bool :=
 match P.underlying t with
 | some (.struct _)=>true
 | some (.array _ _)=>true
 | _=>false
def EY(P:Program)(e:TypeId)(cs:List ae):ae:=if zL P e then .agg cs else cs.getD 0 (.v (.bool false))
def KH(S:TypeId->List ae->Prop):List TypeId->List ae->Prop
 | [],cs=>cs=[]
 | t::ts,cs=>∃a b,cs=a++b∧S t a∧KH S ts b
def nB(P:Program):Nat->TypeId->List ae->Prop
 | 0,_,_=>False
 | n+1,t,cs=>match P.underlying t with
  | some .bool=>∃b,cs=[.v (.bool b)]
  | some (.int k)=>∃m:Int,cs=[.v (.int k m)]∧k.min<=m∧m<=k.max
  | some .string=>∃s:ByteArray,cs=[.v (.string s)]∧s.size<=reachBytes
  | some (.slice e)=>∃xs:List (List ae),cs=[.aA (P.cellsOf e) (xs.map (EY P e)) .sh]∧(∀x∈xs,nB P n e x)∧xs.length*P.bytesOf e<=reachBytes
  | some (.struct fs)=>KH (nB P n) (fs.toList.map (·.type)) cs
  | _=>False
def Pf(P:Program)(ts:List TypeId):Bool :=
 ts.all fun t=>decide (t<P.types.size)&&match P.underlying t with
  | some .bool=>true
  | some (.int _)=>true
  | some .string=>true
  | some (.slice e)=>ts.contains e&&decide (0<P.bytesOf e)&&decide (0<P.cellsOf e)&&(zL P e || decide (P.cellsOf e=1))
  | some (.struct fs)=>fs.toList.all fun f=>ts.contains f.type
  | _=>false
def G5(g:G)(dC:List ae)(us:List Value):Prop:=dC.length=us.length∧(∀c∈dC,c.scalar)∧∀(i:Nat) c u,dC[i]?=some c->us[i]?=some u->RV g c u
theorem G5.append{g:G}{dC bs:List ae}{us vs:List Value}(h:G5 g dC us)(k:G5 g bs vs):G5 g (dC++bs) (us++vs):=by
 obtain⟨h1,h2,h3⟩:=h;obtain⟨k1,k2,k3⟩:=k;refine⟨by simp[h1,k1],fun c hc=>(List.mem_append.1 hc).elim (h2 c) (k2 c),fun i c u hc hu=>?_⟩;rw[List.getElem?_append]at hc hu;by_cases hi:i<dC.length
 ·rw[if_pos hi]at hc;rw[if_pos (by omega)]at hu;exact h3 i c u hc hu
 rw[if_neg hi]at hc;rw[if_neg (by omega),<-h1]at hu;exact k3 _ c u hc hu
theorem G5.one{g:G}{a:ae}{u:Value}(hs:a.scalar)(h:RV g a u):G5 g [a] [u]:=by
 refine⟨rfl,by simpa using hs,fun i c u' hc hu=>?_⟩;cases i with
 | zero =>
  simp at hc hu;subst hc;subst hu;exact h
 | succ i=>simp at hc
section
variable {H:Type} {enc:TypeId×Value->H} {P:Program} {w:World} {sp:Nat->Bool} {held:Bool}
theorem sQ{e:TypeId}:∀{ds:List (DataW H)} {d:DataW H},d∈ds->∀n∈d.weights P e,n∈DataW.weightsAll P e ds
 | d0::ds,d,hd,n,hn=>by
  simp only[DataW.weightsAll,List.mem_append];rcases List.mem_cons.1 hd with rfl|hd
  ·exact .inl hn
  exact .inr (sQ hd n hn)
theorem A8{α β:Type}{f:α->Option β}:∀{l:List α} {r:List β},l.mapM f=some r->r.length=l.length∧∀(i:Nat) x y,l[i]?=some x->r[i]?=some y->f x=some y
 | [],r,h=>by
  simp at h;subst h;exact⟨rfl,fun i x y hx=>by simp at hx⟩
 | a::l,r,h=>by
  rw[List.mapM_cons]at h;obtain⟨b,hb,h⟩:=Option.bind_eq_some_iff.1 h;obtain⟨r',hr,h⟩:=Option.bind_eq_some_iff.1 h;cases h;obtain⟨h1,h2⟩:=A8 hr;refine⟨by simp[h1],fun i x y hx hy=>?_⟩;cases i with
  | zero =>
   simp at hx hy;subst hx;subst hy;exact hb
  | succ i=>exact h2 i x y (by simpa using hx) (by simpa using hy)
theorem rz{base:Nat}{a:Addr}{n:Nat}{cs:List Value}(h:w.cells? base a n=some cs):cs.length=n∧∀(i:Nat) u,cs[i]?=some u->w.cell? (a.add i)=some u:=by
 unfold World.cells? at h;split at h
 ·obtain⟨h1,h2⟩:=A8 h;have hl:cs.length=n:=by simpa using h1
  refine⟨hl,fun i u hu=>?_⟩;have hi:=I hu;exact h2 i i u (by simp[List.getElem?_range (show i<n by omega)]) hu
 cases h
theorem sC{α β:Type}{p:α->β->Prop}:∀n:Nat,∀f:Nat->α,(∀i,i<n->∃b,p (f i) b)->∃bs:List β,bs.length=n∧∀i b,bs[i]?=some b->p (f i) b
 | 0,_,_=>⟨[],rfl,fun i b h=>by simp at h⟩
 | n+1,f,h=>by
  obtain⟨bs,h1,h2⟩:=sC n f (fun i hi=>h i (by omega));obtain⟨b,hb⟩:=h n (by omega);refine⟨bs++[b],by simp[h1],fun i c hc=>?_⟩;rcases aP hc with hc|⟨rfl,rfl⟩
  ·exact h2 i c hc
  rw[h1];exact hb
theorem zW{e:TypeId}(eM:zL P e=true∨P.cellsOf e=1){xs:List (List ae)}(hx:∀x∈xs,x.length=P.cellsOf e∧∀c∈x,c.scalar):an (xs.map (EY P e))=xs.flatten∧∀x∈xs,(EY P e x).cells=x:=by
 have key:∀x∈xs,(EY P e x).cells=x:=fun x KX=>by
  unfold EY;split
  ·rfl
  rename_i hn;rcases eM with h|h
  ·exact absurd h hn
  obtain⟨h1,h2⟩:=hx x KX;rw[h]at h1
  match x,h1 with
  | [c],_ =>
   have:=h2 c (by simp);cases c<;>first|rfl|exact this.elim
 refine⟨?_,key⟩;clear hx;induction xs with
 | nil=>rfl
 | cons x xs ih =>
  simp only[List.map_cons,an,List.flatMap_cons,List.flatten_cons];rw[key x (by simp)];congr 1;exact ih fun y hy=>key y (by simp[hy])
theorem su{n:Nat}:∀{xs:List (List ae)} (_:∀x∈xs,x.length=n) {j:Nat} {c:ae},xs.flatten[j]?=some c->∃i k x,j=i*n+k∧k<n∧xs[i]?=some x∧x[k]?=some c
 | [],_,j,c,h=>by simp at h
 | x::xs,hx,j,c,h=>by
  have hl:=hx x (by simp);rw[List.flatten_cons,List.getElem?_append]at h;split at h
  ·rename_i hj;exact⟨0,j,x,by omega,by omega,by simp,h⟩
  rename_i hj;obtain⟨i,k,y,h1,h2,h3,h4⟩:=su (fun y hy=>hx y (by simp[hy])) h;refine⟨i+1,k,y,?_,h2,by simpa using h3,h4⟩;rw[Nat.add_mul,Nat.one_mul];omega
theorem vz{n:Nat}{cs:List Value}{S:TypeId->List ae->Prop}{ts:List TypeId}
  (ih:∀t cs' (x:DataW H×List MemPlace),t∈ts->DataW.trod enc P w 0 sp held n t cs'=some x->(∀m∈x.1.weights P t,m<=reachBytes)->∃dC,S t dC∧G5 (g0 w) dC cs') :
  ∀(fl:List Field) (o:Nat) (xs:List (DataW H×List MemPlace)),(∀f∈fl,f.type∈ts)->(∀(j:Nat) f,fl[j]?=some f->f.offset=o+((fl.take j).map fun f=>P.cellsOf f.type).sum) ->
   o+(fl.map fun f=>P.cellsOf f.type).sum<=cs.length->xs.length=fl.length ->
   (∀(i:Nat) f,fl[i]?=some f->DataW.trod enc P w 0 sp held n f.type ((cs.drop f.offset).take (P.cellsOf f.type))=xs[i]?) ->
   (∀m∈DataW.weightsEach P (fl.map (·.type)) (xs.map (·.1)),m<=reachBytes) ->
   ∃dC,KH S (fl.map (·.type)) dC∧G5 (g0 w) dC ((cs.drop o).take (fl.map fun f=>P.cellsOf f.type).sum)
 | [],o,xs,_,_,_,_,_,_=>⟨[],rfl,by simp[G5]⟩
 | f::fl,o,[],_,_,_,hx,_,_=>by simp at hx
 | f::fl,o,y::ys,TA,S6,hlen,hx,hm,hw=>by
  have ho:f.offset=o:=by simpa using S6 0 f rfl
  simp only[List.map_cons,DataW.weightsEach,List.mem_append]at hw;simp only[List.map_cons,List.sum_cons]at hlen ⊢;obtain⟨dC,h1,h2⟩:=ih f.type _ y (TA f (by simp)) (by simpa using hm 0 f rfl) (fun m hm=>hw m (.inl hm));obtain⟨bs,k1,k2⟩:=vz ih fl (o+P.cellsOf f.type) ys (fun g hg=>TA g (by simp[hg])) (fun j g hg=>by
   have:=S6 (j+1) g (by simpa using hg);simp only[List.take_succ_cons,List.map_cons,List.sum_cons]at this;omega) (cs:=cs) (by omega) (by simpa using hx) (fun i g hg=>by simpa using hm (i+1) g (by simpa using hg)) (fun m hm=>hw m (.inr hm))
  refine⟨dC++bs,⟨dC,bs,rfl,h1,k1⟩,?_⟩;rw[List.take_add,List.drop_drop];rw[ho]at h2;exact h2.append k2
theorem add_add{a:Addr}(hs:a.spot=none)(m k:Nat):(a.add m).add k=⟨a.block,a.off+(m+k),none⟩:=by
 cases a with
 | mk b off spot =>
  subst hs;unfold Addr.add;by_cases hm:m=0<;>by_cases hk:k=0<;>simp[hm,hk,Nat.add_assoc]
theorem zd{a:Addr}{u:Value}(h:w.cell? a=some u):a.spot=none:=by
 unfold World.cell? at h;split at h
 ·split at h
  ·cases h
  rename_i hs;simpa using hs
 cases h
theorem BC(hl:laidOutB P=true){ts:List TypeId}(hc:Pf P ts=true)(n:Nat):∀(t:TypeId) (cs:List Value) (x:DataW H×List MemPlace),t∈ts ->
  DataW.trod enc P w 0 sp held n t cs=some x->(∀m∈x.1.weights P t,m<=reachBytes)->∃dC,nB P n t dC∧G5 (g0 w) dC cs:=by
 induction n with
 | zero=>intro _ _ _ _ h;simp[DataW.trod]at h
 | succ n ih =>
  intro t cs x ht h hw;have Iz:=List.all_eq_true.1 hc t ht;simp only[Bool.and_eq_true,decide_eq_true_eq]at Iz;obtain⟨cH,Iz⟩:=Iz;cases hu:P.underlying t with
  | none=>rw[hu]at Iz;cases Iz
  | some d =>
   rw[hu]at Iz;cases d with
   | bool =>
    obtain⟨b,rfl,rfl⟩:=DataW.trod_bool hu h;exact⟨[.v (.bool b)],by simp only[nB,hu];exact⟨b,rfl⟩,.one trivial (.v trivial)⟩
   | int k =>
    obtain⟨m,rfl,rfl,V1⟩:=DataW.trod_int hu h;simp only[Lit.wf,Bool.and_eq_true,decide_eq_true_eq]at V1;exact⟨[.v (.int k m)],by simp only[nB,hu];exact⟨m,rfl,V1⟩,.one trivial (.v V1)⟩
   | string =>
    obtain⟨s,rfl,rfl,hs⟩:=DataW.trod_string hu h;have hb:s.size<=reachBytes:=by
     have:=hw s.data.toList.length (by simp[DataW.weights]);simpa using this
    exact⟨[.v (.string s)],by simp only[nB,hu];exact⟨s,rfl,hb⟩,.one trivial (.v trivial)⟩
   | slice e =>
    simp only[Bool.and_eq_true,decide_eq_true_eq,Bool.or_eq_true,List.contains_iff_mem]at Iz;obtain⟨⟨⟨he,hb⟩,FT⟩,eM⟩:=Iz;rcases DataW.trod_slice hu h with⟨rfl,rfl⟩|⟨a,len,cap,elems,rest,n',jm,rfl,rfl,_,Hc,s8,L0,cr,_,_⟩
    ·exact⟨[.aA (P.cellsOf e) [] .sh],by simp only[nB,hu];exact⟨[],rfl,by simp,by simp[reachBytes]⟩,.one trivial (.nil (fun id h=>by cases h) (by simp))⟩
    cases jm;simp only[DataW.weights,hu,List.mem_cons,List.mem_append]at hw;have hlen:(len+rest.length)*P.bytesOf e<=reachBytes:=by
     have:=hw _ (.inl rfl);simpa[L0]using this
    have Oo:len*P.bytesOf e<=reachBytes:=Nat.le_trans (Nat.mul_le_mul_right _ (by omega)) hlen;have hle:len<=reachBytes:=Nat.le_trans (Nat.le_mul_of_pos_right _ hb) Oo;have IT:∀i,i<len->∃dC:List ae,nB P n e dC∧∃us,G5 (g0 w) dC us∧w.cells? 0 (a.add (i*P.cellsOf e)) (P.cellsOf e)=some us:=fun i hi=>by
     have hy:elems[i]?=some elems[i]:=List.getElem?_eq_getElem (by omega);have h2:=cr i hi;rw[hy]at h2;obtain⟨us,h3,h4⟩:=Option.bind_eq_some_iff.1 h2;obtain⟨dC,k1,k2⟩:=ih e us elems[i] he h4 (fun m hm=>hw m (.inr (.inl (sQ (List.mem_map.2 ⟨elems[i],List.getElem_mem _,rfl⟩) m hm))));exact⟨dC,k1,us,k2,h3⟩
    obtain⟨xs,AX,u7⟩:=sC (p:=fun(i:Nat) (dC:List ae)=>nB P n e dC∧∃us,G5 (g0 w) dC us∧w.cells? 0 (a.add (i*P.cellsOf e)) (P.cellsOf e)=some us) len id IT;have Rm:∀y∈xs,y.length=P.cellsOf e∧∀c∈y,c.scalar:=fun y hy=>by
     obtain⟨i,hi⟩:=List.mem_iff_getElem?.1 hy;obtain⟨_,us,h2,h3⟩:=u7 i y hi;exact⟨h2.1.trans (rz h3).1,h2.2.1⟩
    obtain⟨Sd,W4⟩:=zW (P:=P) (by simpa using eM) Rm;have AR:xs≠[]->a.spot=none:=fun cq=>by
     match xs,cq,u7,Rm with
     | y::ys,_,u7,Rm =>
      obtain⟨_,us,h2,h3⟩:=u7 0 y rfl;obtain⟨h4,h5⟩:=rz h3;have h6:=h5 0 (us[0]'(by omega)) (List.getElem?_eq_getElem _);have:=zd h6;simpa[Addr.add]using this
    refine⟨[.aA (P.cellsOf e) (xs.map (EY P e)) .sh],?_,.one trivial ?_⟩
    ·simp only[nB,hu];refine⟨xs,rfl,fun y hy=>?_,by rw[AX];exact Oo⟩;obtain⟨i,hi⟩:=List.mem_iff_getElem?.1 hy;exact(u7 i y hi).1
    have eJ:∀(j:Nat) (c:ae),xs.flatten[j]?=some c->∃u,w.cell? ⟨a.block,a.off+j,none⟩=some u∧RV (g0 w) c u:=fun j c hj=>by
     obtain⟨i,k,y,h1,h2,h3,h4⟩:=su (n:=P.cellsOf e) (fun y hy=>(Rm y hy).1) hj;obtain⟨_,us,h5,h6⟩:=u7 i y h3;obtain⟨h7,h8⟩:=rz h6;have hk:us[k]?=some (us[k]'(by omega)):=List.getElem?_eq_getElem _;have h9:=h8 k _ hk;have cq:xs≠[]:=fun e=>by rw[e]at h3;simp at h3
     have PA:(a.add (id i*P.cellsOf e)).add k=⟨a.block,a.off+(i*P.cellsOf e+k),none⟩:=add_add (AR cq) _ _;rw[PA,<-h1]at h9;exact⟨_,h9,h5.2.2 k c _ h4 hk⟩
    have key:=@RV.aA (g0 w) (P.cellsOf e) (xs.map (EY P e)) .sh a cap (fun x hx=>by
     obtain⟨y,hy,rfl⟩:=List.mem_map.1 hx;rw[W4 y hy];exact(Rm y hy).1) (fun x hx c hc=>by
     obtain⟨y,hy,rfl⟩:=List.mem_map.1 hx;rw[W4 y hy]at hc;exact(Rm y hy).2 c hc) (by simp[AX];exact Hc) (by simp[AX];unfold reachBytes at hle;omega) (fun cq=>AR (fun e=>cq (by rw[e];rfl)))
     (fun j=>(w.cell? ⟨a.block,a.off+j,none⟩).getD (.bool false)) (fun j c hj=>by
      rw[Sd]at hj;obtain⟨u,h1,_⟩:=eJ j c hj;refine⟨?_,Pu⟩;show w.cell? _=_;rw[h1];rfl) (fun j c hj=>by
      rw[Sd]at hj;obtain⟨u,h1,h2⟩:=eJ j c hj;rw[h1];exact h2) trivial
    rw[List.length_map,AX]at key;exact key
   | struct fs =>
    simp only[List.all_eq_true,List.contains_iff_mem]at Iz;obtain⟨xs,n',jm,rfl,gg,AX,cr⟩:=DataW.trod_struct hu h;cases jm;obtain⟨k1,k2,k3⟩:=kid_struct hl cH hu;simp only[DataW.weights,hu]at hw;obtain⟨dC,h1,h2⟩:=vz ih fs.toList 0 xs Iz (fun j f hj=>by rw[k3 j f hj];omega) (by rw[gg,k2];omega) (by simpa using AX) (fun i f hf=>cr i f (by simpa using hf)) hw;refine⟨dC,by simp only[nB,hu];exact h1,?_⟩;rw[List.drop_zero,<-k2,<-gg,List.take_length]at h2;exact h2
   | _=>cases Iz
theorem py(hl:laidOutB P=true){W W':World}{XR:Nat->Bool}:∀{ts:List TypeId} {vs:List Value} {ds:List (DataW H)} {ps:List MemPlace},(∀t∈ts,P.readableRec t=true∧t<P.types.size) ->
  DataW.TrodAll enc P W 0 (fun _=>true) true ts vs ds ps->(∀p∈ps,W.sameAt W' p)->(∀p∈ps,XR p.block=true)->DataW.TrodAll enc P W' 0 XR true ts vs ds ps
 | [],vs,ds,ps,_,h,_,_=>by
  obtain⟨rfl,rfl,rfl⟩:=trodAll_nil h;rfl
 | t::ts,vs,ds,ps,TA,h,h1,h2=>by
  obtain⟨v,vs',d,Z4,p,q,rfl,rfl,rfl,hd,hr⟩:=trodAll_cons h;obtain⟨k1,k2⟩:=TA t (by simp);exact⟨p,q,WideElems.Trod_stays hl k1 k2 hd (fun x hx=>h1 x (List.mem_append.2 (.inl hx))) (fun x hx=>h2 x (List.mem_append.2 (.inl hx))),
   py hl (fun t ht=>TA t (by simp[ht])) hr (fun x hx=>h1 x (List.mem_append.2 (.inr hx))) (fun x hx=>h2 x (List.mem_append.2 (.inr hx))),rfl⟩
theorem yW(hl:laidOutB P=true){fn:Func}{s:ChangeSpec}{apart fresh handsOn again:Bool}{W:World}{args:Array Value}{ds gs:List (DataW H)}{before:List MemPlace}{f:FuncId}{xs:List ae}{tb:TypeId}
  (AM:∀t∈fn.params.toList,P.readableRec t=true∧t<P.types.size) (AV:s.vars=[]) (eh:fn.resultTypes = #[tb]) (XF:P.underlying tb=some .bool)
  (hW:DataW.Whole enc P fn.params.toList s.vars apart W args.toList ds gs before)
  (qM:s.fn H (ds++gs) = { results:=[.lit (.bool true)],args:=ds })
  (Rc:bA P f xs (.v (.bool true))) (Yn:jg (g0 W) xs args) :
  Calls P f args W fun e W'=>∃v,e=.returned v∧s.post enc P fn apart fresh handsOn again W args v W':=by
 refine(Rc.2 (g0 W) args (LC W) rfl Yn).mono fun e W' ⟨g',v,r,h1,h2,h3,_,h5,h6,_⟩=>?_;subst h6;cases h5;subst h2;have CW:Below W.heap.size W g'.w:=⟨h3.os,h3.tape,h3.output,h3.size,fun k hk=>(h3.block k hk Io).1⟩
 have bf:=hW.lt;obtain⟨p,q,hA,hV,rfl,Xe,tz⟩:=id hW;have hq:gs=[]∧q=[]:=trodVars_none (by rw[AV]at hV;exact hV);obtain⟨rfl,rfl⟩:=hq;simp only[List.append_nil]at bf Xe tz qM;have eF:∀x∈p,W.sameAt g'.w x:=fun x hx=>CW.same (bf x hx);have eX:∀sp:Nat->Bool,(∀x∈p,sp x.block=true)->DataW.TrodAll enc P g'.w 0 sp true fn.params.toList args.toList ds p:=fun sp nh=>py hl AM hA eF nh;have hR:∀(b:Nat) (sp:Nat->Bool) (hd:Bool),DataW.TrodAll enc P g'.w b sp hd fn.resultTypes.toList ((Value.bool true).resultList fn.resultTypes.size) [.lit (.bool true)] []:=fun b sp hd=>by
  rw[eh];exact trodAll_mk1 (shut_bool XF true)
 have XJ:∀sp:Nat->Bool,DataW.TrodVars enc P g'.w sp s.vars [] []:=fun sp=>by
  rw[AV];rfl
 refine⟨_,h1,ds,[],p++[],[],p,[],hW,?_,?_,?_,CW.frame _,fun _=>⟨?_,[.lit (.bool true)]++ds,[],([]++p)++[],⟨[]++p,[],?_,XJ _,rfl,?_,?_⟩,?_⟩⟩
 ·rw[List.append_nil,qM];exact hR _ _ _
 ·rw[List.append_nil,qM];exact eX _ fun x hx=>by simpa using bf x hx
 ·rw[List.append_nil,qM];exact XJ _
 ·exact ok_one eh rfl (okWide_bool_mk XF true)
 ·exact trodAll_append (eX (fun _=>true) fun _ _=>rfl) (hR _ _ _)
 ·intro b off hx;simp only[List.nil_append,List.append_nil]at hx;rw[CW.frozen (p:=⟨b,off,none⟩) (bf _ hx)];exact Xe b off hx
 ·intro ha;simpa using tz ha
 intro x hx _;simpa using hx
end
section
variable {P:Program} {n:Nat} {t:TypeId} {cs:List ae}
theorem nB.int{k:IntKind}(hu:P.underlying t=some (.int k))(h:nB P n t cs):∃m:Int,cs=[.v (.int k m)]∧k.min<=m∧m<=k.max:=by
 cases n with
 | zero=>exact h.elim
 | succ n =>
  simp only[nB,hu]at h;exact h
theorem nB.struct{fs:Array Field}(hu:P.underlying t=some (.struct fs))(h:nB P n t cs):∃m,n=m+1∧KH (nB P m) (fs.toList.map (·.type)) cs:=by
 cases n with
 | zero=>exact h.elim
 | succ n =>
  simp only[nB,hu]at h;exact⟨n,rfl,h⟩
theorem nB.slice{e:TypeId}(hu:P.underlying t=some (.slice e))(h:nB P n t cs):∃m,n=m+1∧∃xs:List (List ae),cs=[.aA (P.cellsOf e) (xs.map (EY P e)) .sh]∧(∀x∈xs,nB P m e x)∧xs.length*P.bytesOf e<=reachBytes:=by
 cases n with
 | zero=>exact h.elim
 | succ n =>
  simp only[nB,hu]at h;exact⟨n,rfl,h⟩
theorem A9{α:Type}{f:α->ae}{Q:α->Prop}{g:List ae->ae}:∀{xs:List (List ae)},(∀x∈xs,∃a,g x=f a∧Q a)->∃l:List α,xs.map g=l.map f∧∀a∈l,Q a
 | [],_=>⟨[],rfl,by simp⟩
 | x::xs,h=>by
  obtain⟨a,ha,hq⟩:=h x (by simp);obtain⟨l,hl,Zr⟩:=A9 (xs:=xs) fun y hy=>h y (by simp[hy]);exact⟨a::l,by simp[ha,hl],by simpa using⟨hq,Zr⟩⟩
theorem nB.A4{α:Type}{f:α->ae}{Q:α->Prop}{e:TypeId}(hu:P.underlying t=some (.slice e))(h:nB P n t cs)(hd:∀m,m<n->∀x,nB P m e x->∃a,EY P e x=f a∧Q a) :
  ∃l:List α,cs=[.aA (P.cellsOf e) (l.map f) .sh]∧l.length*P.bytesOf e<=reachBytes∧∀a∈l,Q a:=by
 obtain⟨m,rfl,xs,rfl,h1,h2⟩:=h.slice hu;obtain⟨l,hl,hq⟩:=A9 (f:=f) (Q:=Q) fun x hx=>hd m (by omega) x (h1 x hx);refine⟨l,by rw[hl],?_,hq⟩;have:xs.length=l.length:=by
  have:=congrArg List.length hl;simpa using this
 rw[<-this];exact h2
end
end Go.Av
namespace Go.Av
theorem cY{P:Program}{kb:Nat}{c:Code}{Q:dt->St->Prop}{n:Nat}{bn:List (Nat×ae)}{O:List ak}(k off:Nat){sz:Nat}{cs xs:List ae}(k8:O[k]?=some (.cells cs))(Mg:cs[off]?=some (.aA sz xs .ex))
  (h:bX P kb c Q ⟨n,bn,(O++[ak.spare xs.length]).set k (.cells (cs.set off (.aA sz xs (.tok O.length))))⟩):bX P kb c Q ⟨n,bn,O⟩ :=
 h.weaken fun base a g hb hr=>by
  have hO:g.objs=O:=hr.objs;have SM:=Le.mark hr.good (ak.spare xs.length);have SD:=Good.mark hr.good xs.length;have Y9:g.objs[k]?=some (.cells cs):=by rw[hO];exact k8
  have Mi:(g.mark (ak.spare xs.length)).objs[k]?=some (.cells cs):=c4 Y9;obtain⟨l,arr,t,e1,e2,e3,e4,e5,e6⟩:=SD.cells k cs Mi;have Tw:kC (g.mark (ak.spare xs.length)) k (.cells cs) (some l) (.cells (cs.set off (.aA sz xs (.tok O.length)))) g.w:={
   obj:=Mi
   os:=rfl
   tape:=rfl
   output:=rfl
   size:=Nat.le_refl _
   block:=fun _ _ _=>rfl
   cell:=fun b off x hx _=>hx
   place:=fun l1 h1 _=>by
    simp only[Option.some.injEq]at h1;subst h1;exact .inr ⟨l,e1,trivial,rfl,Nat.le_refl _⟩
   spare:=fun m h=>by cases h
   plain:=fun _=>⟨by simp[ak.aD],e1⟩
   gone:=by simp }
  have AK:=Le.bu SD Tw;have C3:=Good.bu SD Tw ⟨l,arr,t,rfl,e2,e3,by simpa using e4,fun j d u hd hu=>by
   rw[List.getElem?_set]at hd;split at hd
   ·rename_i hj;subst hj;split at hd
    ·simp only[Option.some.injEq]at hd;subst hd;have hv:=(e5 off _ u Mg hu).mono AK;cases hv with
     | nil=>exact .nil (fun id e=>by
      simp only[m9.tok.injEq]at e;subst e;simp[G.bu,G.mark,hO]) (by simp)
     | aA cH df cP cy hs f hm hr ho =>
      refine .aA cH df cP cy hs f hm hr ⟨by simp[G.bu,G.mark,hO],fun m dS=>?_⟩;have cq:k≠O.length:=by
       have:=I k8;omega
      have:((g.mark (ak.spare xs.length)).bu k (some l) (.cells (cs.set off (.aA sz xs (.tok O.length)))) g.w).objs[O.length]?=some (.spare xs.length):=by
       simp only[G.bu];rw[List.getElem?_set_ne cq,<-hO];exact eH
      rw[this]at dS;simp only[Option.some.injEq,ak.spare.injEq]at dS;exact⟨by omega,fun _=>.inl ho⟩
    cases hd
   ·exact(e5 j d u hd hu).mono AK,fun d hd=>by
   rcases List.mem_or_eq_of_mem_set hd with q|q
   ·exact e6.1 d q
   subst q;trivial,e6.2⟩ (fun l1 h1 _=>by
   simp only[Option.some.injEq]at h1;subst h1;exact aU e3)
  exact⟨(g.mark (ak.spare xs.length)).bu k (some l) (.cells (cs.set off (.aA sz xs (.tok O.length)))) g.w,rfl,{ le:=(hr.le.trans SM).trans AK,good:=C3,objs:=by simp[G.mark,G.bu,hO],size:=hr.size,defers:=hr.defers,slot:=fun s y hy=>(hr.slot s y hy).imp fun u hu=>⟨hu.1,(hu.2.mono SM).mono AK⟩ }⟩
def yP(τ:St)(Q:dt->St->Prop):dt->St->Prop
 | .norm,σ=>ba σ τ
 | e,σ=>Q e σ
theorem fY{P:Program}{kb:Nat}{x y:Code}{Q:dt->St->Prop}{σ:St}(τ:St)(h1:bX P kb x (yP τ Q) σ)(h2:bX P kb y Q τ):bX P kb (.seq x y) Q σ :=
 aH (h1.mono fun e fw h=>by cases e<;>first|exact h2.cover h|exact h)
theorem RG{P:Program}{kb:Nat}{x y z:Code}{Q:dt->St->Prop}{σ:St}(τ:St)(h1:bX P kb x (yP τ (bC P kb z Q)) σ)(h2:bX P kb y (bC P kb z Q) τ):bX P kb (.seq (.seq x y) z) Q σ :=
 aH (fY τ h1 h2)
theorem jK{P:Program}{kb:Nat}{x y:Code}{Q:dt->St->Prop}{σ:St}(τ:St)(h1:bX P kb x (yP τ Q) σ)(h2:bX P kb y Q τ):bX P kb x (bC P kb y Q) σ :=
 h1.mono fun e fw h=>by cases e<;>first|exact h2.cover h|exact h

def qW(A:List Nat)(N k:Nat):Nat:=if k<A.length then A.getD k 0 else N+(k-A.length)
def Kind.mU(A:List Nat)(N:Nat):Kind->Kind
 | .rd id=>.rd (qW A N id)
 | .wr n l=>.wr (qW A N n) (l.map (qW A N))
 | .new id=>.new (qW A N id)
 | k=>k
def Kind.fresh(m:Nat):Kind->Bool
 | .wr n _=>decide (m<=n)
 | _=>true
theorem Bt{A:List Nat}{N:Nat}(hn:A.Nodup)(hA:∀a∈A,a<N){i j:Nat}(h:qW A N i=qW A N j):i=j:=by
 unfold qW at h;have eJ:∀k,k<A.length->A.getD k 0∈A:=fun k hk=>by
  rw[List.getD_eq_getElem?_getD,List.getElem?_eq_getElem hk];exact List.getElem_mem hk
 split at h<;>split at h
 ·rename_i h1 h2;rw[List.getD_eq_getElem?_getD,List.getElem?_eq_getElem h1,List.getD_eq_getElem?_getD,List.getElem?_eq_getElem h2]at h;exact(List.getElem_inj hn).1 h
 ·rename_i h1 h2;have:=hA _ (eJ i h1);omega
 ·rename_i h1 h2;have:=hA _ (eJ j h2);omega
 omega
theorem MH{A:List Nat}{N:Nat}(hA:∀a∈A,a<N){i n:Nat}(hn:A.length<=n)(h:i<n):qW A N i<qW A N n:=by
 unfold qW;have eJ:∀k,k<A.length->A.getD k 0∈A:=fun k hk=>by
  rw[List.getD_eq_getElem?_getD,List.getElem?_eq_getElem hk];exact List.getElem_mem hk
 rw[if_neg (show ¬n<A.length by omega)];split
 ·rename_i h1;have:=hA _ (eJ i h1);omega
 omega
theorem vb{A:List Nat}{N:Nat}(hn:A.Nodup)(hA:∀a∈A,a<N){k l:Kind}(hk:k.fresh A.length=true)(hl:l.fresh A.length=true)(h:bN k l=true):bN (k.mU A N) (l.mU A N)=true:=by
 have key:∀{id n:Nat} {L:List Nat},A.length<=n->id<n->id ∉ L->qW A N id<qW A N n∧qW A N id ∉ L.map (qW A N):=fun h1 h2 h3 =>
  ⟨MH hA h1 h2,fun hm=>by
   obtain⟨x,hx,e⟩:=List.mem_map.1 hm;have:=Bt hn hA e;subst this;exact h3 hx⟩
 cases k<;>cases l<;>first
  | exact h
  | (simp only[bN]at h;cases h)
  | (simp only[Kind.mU,bN,Bool.not_eq_true',decide_eq_false_iff_not]at h ⊢;exact fun e=>h (Bt hn hA e))
  | (simp only[Kind.fresh,decide_eq_true_eq]at hk hl
     simp only[Kind.mU,bN,Bool.and_eq_true,decide_eq_true_eq,Bool.not_eq_true',List.contains_eq_mem,decide_eq_false_iff_not]at h ⊢;exact key (by assumption) h.1 h.2)
theorem b7{ops:Array Oper}{ks:List Kind}(A:List Nat)(N:Nat)(sA:List Kind)(hn:A.Nodup)(hA:∀a∈A,a<N)(e:sA.map (Kind.mU A N)=ks)(hf:sA.all (Kind.fresh A.length)=true)(h:oc ops sA=true):oc ops ks=true:=by
 subst e;simp only[oc,Bool.and_eq_true,List.all_eq_true,Bool.or_eq_true,List.length_map]at h ⊢;refine⟨h.1,fun i hi j hj=>?_⟩;rcases h.2 i hi j hj with q|q
 ·exact .inl q
 refine .inr ?_;have nt:∀i,(sA.map (Kind.mU A N)).getD i .write=(sA.getD i .write).mU A N:=fun i=>by
  rw[List.getD_eq_getElem?_getD,List.getD_eq_getElem?_getD,List.getElem?_map];cases sA[i]?<;>rfl
 have eE:∀i,(sA.getD i .write).fresh A.length=true:=fun i=>by
  rw[List.getD_eq_getElem?_getD];cases hi:sA[i]? with
  | none=>rfl
  | some x=>exact List.all_eq_true.1 hf x (List.mem_of_getElem? hi)
 rw[nt,nt];unfold indep at q ⊢;split at q
 ·rename_i oj oi h1 h2;simp only[Bool.and_eq_true]at q ⊢;exact⟨q.1,vb hn hA (eE j) (eE i) q.2⟩
 cases q
theorem y5{σ:St}:∀{l:List (Nat×ae)},(∀p∈l,∃x,σ.get p.1=some x∧Sub σ.objs x p.2)->eQ σ l
 | [],_=>trivial
 | (s,y)::r,h=>⟨h (s,y) (by simp),y5 fun p hp=>h p (by simp[hp])⟩
theorem tS{P:Program}{kb:Nat}{c:Code}{Q:dt->St->Prop}{n:Nat}{bn:List (Nat×ae)}{O:List ak}{o:ak}(s:Nat){x:ae}(y:ae)(cz:List (Nat×ae))(hx:look bn s=some x)
  (hp:¬o.aD) (hl:o.live) (hf:bM (O++[o]) O.length x y) (FZ:kb<=O.length) (hs:∀p∈cz,look (bw s y bn) p.1=some p.2) (bB:∀o∈O,o.upto O.length) (ng:∀p∈cz,p.2.upto O.length)
  (h:bX P kb c Q ⟨n,cz,O⟩):bX P kb c Q ⟨n,bn,O++[o]⟩:=by
 refine aC s O.length (o:=o) y (kT _ _) hp hl hx hf ?_;rw[vC];have fL:∀s x,look cz s=some x->(s,x)∈cz:=fun s x hl=>qP hl;exact ru O.length (by simp) FZ cz (by rw[xX];exact bB) (y5 fun p hp=>⟨p.2,hs p hp,Sub.refl _⟩) (fun k x hk=>ng (k,x) (fL k x hk)) (by rw[xX];exact h)
theorem aV{P:Program}{kb:Nat}{c:Code}{Q:dt->St->Prop}{n:Nat}{bn:List (Nat×ae)}{O:List ak}{cs:List ae}(s:Nat)(ds:List ae)(cz:List (Nat×ae))(hx:look bn s=some (.mp O.length 0))
  (tw:cs.map ae.bg=ds) (FZ:kb<=O.length) (hs:∀p∈cz,look (bw s (.ip none ds) bn) p.1=some p.2) (bB:∀o∈O,o.upto O.length) (ng:∀p∈cz,p.2.upto O.length)
  (h:bX P kb c Q ⟨n,cz,O⟩):bX P kb c Q ⟨n,bn,O++[.cells cs]⟩ :=
 tS s (.ip none ds) cz hx (by simp[ak.aD]) trivial (bM.mp (cs:=cs) (kT _ _) (by rw[List.drop_zero,tw])) FZ hs bB ng h
theorem Cg{P:Program}{kb:Nat}{c:Code}{Q:dt->St->Prop}{n:Nat}{bn:List (Nat×ae)}{O:List ak}{cs:List ae}(s:Nat){len cap sz:Nat}(xs:List ae)(cz:List (Nat×ae))(hx:look bn s=some (.ms O.length 0 len cap))
  (cH:∀x∈xs,x.cells.length=sz) (hlen:xs.length=len) (hd:(cs.take (len*sz)).map ae.bg=an xs) (FZ:kb<=O.length) (hs:∀p∈cz,look (bw s (.aA sz xs .sh) bn) p.1=some p.2) (bB:∀o∈O,o.upto O.length) (ng:∀p∈cz,p.2.upto O.length)
  (h:bX P kb c Q ⟨n,cz,O⟩):bX P kb c Q ⟨n,bn,O++[.cells cs]⟩ :=
 tS s (.aA sz xs .sh) cz hx (by simp[ak.aD]) trivial (bM.ms (cs:=cs) (kT _ _) cH hlen (by rw[List.drop_zero,hd])) FZ hs bB ng h
theorem bU{P:Program}{kb:Nat}{c:Code}{Q:dt->St->Prop}{n:Nat}{bn:List (Nat×ae)}{O X:List ak}{cs:List ae}(s k:Nat)(ds:List ae)(hX:X[k]?=some (.cells cs))(hx:look bn s=some (.mp (O.length+k) 0))
  (tw:cs.map ae.bg=ds) (h:bX P kb c Q ⟨n,bw s (.ip none ds) bn,O++X.set k .gone⟩):bX P kb c Q ⟨n,bn,O++X⟩:=by
 have fK:(O++X)[O.length+k]?=some (.cells cs):=by
  rw[List.getElem?_append_right (by omega),Nat.add_sub_cancel_left,hX]
 refine aC s (O.length+k) (o:=.cells cs) (.ip none ds) fK (by simp[ak.aD]) trivial hx (bM.mp (cs:=cs) fK (by rw[List.drop_zero,tw])) ?_;rw[List.set_append_right _ _ (by omega),Nat.add_sub_cancel_left];exact h
theorem Lc{P:Program}{kb:Nat}{c:Code}{Q:dt->St->Prop}{n:Nat}{bn:List (Nat×ae)}{O X:List ak}(j:Nat)(Y:List ak)(cz:List (Nat×ae))(hY:X.take j=Y)(hj:j<=X.length)(FZ:kb<=O.length)(hs:∀p∈cz,look bn p.1=some p.2)
  (hO:∀o∈O,o.upto (O.length+j)) (hX:∀o∈Y,o.upto (O.length+j)) (ng:∀p∈cz,p.2.upto (O.length+j)) (h:bX P kb c Q ⟨n,cz,O++Y⟩):bX P kb c Q ⟨n,bn,O++X⟩:=by
 have e:(O++X).take (O.length+j)=O++Y:=by
  rw[List.take_append,List.take_of_length_le (by omega),Nat.add_sub_cancel_left,hY]
 refine ru (O.length+j) (by simp;omega) (by omega) cz ?_ (y5 fun p hp=>⟨p.2,hs p hp,Sub.refl _⟩) (fun k x hk=>ng (k,x) (qP hk)) (by rw[e];exact h);rw[e];intro o ho;rcases List.mem_append.1 ho with q|q
 ·exact hO o q
 exact hX o q
end Go.Av
namespace Go.Proofs.YtjdnhamngpafmaaGreat
open Go.Av
def Wl:=And.intro @TQ <|
 And.intro @TR <|
 And.intro @TS <|
 And.intro @TT <|
 And.intro @TU <|
 And.intro @TV <|
 And.intro @Qu <|
 And.intro @Qv <|
 And.intro @Qw <|
 And.intro @DW <|
 And.intro @Qx <|
 And.intro @Qy <|
 And.intro @Qz <|
 And.intro @QA <|
 And.intro @QB <|
 And.intro @QC <|
 And.intro @QD <|
 And.intro @QE <|
 And.intro @DX <|
 And.intro @QF <|
 And.intro @QG <|
 And.intro @QH <|
 And.intro @QI <|
 And.intro @QJ <|
 And.intro @QK <|
 And.intro @QL <|
 And.intro @QM <|
 And.intro @QN <|
 And.intro @MY <|
 And.intro @MZ <|
 And.intro @M0 <|
 And.intro @M3 <|
 And.intro @M4 <|
 And.intro @E4 <|
 And.intro @M5 <|
 And.intro @M6 <|
 And.intro @E5 <|
 And.intro @M7 <|
 And.intro @M8 <|
 And.intro @M9 <|
 And.intro @M' <|
 And.intro @Na <|
 And.intro @Nb <|
 And.intro @E6 <|
 And.intro @Nc <|
 And.intro @Nf <|
 And.intro @E7 <|
 And.intro @Nh <|
 And.intro @Ni <|
 And.intro @Nj <|
 And.intro @Nk <|
 And.intro @Nn <|
 And.intro @No <|
 And.intro @Np <|
 And.intro @Nq <|
 And.intro @Nr <|
 And.intro @Nt <|
 And.intro @Nu <|
 And.intro @Nv <|
 And.intro @Nw <|
 And.intro @Ny <|
 And.intro @Ins.aj <|
 And.intro @Ins.fold <|
 And.intro @Ins.al <|
 And.intro @Ins.de <|
 And.intro @Ins.aO <|
 And.intro @Ins.ag <|
 And.intro @Ins.au <|
 And.intro @Edge.aj <|
 And.intro @Edge.fold <|
 And.intro @Edge.al <|
 And.intro @Edge.de <|
 And.intro @Edge.aO <|
 And.intro @Edge.ag <|
 And.intro @Edge.au <|
 And.intro @Term.aj <|
 And.intro @Term.fold <|
 And.intro @Term.al <|
 And.intro @Term.de <|
 And.intro @Term.aO <|
 And.intro @Term.ag <|
 And.intro @Term.au <|
 And.intro @Block.aj <|
 And.intro @Block.fold <|
 And.intro @Block.al <|
 And.intro @Block.de <|
 And.intro @Block.aO <|
 And.intro @Block.ag <|
 And.intro @Block.au <|
 And.intro @Func.aj <|
 And.intro @Func.fold <|
 And.intro @Func.al <|
 And.intro @Func.de <|
 And.intro @Func.aO <|
 And.intro @Func.ag <|
 And.intro @Func.au <|
 And.intro @cd.aj <|
 And.intro @cd.fold <|
 And.intro @cd.al <|
 And.intro @cd.de <|
 And.intro @cd.aO <|
 And.intro @cd.ag <|
 And.intro @cd.au <|
 And.intro @SV.jk <|
 And.intro @SV.aj <|
 And.intro @SV.fold <|
 And.intro @SV.al <|
 And.intro @SV.de <|
 And.intro @SV.au <|
 And.intro @SV.Fe <|
 And.intro @cf <|
 And.intro @FA <|
 And.intro @Hn <|
 And.intro @ax <|
 And.intro @Wa <|
 And.intro @I5 <|
 And.intro @ld <|
 And.intro @Ef <|
 And.intro @BF <|
 And.intro @JH <|
 And.intro @JK <|
 And.intro @JJ <|
 And.intro @JX <|
 And.intro @List.take_length.{0} <|
 And.intro @List.append_assoc.{0} <|
 And.intro @List.cons_append.{0} <|
 @List.nil_append.{0}
def zp:=And.intro Wk <|And.intro @ne_eq.{1} <|And.intro @implies_true.{0} <|And.intro @implies_true.{1} <|Wl
def zt:=And.intro and_true <|And.intro true_and and_self
def zu:=And.intro @Ins.aO <|And.intro @Ins.ag <|And.intro @Edge.aO <|And.intro @Edge.ag <|And.intro @Term.aO <|And.intro @Term.ag <|And.intro @Block.aO <|And.intro @Block.ag <|And.intro @Func.aO <|And.intro @Func.ag <|And.intro @cd.aO <|And.intro @cd.ag <| @ax
theorem jX{kb:Nat}{id:Nat}{l:List Oper}{draw:Bool}{Q:dt->St->Prop}{σ:St}(h:dR Tryz.prog aR ⟨false,false⟩ l 0 [] σ [] fun τ ks=>fW draw (fun _=>du l.toArray ks.reverse)∧At τ (Q .norm)):bX Tryz.prog kb (.region id l.toArray draw) Q σ:=gk _ hT hm h
theorem aQ{kb:Nat}{id:Nat}{l:List Oper}{draw:Bool}{Q:dt->St->Prop}{σ:St}{x:Code}(h:dR Tryz.prog aR ⟨false,false⟩ l 0 [] σ [] fun τ ks=>fW draw (fun _=>du l.toArray ks.reverse)∧At τ (bC Tryz.prog kb x Q .norm)):bX Tryz.prog kb (.seq (.region id l.toArray draw) x) Q σ:=aH (jX h)
theorem c7{kb:Nat}{id:Nat}{l:List Oper}{draw:Bool}{Q:dt->St->Prop}{σ:St}{x y:Code}(h:dR Tryz.prog aR ⟨false,false⟩ l 0 [] σ [] fun τ ks=>fW draw (fun _=>du l.toArray ks.reverse)∧At τ (bC Tryz.prog kb x (bC Tryz.prog kb y Q) .norm)):bX Tryz.prog kb (.seq (.seq (.region id l.toArray draw) x) y) Q σ:=aH (aQ h)
theorem ZY{kb:Nat}{id:Nat}{l:List Oper}{draw:Bool}{Q:dt->St->Prop}{σ:St}{x y z:Code}(h:dR Tryz.prog aR ⟨false,false⟩ l 0 [] σ [] fun τ ks=>fW draw (fun _=>du l.toArray ks.reverse)∧At τ (bC Tryz.prog kb x (bC Tryz.prog kb y (bC Tryz.prog kb z Q)) .norm)):bX Tryz.prog kb (.seq (.seq (.seq (.region id l.toArray draw) x) y) z) Q σ:=aH (c7 h)
theorem ZZ{kb:Nat}{id:Nat}{l:List Oper}{draw:Bool}{Q:dt->St->Prop}{σ:St}(h:dR Tryz.prog aR ⟨true,false⟩ l 0 [] σ [] fun τ ks=>fW draw (fun _=>du l.toArray ks.reverse)∧At τ (Q .norm)):bX Tryz.prog kb (.region id l.toArray draw) Q σ:=gk _ hT hm h
theorem XS{kb:Nat}{id:Nat}{l:List Oper}{draw:Bool}{Q:dt->St->Prop}{σ:St}{x:Code}(h:dR Tryz.prog aR ⟨true,false⟩ l 0 [] σ [] fun τ ks=>fW draw (fun _=>du l.toArray ks.reverse)∧At τ (bC Tryz.prog kb x Q .norm)):bX Tryz.prog kb (.seq (.region id l.toArray draw) x) Q σ:=aH (ZZ h)
theorem zm2{kb:Nat}{id:Nat}{l:List Oper}{draw:Bool}{Q:dt->St->Prop}{σ:St}{x y:Code}(h:dR Tryz.prog aR ⟨true,false⟩ l 0 [] σ [] fun τ ks=>fW draw (fun _=>du l.toArray ks.reverse)∧At τ (bC Tryz.prog kb x (bC Tryz.prog kb y Q) .norm)):bX Tryz.prog kb (.seq (.seq (.region id l.toArray draw) x) y) Q σ:=aH (XS h)
theorem N1{kb:Nat}{id:Nat}{l:List Oper}{draw:Bool}{Q:dt->St->Prop}{σ:St}(h:dR Tryz.prog aR ⟨true,true⟩ l 0 [] σ [] fun τ ks=>fW draw (fun _=>du l.toArray ks.reverse)∧At τ (Q .norm)):bX Tryz.prog kb (.region id l.toArray draw) Q σ:=gk _ hT hm h
theorem Z1{kb:Nat}{id:Nat}{l:List Oper}{draw:Bool}{Q:dt->St->Prop}{σ:St}{x:Code}(h:dR Tryz.prog aR ⟨true,true⟩ l 0 [] σ [] fun τ ks=>fW draw (fun _=>du l.toArray ks.reverse)∧At τ (bC Tryz.prog kb x Q .norm)):bX Tryz.prog kb (.seq (.region id l.toArray draw) x) Q σ:=aH (N1 h)
theorem zs2{kb:Nat}{id:Nat}{l:List Oper}{draw:Bool}{Q:dt->St->Prop}{σ:St}{x y:Code}(h:dR Tryz.prog aR ⟨true,true⟩ l 0 [] σ [] fun τ ks=>fW draw (fun _=>du l.toArray ks.reverse)∧At τ (bC Tryz.prog kb x (bC Tryz.prog kb y Q) .norm)):bX Tryz.prog kb (.seq (.seq (.region id l.toArray draw) x) y) Q σ:=aH (Z1 h)
theorem XT{kb:Nat}{id:Nat}{l:List Oper}{draw:Bool}{Q:dt->St->Prop}{σ:St}(h:dR Tryz.prog aR ⟨false,true⟩ l 0 [] σ [] fun τ ks=>fW draw (fun _=>du l.toArray ks.reverse)∧At τ (Q .norm)):bX Tryz.prog kb (.region id l.toArray draw) Q σ:=gk _ hT hm h
theorem Z2{kb:Nat}{id:Nat}{l:List Oper}{draw:Bool}{Q:dt->St->Prop}{σ:St}{x:Code}(h:dR Tryz.prog aR ⟨false,true⟩ l 0 [] σ [] fun τ ks=>fW draw (fun _=>du l.toArray ks.reverse)∧At τ (bC Tryz.prog kb x Q .norm)):bX Tryz.prog kb (.seq (.region id l.toArray draw) x) Q σ:=aH (XT h)
theorem zv2{kb:Nat}{id:Nat}{l:List Oper}{draw:Bool}{Q:dt->St->Prop}{σ:St}{x y:Code}(h:dR Tryz.prog aR ⟨false,true⟩ l 0 [] σ [] fun τ ks=>fW draw (fun _=>du l.toArray ks.reverse)∧At τ (bC Tryz.prog kb x (bC Tryz.prog kb y Q) .norm)):bX Tryz.prog kb (.seq (.seq (.region id l.toArray draw) x) y) Q σ:=aH (Z2 h)
theorem aN{kb:Nat}{c:Operand}{x y:Code}{Q:dt->St->Prop}{σ:St}{b:Bool}(hc:σ.ev c=some (.v (.bool b)))(ht:b=true->bX Tryz.prog kb x Q σ)(hf:b=false->bX Tryz.prog kb y Q σ):bX Tryz.prog kb (.cond c x y) Q σ:=nG hc ht hf
theorem gJ{kb:Nat}{c:Operand}{x y z:Code}{Q:dt->St->Prop}{σ:St}{b:Bool}(hc:σ.ev c=some (.v (.bool b)))(ht:b=true->bX Tryz.prog kb x (bC Tryz.prog kb z Q) σ)(hf:b=false->bX Tryz.prog kb y (bC Tryz.prog kb z Q) σ):bX Tryz.prog kb (.seq (.cond c x y) z) Q σ:=aH (nG hc ht hf)
theorem zk2{kb:Nat}{c:Operand}{x y z w:Code}{Q:dt->St->Prop}{σ:St}{b:Bool}(hc:σ.ev c=some (.v (.bool b)))(ht:b=true->bX Tryz.prog kb x (bC Tryz.prog kb z (bC Tryz.prog kb w Q)) σ)(hf:b=false->bX Tryz.prog kb y (bC Tryz.prog kb z (bC Tryz.prog kb w Q)) σ) :
  bX Tryz.prog kb (.seq (.seq (.cond c x y) z) w) Q σ:=aH (aH (nG hc ht hf))
theorem ai{kb:Nat}{c:Code}{Q:dt->St->Prop}{σ:St}(h:bX Tryz.prog kb c Q σ):At σ (bC Tryz.prog kb c Q .norm):=h
theorem cj{kb:Nat}{c:Code}{Q:dt->St->Prop}{σ:St}{De:Nat}(h:bX Tryz.prog kb c Q σ):bX Tryz.prog De .skip (bC Tryz.prog kb c Q) σ:=aX h
theorem za1{kb:Nat}{c:Code}{Q:dt->St->Prop}{σ:St}{b0:Nat}(h:bX Tryz.prog kb c Q σ):At σ (bG b0 (bC Tryz.prog kb c Q) .norm):=h
theorem kp{kb:Nat}{c:Code}{Q:dt->St->Prop}{σ:St}{b0:Nat}{De:Nat}(h:bX Tryz.prog kb c Q σ):bX Tryz.prog De .skip (bG b0 (bC Tryz.prog kb c Q)) σ:=aX h
theorem za2{kb:Nat}{c:Code}{Q:dt->St->Prop}{σ:St}{b0:Nat}{b1:Nat}(h:bX Tryz.prog kb c Q σ):At σ (bG b1 (bG b0 (bC Tryz.prog kb c Q)) .norm):=h
theorem Wn{kb:Nat}{c:Code}{Q:dt->St->Prop}{σ:St}{b0:Nat}{b1:Nat}{De:Nat}(h:bX Tryz.prog kb c Q σ):bX Tryz.prog De .skip (bG b1 (bG b0 (bC Tryz.prog kb c Q))) σ:=aX h
theorem za3{kb:Nat}{c:Code}{Q:dt->St->Prop}{σ:St}{b0:Nat}{b1:Nat}{b2:Nat}(h:bX Tryz.prog kb c Q σ):At σ (bG b2 (bG b1 (bG b0 (bC Tryz.prog kb c Q))) .norm):=h
theorem zb3{kb:Nat}{c:Code}{Q:dt->St->Prop}{σ:St}{b0:Nat}{b1:Nat}{b2:Nat}{De:Nat}(h:bX Tryz.prog kb c Q σ):bX Tryz.prog De .skip (bG b2 (bG b1 (bG b0 (bC Tryz.prog kb c Q)))) σ:=aX h
theorem eZ{ι:Type}{L:ι->St}{μ:ι->Nat}{i:ι}{Q:dt->St->Prop}{σ:St}(h:∃j,μ j<μ i∧ba σ (L j)):At σ (fM L μ i Q .norm):=h
theorem zn0{ι:Type}{L:ι->St}{μ:ι->Nat}{i:ι}{Q:dt->St->Prop}{σ:St}{De:Nat}(h:∃j,μ j<μ i∧ba σ (L j)):bX Tryz.prog De .skip (fM L μ i Q) σ:=aX h
theorem Wo{ι:Type}{L:ι->St}{μ:ι->Nat}{i:ι}{Q:dt->St->Prop}{σ:St}{b0:Nat}(h:∃j,μ j<μ i∧ba σ (L j)):At σ (bG b0 (fM L μ i Q) .norm):=h
theorem Z0{ι:Type}{L:ι->St}{μ:ι->Nat}{i:ι}{Q:dt->St->Prop}{σ:St}{b0:Nat}{De:Nat}(h:∃j,μ j<μ i∧ba σ (L j)):bX Tryz.prog De .skip (bG b0 (fM L μ i Q)) σ:=aX h
theorem zl2{ι:Type}{L:ι->St}{μ:ι->Nat}{i:ι}{Q:dt->St->Prop}{σ:St}{b0:Nat}{b1:Nat}(h:∃j,μ j<μ i∧ba σ (L j)):At σ (bG b1 (bG b0 (fM L μ i Q)) .norm):=h
theorem zn2{ι:Type}{L:ι->St}{μ:ι->Nat}{i:ι}{Q:dt->St->Prop}{σ:St}{b0:Nat}{b1:Nat}{De:Nat}(h:∃j,μ j<μ i∧ba σ (L j)):bX Tryz.prog De .skip (bG b1 (bG b0 (fM L μ i Q))) σ:=aX h
theorem zl3{ι:Type}{L:ι->St}{μ:ι->Nat}{i:ι}{Q:dt->St->Prop}{σ:St}{b0:Nat}{b1:Nat}{b2:Nat}(h:∃j,μ j<μ i∧ba σ (L j)):At σ (bG b2 (bG b1 (bG b0 (fM L μ i Q))) .norm):=h
theorem zn3{ι:Type}{L:ι->St}{μ:ι->Nat}{i:ι}{Q:dt->St->Prop}{σ:St}{b0:Nat}{b1:Nat}{b2:Nat}{De:Nat}(h:∃j,μ j<μ i∧ba σ (L j)):bX Tryz.prog De .skip (bG b2 (bG b1 (bG b0 (fM L μ i Q)))) σ:=aX h
end Go.Proofs.YtjdnhamngpafmaaGreat
section
/-
  Short forms of steps that occur often; the packed texts of a claim use them (squeeze.py).
-/
namespace Go.Proofs.YtjdnhamngpafmaaGreat
open Go.Av

theorem GG (aR : ez) (rv : List ResultVar) (sh : Bool) (k : Nat) (R : ae -> List ak -> Prop) (σ : St) : D' aR rv sh k R .ret σ = on (fH aR σ rv) fun rs => k <= σ.objs.length ∧ (∀ o ∈ σ.objs.take k, o.upto k) ∧ (iQ (if sh then rs.map ae.share else rs)).upto k ∧ R (iQ (if sh then rs.map ae.share else rs)) (σ.objs.take k) := rfl
theorem DK (aR : ez) (rv : List ResultVar) (sh : Bool) (k : Nat) (R : ae -> List ak -> Prop) (σ : St) : D' aR rv sh k R .norm σ = on (fH aR σ rv) fun rs => k <= σ.objs.length ∧ (∀ o ∈ σ.objs.take k, o.upto k) ∧ (iQ (if sh then rs.map ae.share else rs)).upto k ∧ R (iQ (if sh then rs.map ae.share else rs)) (σ.objs.take k) := rfl
theorem Gq : iQ [] = .cw [] := rfl
theorem Gr (x y : ae) (r : List ae) : iQ (x :: y :: r) = .cw (x :: y :: r) := rfl
theorem Wj (n : Nat) (x : Value) : ae.upto n (.v x) = True := rfl
def zr := And.intro @GG <|And.intro @DK <|And.intro @fH.eq_1 <|And.intro @fH.eq_2 <|And.intro @oh.eq_1 <|And.intro @oh.eq_2 <|And.intro @iQ.eq_1 <|And.intro @Gq <|And.intro @Gr <|
  And.intro @ae.upto.eq_1 <|And.intro @ae.upto.eq_2 <|And.intro @ae.upto.eq_3 <|And.intro @ae.upto.eq_4 <|And.intro @ae.upto.eq_5 <|And.intro @ae.upto.eq_6 <|And.intro @ae.upto.eq_7 <|And.intro @ae.upto.eq_8 <|And.intro @ae.upto.eq_9 <|And.intro @ae.upto.eq_10 <|And.intro @ae.upto.eq_11 <|And.intro @ae.upto.eq_12 <|And.intro @ae.upto.eq_13 <|
  And.intro @Nat.zero_le <|And.intro @Nat.le_refl <|And.intro @Nat.le_add_right <|And.intro @lp <|And.intro @jB @kl
def zc := And.intro @eQ.eq_1 <|And.intro @eQ.eq_2 <|And.intro @exists_eq_left'.{1} <|And.intro @Option.some.injEq.{0} <|And.intro @sub_self <|And.intro @and_assoc <|And.intro true_and and_true

theorem ab {p q : Prop} [Decidable p] (h : decide p = true) (n : ¬p) : q := absurd (of_decide_eq_true h) n
theorem af {p q : Prop} [Decidable p] (h : decide p = false) (n : p) : q := absurd n (of_decide_eq_false h)
theorem ob {a : Array Oper} {k : List Kind} (h : oc a k = true) : du a k := h
theorem zf {f : FuncId} {fn : Go.Func} {c : Code} {O : List ak} {args : List ae} {R : ae -> List ak -> Prop} {m : Nat} (sh : Bool) (k : Nat) (hf : Tryz.prog.funcs[f]? = some fn) (hm : fn.ntmps = m) (h : bX Tryz.prog O.length c (D' aR fn.results.toList sh k R) ⟨m, slotsOf 0 args, O⟩) (hb : fn.body = some c := by rfl)
    (uP : (fn.name == "runtime.NumGoroutine") = false := by kernel_rfl) (hn : args.length <= m := by simp) (hk : O.length <= k := by simp) : bd Tryz.prog f O args R := by
  subst hm;exact dj hT sh k hf hb uP hn hk h
theorem zq {σ τ : St} (h1 : σ.n = τ.n) (h3 : eQ σ τ.bn) (h2 : σ.objs = τ.objs) : ba σ τ := ⟨h1, h2, h3⟩

theorem cM {kb : Nat} {id : Nat} {l : List Oper} {draw : Bool} {Q : dt -> St -> Prop} {σ : St} {q : Prop} (h : q) (e : (dR Tryz.prog aR ⟨false, false⟩ l 0 [] σ [] fun τ ks => fW draw (fun _ => du l.toArray ks.reverse) ∧ At τ (Q .norm)) = q := by simp -dsimp only[simprocAttr, ↓aa, zp]; rfl) : bX Tryz.prog kb (.region id l.toArray draw) Q σ := jX (e ▸ h)
theorem ay {kb : Nat} {id : Nat} {l : List Oper} {draw : Bool} {Q : dt -> St -> Prop} {σ : St} {x : Code} {q : Prop} (h : q) (e : (dR Tryz.prog aR ⟨false, false⟩ l 0 [] σ [] fun τ ks => fW draw (fun _ => du l.toArray ks.reverse) ∧ At τ (bC Tryz.prog kb x Q .norm)) = q := by simp -dsimp only[simprocAttr, ↓aa, zp]; rfl) : bX Tryz.prog kb (.seq (.region id l.toArray draw) x) Q σ := aQ (e ▸ h)
theorem bV {kb : Nat} {id : Nat} {l : List Oper} {draw : Bool} {Q : dt -> St -> Prop} {σ : St} {x y : Code} {q : Prop} (h : q) (e : (dR Tryz.prog aR ⟨false, false⟩ l 0 [] σ [] fun τ ks => fW draw (fun _ => du l.toArray ks.reverse) ∧ At τ (bC Tryz.prog kb x (bC Tryz.prog kb y Q) .norm)) = q := by simp -dsimp only[simprocAttr, ↓aa, zp]; rfl) : bX Tryz.prog kb (.seq (.seq (.region id l.toArray draw) x) y) Q σ := c7 (e ▸ h)
theorem zh3 {kb : Nat} {id : Nat} {l : List Oper} {draw : Bool} {Q : dt -> St -> Prop} {σ : St} {x y z : Code} {q : Prop} (h : q) (e : (dR Tryz.prog aR ⟨false, false⟩ l 0 [] σ [] fun τ ks => fW draw (fun _ => du l.toArray ks.reverse) ∧ At τ (bC Tryz.prog kb x (bC Tryz.prog kb y (bC Tryz.prog kb z Q)) .norm)) = q := by simp -dsimp only[simprocAttr, ↓aa, zp]; rfl) : bX Tryz.prog kb (.seq (.seq (.seq (.region id l.toArray draw) x) y) z) Q σ := ZY (e ▸ h)
theorem cv {kb : Nat} {c : Operand} {x y : Code} {Q : dt -> St -> Prop} {σ : St} (hc : σ.ev c = some (.v (.bool false))) (hf : bX Tryz.prog kb y Q σ) : bX Tryz.prog kb (.cond c x y) Q σ := nG hc (fun h => by cases h) fun _ => hf
theorem Wp {kb : Nat} {c : Operand} {x y z : Code} {Q : dt -> St -> Prop} {σ : St} (hc : σ.ev c = some (.v (.bool false))) (hf : bX Tryz.prog kb y (bC Tryz.prog kb z Q) σ) : bX Tryz.prog kb (.seq (.cond c x y) z) Q σ := aH (cv hc hf)
theorem zu2 {kb : Nat} {c : Operand} {x y z w : Code} {Q : dt -> St -> Prop} {σ : St} (hc : σ.ev c = some (.v (.bool false))) (hf : bX Tryz.prog kb y (bC Tryz.prog kb z (bC Tryz.prog kb w Q)) σ) : bX Tryz.prog kb (.seq (.seq (.cond c x y) z) w) Q σ := aH (Wp hc hf)
theorem cB {kb : Nat} {c : Operand} {x y : Code} {Q : dt -> St -> Prop} {σ : St} (hc : σ.ev c = some (.v (.bool true))) (ht : bX Tryz.prog kb x Q σ) : bX Tryz.prog kb (.cond c x y) Q σ := nG hc (fun _ => ht) fun h => by cases h
theorem XU {kb : Nat} {c : Operand} {x y z : Code} {Q : dt -> St -> Prop} {σ : St} (hc : σ.ev c = some (.v (.bool true))) (ht : bX Tryz.prog kb x (bC Tryz.prog kb z Q) σ) : bX Tryz.prog kb (.seq (.cond c x y) z) Q σ := aH (cB hc ht)
theorem zw2 {kb : Nat} {c : Operand} {x y z w : Code} {Q : dt -> St -> Prop} {σ : St} (hc : σ.ev c = some (.v (.bool true))) (ht : bX Tryz.prog kb x (bC Tryz.prog kb z (bC Tryz.prog kb w Q)) σ) : bX Tryz.prog kb (.seq (.seq (.cond c x y) z) w) Q σ := aH (XU hc ht)
theorem zi {id : FuncId} {args : List ae} {r : ae} {K : ae -> Prop} {B q : Prop} (hc : bA Tryz.prog id args r) (h : q) (hu : av 0 args := by simp only[av, ae.upto, zt, zu]) (e : K r = q := by simp -dsimp only[simprocAttr, ↓aa, zp]; rfl) : (∃ r, bA Tryz.prog id args r ∧ av 0 args ∧ wS fun _ => K r) ∨ B := .inl ⟨r, hc, hu, ao (e ▸ h)⟩
theorem zj {p q : Prop} (h : q) (e : p = q := by simp -dsimp only[simprocAttr, ↓aa, zp]; rfl) : p := e ▸ h
end Go.Proofs.YtjdnhamngpafmaaGreat
end
namespace Go.Av
section
variable {P:Program} {w:World} {H:Type} {enc:TypeId×Value->H} {sp:Nat->Bool} {held:Bool}
theorem zM(hl:laidOutB P=true){ts:List TypeId}(hc:Pf P ts=true){t:TypeId}(ht:t∈ts){v:Value}{d:DataW H}{ps:List MemPlace}(h:DataW.Trod enc P w 0 sp held t v d ps)
  (hv:∃vs,v=.agg vs) (hw:∀m∈d.weights P t,m<=reachBytes):∃n dC,nB P n t dC∧RV (g0 w) (.agg dC) v:=by
 obtain⟨vs,rfl⟩:=hv;obtain⟨n,h⟩:=h;obtain⟨dC,h1,h3,h4,h5⟩:=BC hl hc n t _ (d,ps) ht h hw;exact⟨n,dC,h1,.agg (by simpa[Value.cells]using h3.symm) h4 fun i c u hc hu=>h5 i c u hc (by simpa[Value.cells]using hu)⟩
theorem Dr{t:TypeId}{fs:Array Field}{r:Reach}{b:Nat}{v:Value}(hu:P.underlying t=some (.struct fs))(h:Value.okWide P w r b t v):∃vs,v=.agg vs:=by
 cases v<;>first|exact⟨_,rfl⟩|simp[Value.okWide,hu,Cell.okWide,Cell.ok]at h
end
end Go.Av
namespace Go.Proofs.YtjdnhamngpafmaaGreat
open Go.Av
theorem Pd:Tryz.prog.cellsOf 3=1:=by kernel_rfl
theorem Lo:Tryz.prog.cellsOf 65=4:=by kernel_rfl
theorem Lp:Tryz.prog.cellsOf 82=2:=by kernel_rfl
theorem Ln:Tryz.prog.cellsOf 50=7:=by kernel_rfl
theorem Lm:Tryz.prog.cellsOf 34=2:=by kernel_rfl
theorem Pc:Tryz.prog.bytesOf 3=8:=by kernel_rfl
theorem Lk:Tryz.prog.bytesOf 65=48:=by kernel_rfl
theorem Ll:Tryz.prog.bytesOf 82=32:=by kernel_rfl
theorem Lj:Tryz.prog.bytesOf 50=120:=by kernel_rfl
theorem Li:Tryz.prog.bytesOf 34=32:=by kernel_rfl
theorem UF:zL Tryz.prog 3=false:=by kernel_rfl
theorem RE:zL Tryz.prog 65=true:=by kernel_rfl
theorem RF:zL Tryz.prog 82=true:=by kernel_rfl
theorem RD:zL Tryz.prog 50=true:=by kernel_rfl
theorem RC:zL Tryz.prog 34=true:=by kernel_rfl
theorem gW{n:Nat}{x:List ae}(h:nB Tryz.prog n 3 x):∃m:Int,x=[aI m]∧ca m:=by
 obtain⟨m,e,h1⟩:=h.int Tryz.underlying3;exact⟨m,e,h1⟩
theorem oP{n:Nat}{x:List ae}(h:nB Tryz.prog n 41 x):∃l:List Int,x=[aJ l]∧iv l∧l.length<=2 ^ 47:=by
 obtain⟨l,e,hb,hq⟩:=h.A4 (f:=aI) (Q:=ca) Tryz.underlying41 fun j hj y hy=>by
  obtain⟨m,rfl,hm⟩:=gW hy;exact⟨m,by rw[EY,UF];rfl,hm⟩
 rw[Pc,reachBytes]at hb;exact⟨l,by rw[e,Pd],hq,by omega⟩
theorem I4{n:Nat}{x:List ae}(h:nB Tryz.prog n 65 x):∃i:Ins,x=i.enc.cells∧i.fit:=by
 obtain⟨m,rfl,hc⟩:=h.struct Tryz.underlying65;simp only[List.map_cons,List.map_nil,KH]at hc;obtain⟨a,b,rfl,h1,c,d,rfl,h2,e,f,rfl,h3,g,k,rfl,h4,rfl⟩:=hc;obtain⟨x1,rfl,q1⟩:=gW h1;obtain⟨x2,rfl,q2⟩:=gW h2;obtain⟨x3,rfl,q3⟩:=gW h3;obtain⟨x4,rfl,q4,q5⟩:=oP h4;exact⟨⟨x1,x2,x3,x4⟩,rfl,q1,q2,q3,q4,q5⟩
theorem Gd{n:Nat}{x:List ae}(h:nB Tryz.prog n 48 x):∃l:List Ins,x=[a7 l]∧(∀i∈l,i.fit)∧l.length<=2 ^ 47:=by
 obtain⟨l,e,hb,hq⟩:=h.A4 (f:=Ins.enc) (Q:=Ins.fit) Tryz.underlying48 fun j hj y hy=>by
  obtain⟨m,rfl,hm⟩:=I4 hy;exact⟨m,by rw[EY,RE];rfl,hm⟩
 rw[Lk,reachBytes]at hb;exact⟨l,by rw[e,Lo],hq,by omega⟩
theorem FD{n:Nat}{x:List ae}(h:nB Tryz.prog n 82 x):∃i:Edge,x=i.enc.cells∧i.fit:=by
 obtain⟨m,rfl,hc⟩:=h.struct Tryz.underlying82;simp only[List.map_cons,List.map_nil,KH]at hc;obtain⟨a,b,rfl,h1,g,k,rfl,h4,rfl⟩:=hc;obtain⟨x1,rfl,q1⟩:=gW h1;obtain⟨x4,rfl,q4,q5⟩:=oP h4;exact⟨⟨x1,x4⟩,rfl,q1,q4,q5⟩
theorem CJ{n:Nat}{x:List ae}(h:nB Tryz.prog n 45 x):∃l:List Edge,x=[aG l]∧(∀i∈l,i.fit)∧l.length<=2 ^ 47:=by
 obtain⟨l,e,hb,hq⟩:=h.A4 (f:=Edge.enc) (Q:=Edge.fit) Tryz.underlying45 fun j hj y hy=>by
  obtain⟨m,rfl,hm⟩:=FD hy;exact⟨m,by rw[EY,RF];rfl,hm⟩
 rw[Ll,reachBytes]at hb;exact⟨l,by rw[e,Lp],hq,by omega⟩
theorem GW{n:Nat}{x:List ae}(h:nB Tryz.prog n 47 x):∃t:Term,x=t.enc.cells∧t.fit:=by
 obtain⟨m,rfl,hc⟩:=h.struct Tryz.underlying47;simp only[List.map_cons,List.map_nil,KH]at hc;obtain⟨a,b,rfl,h1,c,d,rfl,h2,e,f,rfl,h3,g,k,rfl,h4,g',k',rfl,h5,rfl⟩:=hc;obtain⟨x1,rfl,q1⟩:=gW h1;obtain⟨x2,rfl,q2⟩:=gW h2;obtain⟨x3,rfl,q3⟩:=gW h3;obtain⟨x4,rfl,q4,q5⟩:=oP h4;obtain⟨x5,rfl,q6,q7⟩:=CJ h5;exact⟨⟨x1,x2,x3,x4,x5⟩,rfl,q1,q2,q3,q4,q5,q7,q6⟩
theorem Cn{n:Nat}{x:List ae}(h:nB Tryz.prog n 50 x):∃b:Block,x=b.enc.cells∧b.fit:=by
 obtain⟨m,rfl,hc⟩:=h.struct Tryz.underlying50;simp only[List.map_cons,List.map_nil,KH]at hc;obtain⟨a,b,rfl,h1,c,d,rfl,h2,e,f,rfl,h3,rfl⟩:=hc;obtain⟨x1,rfl,q1,q2⟩:=oP h1;obtain⟨x2,rfl,q3,q4⟩:=Gd h2;obtain⟨x3,rfl,q5⟩:=GW h3;exact⟨⟨x1,x2,x3⟩,rfl,q1,q2,q4,q3,q5⟩
theorem FK{n:Nat}{x:List ae}(h:nB Tryz.prog n 34 x):∃f:Func,x=f.enc.cells∧f.fit:=by
 obtain⟨m,rfl,hc⟩:=h.struct Tryz.underlying34;simp only[List.map_cons,List.map_nil,KH]at hc;obtain⟨a,b,rfl,h1,c,d,rfl,h2,rfl⟩:=hc;obtain⟨x1,rfl,q1⟩:=gW h1;obtain⟨l,rfl,hb,hq⟩:=h2.A4 (f:=Block.enc) (Q:=Block.fit) Tryz.underlying32 fun j hj y hy=>by
  obtain⟨m,rfl,hm⟩:=Cn hy;exact⟨m,by rw[EY,RD];rfl,hm⟩
 rw[Lj,reachBytes]at hb;exact⟨⟨x1,l⟩,by rw[Ln];rfl,q1,by show l.length<=_;omega,hq⟩
theorem GX{n:Nat}{x:List ae}(h:nB Tryz.prog n 24 x):∃u:cd,.agg x=u.enc∧u.fit:=by
 obtain⟨m,rfl,hc⟩:=h.struct Tryz.underlying24;simp only[List.map_cons,List.map_nil,KH]at hc;obtain⟨a,b,rfl,h1,c,d,rfl,h2,rfl⟩:=hc;obtain⟨l,rfl,hb,hq⟩:=h1.A4 (f:=Func.enc) (Q:=Func.fit) Tryz.underlying22 fun j hj y hy=>by
  obtain⟨m,rfl,hm⟩:=FK hy;exact⟨m,by rw[EY,RC];rfl,hm⟩
 obtain⟨x1,rfl,q1⟩:=gW h2;rw[Li,reachBytes]at hb;exact⟨⟨l,x1⟩,by rw[Lm];rfl,q1,by show l.length<=_;omega,hq⟩
def RI:List TypeId:=[3,22,24,32,34,41,45,47,48,50,65,82]
theorem XZ:Pf Tryz.prog RI=true:=by kernel_rfl
theorem laid:laidOutB Tryz.prog=true:=by kernel_rfl
def within(n low high:Int):Bool:=decide (low<=n)&&decide (n<=high)
theorem dF(n low high:Int):bA Tryz.prog 30 [aI n,aI low,aI high] (.v (.bool (within n low high))):=by
 refine zf true 0 Tryz.func30 Tryz.ntmps30 ?_;dsimp only[Tmp,TypeId,slotsOf];refine ay (ai ?_);refine ay ?_;refine D3 (fun h=>?_) (fun h=>?_)
 ·simp -dsimp only[simprocAttr,↓aa,zp,h];refine ai ?_;refine aq ?_;simp -dsimp only[simprocAttr,↓aa,zp,zr,Tryz.results30]
  simp_all [within]
 simp -dsimp only[simprocAttr,↓aa,zp,h];refine ai ?_;refine aq ?_;simp -dsimp only[simprocAttr,↓aa,zp,zr,Tryz.results30]
 simp_all [within]
 omega
theorem jW(n:Int):-1073741824<=ke n∧ke n<=1073741823:=by
 unfold ke;omega
theorem K'(x:Int):bitsOf .i64 (fun x y=>x&&& y) x 2147483647=x % 2147483648:=by
 have h:(BitVec.ofInt 64 x&&& BitVec.ofInt 64 2147483647).toNat=(x % 2147483648).toNat:=by
  rw[BitVec.toNat_and,show(BitVec.ofInt 64 2147483647).toNat=2 ^ 31-1 by decide,Nat.and_two_pow_sub_one_eq_mod,BitVec.toNat_ofInt];omega
 show IntKind.i64.wrap (((BitVec.ofInt 64 x&&& BitVec.ofInt 64 2147483647).toNat:Nat):Int)=_;rw[h,m8 .i64 _ (by simp[IntKind.min,IntKind.bits,IntKind.signed];omega) (by simp[IntKind.max,IntKind.bits,IntKind.signed];omega)];omega
theorem fR(n:Int)(h1:-9223372036854775808<=n)(h2:n<=9223372035781033983):bA Tryz.prog 155 [aI n] (aI (ke n)):=by
 have q:=jW n;have e:bitsOf .i64 (fun x y=>x&&& y) (n+1073741824) 2147483647=ke n+1073741824:=by
  rw[K'];unfold ke;omega
 refine zf true 0 Tryz.func155 Tryz.ntmps155 ?_;dsimp only[Tmp,TypeId,slotsOf];refine ay (ai ?_);refine ay ?_;refine⟨by omega,by omega,?_⟩;simp -dsimp only[simprocAttr,↓aa,zp,e];refine⟨by omega,by omega,by omega,by omega,?_⟩;refine ai ?_;refine aq ?_;simp -dsimp only[simprocAttr,↓aa,zp,zr,Tryz.results155];rw[Int.add_sub_cancel]
theorem mb{n:Int}(h:fv n):ke n=n:=by
 unfold fv at h;unfold ke;omega
theorem Hp(a b:Int)(ha:fv a)(hb:fv b):bA Tryz.prog 148 [aI a,aI b] (aI (ke (a+b))):=by
 unfold fv at ha hb;refine zf true 0 Tryz.func148 Tryz.ntmps148 ?_;dsimp only[Tmp,TypeId,slotsOf];refine ay (ai ?_);refine ay ?_;refine⟨by omega,by omega,?_⟩;refine .inl ⟨_,(fR (a+b) (by omega) (by omega)),by simp only[av,ae.upto,zt],ao ?_⟩;refine ai ?_;refine aq ?_;simp -dsimp only[simprocAttr,↓aa,zp,zr,Tryz.results148]
theorem JW(a b:Int)(ha:fv a)(hb:fv b):bA Tryz.prog 149 [aI a,aI b] (aI (ke (a-b))):=by
 unfold fv at ha hb;refine zf true 0 Tryz.func149 Tryz.ntmps149 ?_;dsimp only[Tmp,TypeId,slotsOf];refine ay (ai ?_);refine ay ?_;refine⟨by omega,by omega,?_⟩;refine .inl ⟨_,(fR (a-b) (by omega) (by omega)),by simp only[av,ae.upto,zt],ao ?_⟩;refine ai ?_;refine aq ?_;simp -dsimp only[simprocAttr,↓aa,zp,zr,Tryz.results149]
theorem DG{a b:Int}(ha:fv a)(hb:fv b):-1152921504606846976<=a*b∧a*b<=1152921504606846976:=by
 unfold fv at ha hb;have h:(a*b).natAbs<=1152921504606846976:=by
  rw[Int.natAbs_mul];have:=Nat.mul_le_mul (show a.natAbs<=1073741824 by omega) (show b.natAbs<=1073741824 by omega);omega
 omega
theorem Je(a b:Int)(ha:fv a)(hb:fv b):bA Tryz.prog 150 [aI a,aI b] (aI (ke (a*b))):=by
 have q:=DG ha hb;have ea:=mb ha;have eb:=mb hb;have wa:=fR a (by unfold fv at ha;omega) (by unfold fv at ha;omega);have wb:=fR b (by unfold fv at hb;omega) (by unfold fv at hb;omega);have wc:=fR (a*b) (by omega) (by omega);rw[ea]at wa;rw[eb]at wb;generalize hc:a*b=c at *;refine zf true 0 Tryz.func150 Tryz.ntmps150 ?_;dsimp only[Tmp,TypeId,slotsOf];refine ay (ai ?_);refine ay ?_;refine .inl ⟨_,wa,by simp only[av,ae.upto,zt],ao ?_⟩;refine .inl ⟨_,wb,by simp only[av,ae.upto,zt],ao ?_⟩;simp -dsimp only[simprocAttr,↓aa,zp,hc];refine⟨by omega,by omega,?_⟩;refine .inl ⟨_,wc,by simp only[av,ae.upto,zt],ao ?_⟩;refine ai ?_;refine aq ?_;simp -dsimp only[simprocAttr,↓aa,zp,zr,Tryz.results150]
theorem DY{a b:Int}(ha:fv a):-1073741824<=a.tdiv b∧a.tdiv b<=1073741824:=by
 unfold fv at ha;have h:(a.tdiv b).natAbs<=a.natAbs:=by
  rw[Int.natAbs_tdiv];exact Nat.div_le_self _ _
 omega
theorem vF{a b:Int}(hb:fv b)(h0:b≠0):fv (a.tmod b):=by
 unfold fv at *;have h:(a.tmod b).natAbs<b.natAbs:=by
  rw[Int.natAbs_tmod];exact Nat.mod_lt _ (by omega)
 omega
theorem HV(a b:Int)(ha:fv a)(hb:fv b)(h0:b≠0):bA Tryz.prog 152 [aI a,aI b] (.cw [aI (ke (a.tdiv b)),aI 0]):=by
 have q:=DY (b:=b) ha;have wa:=fR a (by unfold fv at ha;omega) (by unfold fv at ha;omega);have wb:=fR b (by unfold fv at hb;omega) (by unfold fv at hb;omega);have wc:=fR (a.tdiv b) (by omega) (by omega);rw[mb ha]at wa;rw[mb hb]at wb;have h1:(b=0)=False:=by simpa using h0
 generalize hc:a.tdiv b=c at *;refine zf true 0 Tryz.func152 Tryz.ntmps152 ?_;dsimp only[Tmp,TypeId,slotsOf];refine ay (ai ?_);refine bV ?_;refine .inl ⟨_,wb,by simp only[av,ae.upto,zt],ao ?_⟩;simp -dsimp only[simprocAttr,↓aa,zp,h0];refine ai ?_;refine cv rfl ?_;refine cj ?_;refine ay ?_;refine .inl ⟨_,wa,by simp only[av,ae.upto,zt],ao ?_⟩;refine .inl ⟨_,wb,by simp only[av,ae.upto,zt],ao ?_⟩;simp -dsimp only[simprocAttr,↓aa,zp,h1,if_false,hc];refine⟨by omega,by omega,?_⟩;refine .inl ⟨_,wc,by simp only[av,ae.upto,zt],ao ?_⟩;refine ai ?_;refine aq ?_;simp -dsimp only[simprocAttr,↓aa,zp,zr,Tryz.results152];simp[av,ae.upto]
theorem Jd(a b:Int)(ha:fv a)(hb:fv b)(h0:b≠0):bA Tryz.prog 153 [aI a,aI b] (.cw [aI (a.tmod b),aI 0]):=by
 have q:=vF (a:=a) hb h0;unfold fv at q;have wa:=fR a (by unfold fv at ha;omega) (by unfold fv at ha;omega);have wb:=fR b (by unfold fv at hb;omega) (by unfold fv at hb;omega);rw[mb ha]at wa;rw[mb hb]at wb;have h1:(b=0)=False:=by simpa using h0
 generalize hc:a.tmod b=c at *;refine zf true 0 Tryz.func153 Tryz.ntmps153 ?_;dsimp only[Tmp,TypeId,slotsOf];refine ay (ai ?_);refine bV ?_;refine .inl ⟨_,wb,by simp only[av,ae.upto,zt],ao ?_⟩;simp -dsimp only[simprocAttr,↓aa,zp,h0];refine ai ?_;refine cv rfl ?_;refine cj ?_;refine ay ?_;refine .inl ⟨_,wa,by simp only[av,ae.upto,zt],ao ?_⟩;refine .inl ⟨_,wb,by simp only[av,ae.upto,zt],ao ?_⟩;simp -dsimp only[simprocAttr,↓aa,zp,h1,if_false,hc];refine⟨by omega,by omega,?_⟩;refine ai ?_;refine aq ?_;simp -dsimp only[simprocAttr,↓aa,zp,zr,Tryz.results153];simp[av,ae.upto]
structure Bs where
 a:Nat
 b:Nat
 deriving DecidableEq
namespace Bs
def enc(s:Bs):ae:=.agg [.v (.int .u64 s.a),.v (.int .u64 s.b)]
def fit(s:Bs):Prop:=s.a<2 ^ 64∧s.b<2 ^ 64
def has(s:Bs)(k:Nat):Bool:=if k<64 then s.a.testBit k else s.b.testBit (k-64)
def add(s:Bs)(k:Nat):Bs:=if k<64 then⟨s.a |||1 <<< k,s.b⟩else⟨s.a,s.b |||1 <<< (k-64)⟩
def meet(s t:Bs):Bs:=⟨s.a&&& t.a,s.b&&& t.b⟩
def none:Bs:=⟨0,0⟩
theorem al(s:Bs):s.enc.share=s.enc:=rfl
theorem au(s:Bs):s.enc.flat:=trivial
theorem aj(s:Bs):s.enc.cells=[.v (.int .u64 s.a),.v (.int .u64 s.b)]:=rfl
theorem aO(n:Nat)(s:Bs):s.enc.upto n:=⟨trivial,trivial,trivial⟩
end Bs
theorem wrap_u64{n:Nat}(h:n<2 ^ 64):IntKind.u64.wrap (n:Int)=(n:Int):=by
 rw[m8 .u64 _ (by simp[IntKind.min,IntKind.signed]) (by simp[IntKind.max,IntKind.bits,IntKind.signed];omega)]
theorem yb{m n:Nat}(hm:m<2 ^ 64)(hn:n<2 ^ 64):bitsOf .u64 (fun x y=>x&&& y) (m:Int) (n:Int)=((m&&& n:Nat):Int):=by
 have h:(BitVec.ofInt 64 (m:Int)&&& BitVec.ofInt 64 (n:Int)).toNat=m&&& n:=by
  rw[BitVec.toNat_and,BitVec.toNat_ofInt,BitVec.toNat_ofInt];congr 1<;>omega
 show IntKind.u64.wrap (((BitVec.ofInt 64 (m:Int)&&& BitVec.ofInt 64 (n:Int)).toNat:Nat):Int)=_;rw[h];exact wrap_u64 (Nat.lt_of_le_of_lt Nat.and_le_left hm)
theorem Jt{m n:Nat}(hm:m<2 ^ 64)(hn:n<2 ^ 64):bitsOf .u64 (fun x y=>x |||y) (m:Int) (n:Int)=((m |||n:Nat):Int):=by
 have h:(BitVec.ofInt 64 (m:Int) |||BitVec.ofInt 64 (n:Int)).toNat=m |||n:=by
  rw[BitVec.toNat_or,BitVec.toNat_ofInt,BitVec.toNat_ofInt];congr 1<;>omega
 show IntKind.u64.wrap (((BitVec.ofInt 64 (m:Int) |||BitVec.ofInt 64 (n:Int)).toNat:Nat):Int)=_;rw[h];exact wrap_u64 (Nat.or_lt_two_pow hm hn)
theorem MS(m k:Nat)(hk:k<64):eU .u64 .shr (m:Int) (k:Int)=((m >>> k:Nat):Int):=by
 simp only[eU,Int.toNat_natCast,IntKind.bits];rw[Nat.min_eq_left (by omega),Nat.shiftRight_eq_div_pow,Int.fdiv_eq_ediv_of_nonneg _ (by exact Int.le_of_lt (Int.pow_pos (by omega)))];simp
theorem MR(k:Nat)(hk:k<64):eU .u64 .shl 1 (k:Int)=((1 <<< k:Nat):Int):=by
 simp only[eU,Int.toNat_natCast,IntKind.bits];have bf:1 <<< k<2 ^ 64:=by
  rw[Nat.one_shiftLeft];exact Nat.pow_lt_pow_right (by omega) hk
 have he:(1:Int)*(2:Int) ^ k=((1 <<< k:Nat):Int):=by
  rw[Nat.one_shiftLeft];simp
 rw[Nat.min_eq_left (by omega),he];exact wrap_u64 bf
theorem Lg(m k:Nat):decide (((m >>> k&&& 1:Nat):Int)=1)=m.testBit k:=by
 rw[Nat.testBit_eq_decide_div_mod_eq,Nat.and_one_is_mod,Nat.shiftRight_eq_div_pow];congr 1;apply propext;omega
theorem Qs{m k:Nat}(h:m<2 ^ 64):m >>> k<2 ^ 64:=by
 rw[Nat.shiftRight_eq_div_pow];exact Nat.lt_of_le_of_lt (Nat.div_le_self _ _) h
theorem OO{k:Nat}:(k:Int).tdiv 64=((k / 64:Nat):Int):=by
 rw[Int.tdiv_eq_ediv_of_nonneg (by omega)];omega
theorem OP{k:Nat}:(k:Int).tmod 64=((k % 64:Nat):Int):=by
 rw[Int.tmod_eq_emod_of_nonneg (by omega)];omega
theorem Js:((1:Nat):Int)=1:=rfl
theorem qJ(s:Bs)(hs:s.fit)(k:Nat)(hk:k<128):bA Tryz.prog 90 [s.enc,aI k] (.v (.bool (s.has k))):=by
 obtain⟨ha,hb⟩:=hs;have UC:((64:Int)=0)=False:=by simp
 have Mf:k % 64<64:=Nat.mod_lt _ (by omega);have q1:=OO (k:=k);have q2:=OP (k:=k);obtain⟨x,hx,TE⟩:∃x:Nat,x<2 ^ 64∧x=if k<64 then s.a else s.b:=by
  split
  ·exact⟨_,ha,rfl⟩
  exact⟨_,hb,rfl⟩
 have hr:s.has k=x.testBit (k % 64):=by
  rw[TE];unfold Bs.has;split
  ·rw[Nat.mod_eq_of_lt (by assumption)]
  rw[show k % 64=k-64 by omega]
 have e1:=MS x (k % 64) Mf;have ng:=Qs (k:=k % 64) hx;have e2:=yb (m:=x >>> (k % 64)) (n:=1) ng (by omega);have e3:=Lg x (k % 64);rw[Js]at e2;have mG:x >>> (k % 64)&&& 1<=1:=Nat.and_le_right;rw[hr,<-e3];generalize hy:x >>> (k % 64)=y at *;generalize hw:y&&& 1=w at *;rcases(show k / 64=0∧x=s.a∨k / 64=1∧x=s.b by
  by_cases h:k<64
  ·exact .inl ⟨by omega,by rw[TE,if_pos h]⟩
  exact .inr ⟨by omega,by rw[TE,if_neg h]⟩)with⟨hq,u7⟩|⟨hq,u7⟩
 all_goals
  rw[hq]at q1;subst u7;refine zf true 0 Tryz.func90 Tryz.ntmps90 ?_;dsimp only[Tmp,TypeId,slotsOf];refine aQ ?_;simp -dsimp only[simprocAttr,↓aa,zp,Bs.aj,Bs.au];refine ai ?_;refine aQ ?_;simp -dsimp only[simprocAttr,↓aa,zp,q1,q2,UC,if_false,e1,e2]
  repeat(refine⟨by omega,?_⟩)
  refine ai ?_;refine aq ?_;simp -dsimp only[simprocAttr,↓aa,zp,zr,Tryz.results90]
theorem Fp(s t:Bs)(hs:s.fit)(ht:t.fit):bA Tryz.prog 120 [s.enc,t.enc] (s.meet t).enc:=by
 obtain⟨ha,hb⟩:=hs;obtain⟨hc,hd⟩:=ht;have e1:=yb ha hc;have e2:=yb hb hd;have l1:s.a&&& t.a<2 ^ 64:=Nat.lt_of_le_of_lt Nat.and_le_left ha;have l2:s.b&&& t.b<2 ^ 64:=Nat.lt_of_le_of_lt Nat.and_le_left hb;unfold Bs.meet;generalize s.a&&& t.a=p at *;generalize s.b&&& t.b=q at *;refine zf true 0 Tryz.func120 Tryz.ntmps120 ?_;dsimp only[Tmp,TypeId,slotsOf];refine aQ ?_;simp -dsimp only[simprocAttr,↓aa,zp,Bs.aj,Bs.au];refine ai ?_;refine aQ ?_;simp -dsimp only[simprocAttr,↓aa,zp,e1,e2]
 repeat(refine⟨by omega,?_⟩)
 refine ai ?_;refine aq ?_;simp -dsimp only[simprocAttr,↓aa,zp,zr,Tryz.results120];exact⟨⟨trivial,trivial,trivial⟩,rfl⟩
theorem G1(s:Bs)(hs:s.fit)(k:Nat)(hk:k<128):bA Tryz.prog 119 [s.enc,aI k] (s.add k).enc:=by
 obtain⟨ha,hb⟩:=hs;have UC:((64:Int)=0)=False:=by simp
 have Mf:k % 64<64:=Nat.mod_lt _ (by omega);have q1:=OO (k:=k);have q2:=OP (k:=k);have e1:=MR (k % 64) Mf;have bf:1 <<< (k % 64)<2 ^ 64:=by
  rw[Nat.one_shiftLeft];exact Nat.pow_lt_pow_right (by omega) Mf
 rcases(show k<64∨64<=k by omega)with h|h
 ·have hq:k / 64=0:=by omega
  have hr:s.add k=⟨s.a |||1 <<< (k % 64),s.b⟩:=by
   simp[Bs.add,h,Nat.mod_eq_of_lt h]
  have e2:=Jt ha bf;have l1:s.a |||1 <<< (k % 64)<2 ^ 64:=Nat.or_lt_two_pow ha bf;rw[hr];rw[hq]at q1;generalize hy:1 <<< (k % 64)=y at *;generalize hw:s.a |||y=w at *;refine zf true 0 Tryz.func119 Tryz.ntmps119 ?_;dsimp only[Tmp,TypeId,slotsOf];refine aQ ?_;simp -dsimp only[simprocAttr,↓aa,zp,Bs.aj,Bs.au];refine ai ?_;refine aQ ?_;simp -dsimp only[simprocAttr,↓aa,zp,q1,q2,UC,if_false,e1,e2]
  repeat(refine⟨by omega,?_⟩)
  refine⟨ob (by kernel_rfl),?_⟩;refine ai ?_;refine ay (ai ?_);refine aq ?_;simp -dsimp only[simprocAttr,↓aa,zp,zr,Tryz.results119];exact⟨⟨trivial,trivial,trivial⟩,rfl⟩
 have hq:k / 64=1:=by omega
 have hr:s.add k=⟨s.a,s.b |||1 <<< (k % 64)⟩:=by
  have cq:¬k<64:=by omega
  simp[Bs.add,cq,show k % 64=k-64 by omega]
 have e2:=Jt hb bf;have l1:s.b |||1 <<< (k % 64)<2 ^ 64:=Nat.or_lt_two_pow hb bf;rw[hr];rw[hq]at q1;generalize hy:1 <<< (k % 64)=y at *;generalize hw:s.b |||y=w at *;refine zf true 0 Tryz.func119 Tryz.ntmps119 ?_;dsimp only[Tmp,TypeId,slotsOf];refine aQ ?_;simp -dsimp only[simprocAttr,↓aa,zp,Bs.aj,Bs.au];refine ai ?_;refine aQ ?_;simp -dsimp only[simprocAttr,↓aa,zp,q1,q2,UC,if_false,e1,e2]
 repeat(refine⟨by omega,?_⟩)
 refine⟨ob (by kernel_rfl),?_⟩;refine ai ?_;refine ay (ai ?_);refine aq ?_;simp -dsimp only[simprocAttr,↓aa,zp,zr,Tryz.results119];exact⟨⟨trivial,trivial,trivial⟩,rfl⟩
namespace Bs
theorem uG(s t:Bs)(k:Nat):(s.meet t).has k=(s.has k&&t.has k):=by
 unfold has meet;split<;>simp[Nat.testBit_and]
theorem has_add(s:Bs)(j k:Nat)(hj:j<128)(hk:k<128):(s.add j).has k=(s.has k ||decide (k=j)):=by
 unfold has add;by_cases h1:j<64<;>by_cases h2:k<64
 ·simp only[h1,h2,if_true,Nat.testBit_or,Nat.one_shiftLeft,Nat.testBit_two_pow];congr 1;apply decide_eq_decide.2;omega
 ·simp only[h1,h2,if_true,if_false];have:¬k=j:=by omega
  simp[this]
 ·simp only[h1,h2,if_true,if_false];have:¬k=j:=by omega
  simp[this]
 simp only[h1,h2,if_false,Nat.testBit_or,Nat.one_shiftLeft,Nat.testBit_two_pow];congr 1;apply decide_eq_decide.2;omega
theorem As{s t:Bs}(h:s.fit):(s.meet t).fit:=⟨Nat.lt_of_le_of_lt Nat.and_le_left h.1,Nat.lt_of_le_of_lt Nat.and_le_left h.2⟩
theorem oJ{s:Bs}(h:s.fit){k:Nat}(hk:k<128):(s.add k).fit:=by
 unfold add;split
 ·refine⟨Nat.or_lt_two_pow h.1 ?_,h.2⟩;rw[Nat.one_shiftLeft];exact Nat.pow_lt_pow_right (by omega) (by assumption)
 refine⟨h.1,Nat.or_lt_two_pow h.2 ?_⟩;rw[Nat.one_shiftLeft];exact Nat.pow_lt_pow_right (by omega) (by omega)
theorem nN:none.fit:=⟨by decide,by decide⟩
theorem ext{s t:Bs}(hs:s.fit)(ht:t.fit)(h:∀k,k<128->s.has k=t.has k):s=t:=by
 obtain⟨a,b⟩:=s;obtain⟨c,d⟩:=t;obtain⟨s1,s2⟩:=hs;obtain⟨t1,t2⟩:=ht;simp only at s1 s2 t1 t2;have bf:∀{m k:Nat},m<2 ^ 64->64<=k->m.testBit k=false:=fun hm hk=>Nat.testBit_lt_two_pow (Nat.lt_of_lt_of_le hm (Nat.pow_le_pow_right (by omega) hk));congr 1
 ·apply Nat.eq_of_testBit_eq;intro k;by_cases hk:k<64
  ·have:=h k (by omega);simpa[has,hk]using this
  rw[bf s1 (by omega),bf t1 (by omega)]
 apply Nat.eq_of_testBit_eq;intro k;by_cases hk:k<64
 ·have:=h (k+64) (by omega);simpa[has,show ¬k+64<64 by omega]using this
 rw[bf s2 (by omega),bf t2 (by omega)]
def size(s:Bs):Nat:=(List.range 128).countP s.has
theorem countP_le{p q:Nat->Bool}(h:∀k,k<128->p k=true->q k=true):∀n≤128,(List.range n).countP p<=(List.range n).countP q
 | 0,_=>by simp
 | n+1,hn=>by
  have ih:=countP_le h n (by omega);rw[List.range_succ,List.countP_append,List.countP_append];have:[n].countP p<=[n].countP q:=by
   simp only[List.countP_singleton];by_cases hp:p n=true
   ·simp[hp,h n (by omega) hp]
   simp[hp]
  omega
theorem rD{p q:Nat->Bool}(h:∀k,k<128->p k=true->q k=true){j:Nat}(hq:q j=true)(hp:p j=false):∀n≤128,j<n->(List.range n).countP p<(List.range n).countP q
 | 0,_,hj=>by omega
 | n+1,hn,hj=>by
  rw[List.range_succ,List.countP_append,List.countP_append];by_cases e:j=n
  ·subst e;have:=countP_le h j (by omega);simp only[List.countP_singleton,hq,hp];simp;omega
  have ih:=rD h hq hp n (by omega) (by omega);have:[n].countP p<=[n].countP q:=by
   simp only[List.countP_singleton];by_cases Mk:p n=true
   ·simp[Mk,h n (by omega) Mk]
   simp[Mk]
  omega
theorem MT{s t:Bs}(hs:s.fit)(ht:t.fit)(h:∀k,k<128->s.has k=true->t.has k=true)(cq:s≠t):s.size<t.size:=by
 by_cases cr:∀k,k<128->t.has k=true->s.has k=true
 ·exfalso;apply cq;apply ext hs ht;intro k hk;cases h1:s.has k<;>cases h2:t.has k
  ·rfl
  ·exact absurd (cr k hk h2) (by simp[h1])
  ·exact absurd (h k hk h1) (by simp[h2])
  rfl
 obtain⟨j,hj,h2,h1⟩:∃j,j<128∧t.has j=true∧¬s.has j=true:=by
  refine Classical.byContradiction fun q=>cr fun k hk h2=>?_;refine Classical.byContradiction fun h1=>q ⟨k,hk,h2,h1⟩
 exact rD h h2 (by simpa using h1) 128 (Nat.le_refl _) hj
theorem sN(s:Bs):s.size<=128:=by
 have:=List.countP_le_length (p:=s.has) (l:=List.range 128);simpa[size]using this
end Bs
structure Ds where
 over:List Bs
 seen:Bs
 again:Bool
def Ds.at_(S:Ds)(k:Nat):Bs:=S.over[k]?.getD .none
def ig(k:Nat)(S:Ds)(e:Edge):Ds :=
 let next:=((S.at_ e.block.toNat).meet (S.at_ k)).add e.block.toNat
 if next≠S.at_ e.block.toNat∨S.seen.has e.block.toNat=false then⟨S.over.set e.block.toNat next,S.seen.add e.block.toNat,true⟩else S
def qC(k:Nat)(S:Ds)(b:Block):Ds:=if S.seen.has k=false then S else b.term.to.foldl (ig k) S
def lz:Nat->Ds->List Block->Ds
 | _,S,[]=>S
 | k,S,b::r=>lz (k+1) (qC k S b) r
def iY(f:Func):Nat->Ds->Ds
 | 0,S=>S
 | n+1,S=>if S.again then iY f n (lz 0 ⟨S.over,S.seen,false⟩ f.blocks)else S
def vV:Nat->Bs
 | 0=>.none
 | n+1=>(vV n).add n
def mw(f:Func):Ds:=⟨(List.replicate f.blocks.length (vV f.blocks.length)).set 0 (Bs.none.add 0),Bs.none.add 0,true⟩
def k6(f:Func):List Bs×Bs:=((iY f 20000 (mw f)).over,(iY f 20000 (mw f)).seen)
structure kZ(n:Nat)(S:Ds):Prop where
 few:n<=128
 len:S.over.length=n
 fit:∀s∈S.over,s.fit
 seen:S.seen.fit
 self:∀k,k<n->(S.at_ k).has k=true
def Ds.weight(S:Ds):Nat:=(S.over.map Bs.size).sum+(128-S.seen.size)
theorem kZ.yd{n:Nat}{S:Ds}(h:kZ n S)(k:Nat):(S.at_ k).fit:=by
 unfold Ds.at_;cases hk:S.over[k]? with
 | none=>exact Bs.nN
 | some s=>exact h.fit s (List.mem_of_getElem? hk)
theorem MX{l:List Nat}{k x y:Nat}(h:l[k]?=some y):(l.set k x).sum+y=l.sum+x:=by
 induction l generalizing k with
 | nil=>simp at h
 | cons a r ih =>
  cases k with
  | zero =>
   simp only[List.getElem?_cons_zero,Option.some.injEq]at h;simp only[List.set_cons_zero,List.sum_cons];omega
  | succ k =>
   have:=ih (k:=k) (by simpa using h);simp only[List.set_cons_succ,List.sum_cons];omega
theorem El{n:Nat}{S:Ds}(h:kZ n S){k:Nat}{e:Edge}(KO:0<=e.block)(qL:e.block.toNat<n):kZ n (ig k S e)∧(ig k S e).weight<=S.weight∧((ig k S e).again=true->S.again=true∨(ig k S e).weight<S.weight):=by
 have hj:e.block.toNat<128:=Nat.lt_of_lt_of_le qL h.few;unfold ig;simp only;generalize e.block.toNat=j at *;have Xb:=h.yd j;have qM:(((S.at_ j).meet (S.at_ k)).add j).fit:=Bs.oJ (Bs.As Xb) hj;have uZ:∀i,i<128->(((S.at_ j).meet (S.at_ k)).add j).has i=true->(S.at_ j).has i=true:=fun i hi q=>by
  rw[Bs.has_add _ _ _ hj hi,Bs.uG]at q;by_cases e:i=j
  ·subst e;exact h.self i qL
  simp[e]at q;exact q.1
 have Az:S.over[j]?=some (S.at_ j):=by
  have:j<S.over.length:=by rw[h.len];exact qL
  simp[Ds.at_,this]
 split
 ·rename_i hc;refine⟨⟨h.few,by simp[h.len],fun s hs=>?_,Bs.oJ h.seen hj,fun i hi=>?_⟩,?_⟩
  ·rcases List.mem_or_eq_of_mem_set hs with q|q
   ·exact h.fit s q
   rw[q];exact qM
  ·unfold Ds.at_;by_cases e:i=j
   ·subst e;rw[List.getElem?_set_self (by rw[h.len];exact hi)];simp only[Option.getD_some];rw[Bs.has_add _ _ _ hj hj];simp
   rw[List.getElem?_set_ne (Ne.symm e)];exact h.self i hi
  have rP:=MX (l:=S.over.map Bs.size) (k:=j) (x:=(((S.at_ j).meet (S.at_ k)).add j).size) (y:=(S.at_ j).size) (by simp[Az]);rw[<-List.map_set]at rP;have hle:(((S.at_ j).meet (S.at_ k)).add j).size<=(S.at_ j).size:=Bs.countP_le uZ 128 (Nat.le_refl _);have ng:S.seen.size<=(S.seen.add j).size:=Bs.countP_le (fun i hi q=>by rw[Bs.has_add _ _ _ hj hi,q];rfl) 128 (Nat.le_refl _);have ha:=Bs.sN (S.seen.add j);have bf:(((S.at_ j).meet (S.at_ k)).add j).size<(S.at_ j).size∨S.seen.size<(S.seen.add j).size:=by
   rcases hc with hc|hc
   ·exact .inl (Bs.MT qM Xb uZ hc)
   refine .inr (Bs.rD (fun i hi q=>by rw[Bs.has_add _ _ _ hj hi,q];rfl) (j:=j) ?_ hc 128 (Nat.le_refl _) hj);rw[Bs.has_add _ _ _ hj hj];simp
  simp only[Ds.weight];refine⟨by omega,fun _=>.inr (by omega)⟩
 exact⟨h,Nat.le_refl _,fun q=>.inl q⟩
theorem Em{n:Nat}{k:Nat}:∀(l:List Edge) {S:Ds},kZ n S->(∀e∈l,0<=e.block∧e.block.toNat<n)->kZ n (l.foldl (ig k) S)∧(l.foldl (ig k) S).weight<=S.weight∧((l.foldl (ig k) S).again=true->S.again=true∨(l.foldl (ig k) S).weight<S.weight)
 | [],S,h,_=>⟨h,Nat.le_refl _,fun q=>.inl q⟩
 | e::r,S,h,he=>by
  obtain⟨a1,a2,a3⟩:=El (k:=k) h (he e (by simp)).1 (he e (by simp)).2;obtain⟨b1,b2,b3⟩:=Em r a1 (fun x hx=>he x (by simp[hx]));simp only[List.foldl_cons];refine⟨b1,by omega,fun q=>?_⟩;rcases b3 q with q|q
  ·rcases a3 q with q|q
   ·exact .inl q
   exact .inr (by omega)
  exact .inr (by omega)
theorem Ek{n:Nat}{k:Nat}{b:Block}{S:Ds}(h:kZ n S)(he:∀e∈b.term.to,0<=e.block∧e.block.toNat<n):kZ n (qC k S b)∧(qC k S b).weight<=S.weight∧((qC k S b).again=true->S.again=true∨(qC k S b).weight<S.weight):=by
 unfold qC;split
 ·exact⟨h,Nat.le_refl _,fun q=>.inl q⟩
 exact Em _ h he
theorem qD{n:Nat}:∀(l:List Block) {k:Nat} {S:Ds},kZ n S->(∀b∈l,∀e∈b.term.to,0<=e.block∧e.block.toNat<n)->kZ n (lz k S l)∧(lz k S l).weight<=S.weight∧((lz k S l).again=true->S.again=true∨(lz k S l).weight<S.weight)
 | [],k,S,h,_=>⟨h,Nat.le_refl _,fun q=>.inl q⟩
 | b::r,k,S,h,he=>by
  obtain⟨a1,a2,a3⟩:=Ek (k:=k) h (he b (by simp));obtain⟨b1,b2,b3⟩:=qD r (k:=k+1) a1 (fun x hx=>he x (by simp[hx]));simp only[lz];refine⟨b1,by omega,fun q=>?_⟩;rcases b3 q with q|q
  ·rcases a3 q with q|q
   ·exact .inl q
   exact .inr (by omega)
  exact .inr (by omega)
instance (n:Int):Decidable (fv n):=by
 unfold fv
 infer_instance
theorem sy(n:Int):bA Tryz.prog 111 [aI n] (.v (.bool (decide (fv n)))):=by
 have hw:=dF n (-1073741824) 1073741823;refine zf true 0 Tryz.func111 Tryz.ntmps111 ?_;dsimp only[Tmp,TypeId,slotsOf];refine ay (ai ?_);refine ay ?_;refine zi hw ?_;refine ai ?_;refine aq ?_;simp -dsimp only[simprocAttr,↓aa,zp,zr,Tryz.results111];simp only[within,fv];by_cases h1:-1073741824<=n<;>by_cases h2:n<=1073741823<;>simp[h1,h2]
def bk(i:Ins):Int×Bool :=
 if i.op=0 then(0,true)
 else if(1<=i.op∧i.op<=7)∨i.op=16∨i.op=18∨i.op=19∨i.op=21∨i.op=23 then(2,true)
 else if i.op=20 then(3,true)
 else if i.op=10∨i.op=11∨i.op=12∨i.op=15∨i.op=17∨i.op=24 then(1,true)
 else if i.op=8∨i.op=9∨i.op=13∨i.op=14 then(-1,true)
 else if i.op=22 then(i.n,decide (i.n=2∨i.n=4))
 else(0,false)
def cn(i:Ins):Bool :=
 if i.op=0 then decide (fv i.n)
 else if i.op=8 then within i.n 0 255
 else if i.op=11 then within i.n 0 15
 else if i.op=9∨i.op=13 then within i.n 0 255
 else if i.op=23 then decide (i.n=1∨i.n=2∨i.n=3)
 else if i.op=24 then within i.n 0 3
 else if i.op=22 then true
 else decide (i.n=0)
theorem Dt(i:Ins)(jQ:i.op=0):bA Tryz.prog 117 [i.enc] (.cw [aI (bk i).1,.v (.bool (bk i).2)]):=by
 have hr:bk i=(0,true):=by
  unfold bk;rw[if_pos (by omega)]
 rw[hr];refine zf true 0 Tryz.func117 Tryz.ntmps117 ?_;dsimp only[Tmp,TypeId,slotsOf];refine ay (ai ?_);refine bV (ai ?_);refine ah ?_;refine ay (ai ?_);apply aN rfl<;>intro h
 ·refine ay (ai ?_);refine aq ?_;simp -dsimp only[simprocAttr,↓aa,zp,zr,Tryz.results117];simp[av,ae.upto]
 exact af h (by omega)
theorem Du(i:Ins)(jQ:(1<=i.op∧i.op<=7)∨i.op=16∨i.op=18∨i.op=19∨i.op=21∨i.op=23):bA Tryz.prog 117 [i.enc] (.cw [aI (bk i).1,.v (.bool (bk i).2)]):=by
 have hr:bk i=(2,true):=by
  unfold bk;rw[if_neg (by omega),if_pos (by omega)]
 rw[hr];refine zf true 0 Tryz.func117 Tryz.ntmps117 ?_;dsimp only[Tmp,TypeId,slotsOf];refine ay (ai ?_);refine bV (ai ?_);refine ah ?_;refine ay (ai ?_);apply aN rfl<;>intro h
 ·exact ab h (by omega)
 refine bV (ai ?_);refine jK (⟨47,[(1,.mp 0 0),(2,aI 0),(3,.v (.bool false)),(5,aI i.op),(8,.v (.bool true))],[.cells [aI i.to,aI i.op,aI i.n,aJ i.args]]⟩) ?_ ?_
 ·apply aN rfl<;>intro h
  ·refine aX ?_;show ba _ _;refine zq rfl ?_ ?_;simp -dsimp only[simprocAttr,↓aa,zp,zc]
   ·exact Sub.of_eq (by rw[h])
   rfl
  refine ay (ai ?_);apply aN rfl<;>intro h
  ·refine aX ?_;show ba _ _;refine zq rfl ?_ ?_;simp -dsimp only[simprocAttr,↓aa,zp,zc]
   ·exact Sub.of_eq (by rw[h])
   rfl
  refine ay (ai ?_);apply aN rfl<;>intro h
  ·refine aX ?_;show ba _ _;refine zq rfl ?_ ?_;simp -dsimp only[simprocAttr,↓aa,zp,zc]
   ·exact Sub.of_eq (by rw[h])
   rfl
  refine ay (ai ?_);apply aN rfl<;>intro h
  ·refine aX ?_;show ba _ _;refine zq rfl ?_ ?_;simp -dsimp only[simprocAttr,↓aa,zp,zc]
   ·exact Sub.of_eq (by rw[h])
   rfl
  refine ay (ai ?_);apply aN rfl<;>intro h
  ·refine aX ?_;show ba _ _;refine zq rfl ?_ ?_;simp -dsimp only[simprocAttr,↓aa,zp,zc]
   ·exact Sub.of_eq (by rw[h])
   rfl
  refine ay (ai ?_);apply aN rfl<;>intro h
  ·refine aX ?_;show ba _ _;refine zq rfl ?_ ?_;simp -dsimp only[simprocAttr,↓aa,zp,zc]
   ·exact Sub.of_eq (by rw[h])
   rfl
  refine ay (ai ?_);apply aN rfl<;>intro h
  ·refine aX ?_;show ba _ _;refine zq rfl ?_ ?_;simp -dsimp only[simprocAttr,↓aa,zp,zc]
   ·exact Sub.of_eq (by rw[h])
   rfl
  refine ay (ai ?_);apply aN rfl<;>intro h
  ·refine aX ?_;show ba _ _;refine zq rfl ?_ ?_;simp -dsimp only[simprocAttr,↓aa,zp,zc]
   ·exact Sub.of_eq (by rw[h])
   rfl
  refine ay (ai ?_);apply aN rfl<;>intro h
  ·refine aX ?_;show ba _ _;refine zq rfl ?_ ?_;simp -dsimp only[simprocAttr,↓aa,zp,zc]
   ·exact Sub.of_eq (by rw[h])
   rfl
  refine ay (ai ?_);apply aN rfl<;>intro h
  ·refine aX ?_;show ba _ _;refine zq rfl ?_ ?_;simp -dsimp only[simprocAttr,↓aa,zp,zc]
   ·exact Sub.of_eq (by rw[h])
   rfl
  refine ay (ai ?_);apply aN rfl<;>intro h
  ·refine aX ?_;show ba _ _;refine zq rfl ?_ ?_;simp -dsimp only[simprocAttr,↓aa,zp,zc]
   ·exact Sub.of_eq (by rw[h])
   rfl
  refine cM ?_;refine a6 ?_;show ba _ _;refine zq rfl ?_ ?_;simp -dsimp only[simprocAttr,↓aa,zp,zc]
  ·exact Sub.of_eq (by rw[decide_eq_true (show i.op=23 by simp only[decide_eq_false_iff_not]at *;omega)])
  rfl
 refine cB rfl ?_;refine ay (ai ?_);refine aq ?_;simp -dsimp only[simprocAttr,↓aa,zp,zr,Tryz.results117];simp[av,ae.upto]
theorem Dv(i:Ins)(jQ:i.op=20):bA Tryz.prog 117 [i.enc] (.cw [aI (bk i).1,.v (.bool (bk i).2)]):=by
 have hr:bk i=(3,true):=by
  unfold bk;rw[if_neg (by omega),if_neg (by omega),if_pos (by omega)]
 rw[hr];refine zf true 0 Tryz.func117 Tryz.ntmps117 ?_;dsimp only[Tmp,TypeId,slotsOf];refine ay (ai ?_);refine bV (ai ?_);refine ah ?_;refine ay (ai ?_);apply aN rfl<;>intro h
 ·exact ab h (by omega)
 refine bV (ai ?_);apply aN rfl<;>intro h
 ·exact ab h (by omega)
 refine ay (ai ?_);apply aN rfl<;>intro h
 ·exact ab h (by omega)
 refine ay (ai ?_);apply aN rfl<;>intro h
 ·exact ab h (by omega)
 refine ay (ai ?_);apply aN rfl<;>intro h
 ·exact ab h (by omega)
 refine ay (ai ?_);apply aN rfl<;>intro h
 ·exact ab h (by omega)
 refine ay (ai ?_);apply aN rfl<;>intro h
 ·exact ab h (by omega)
 refine ay (ai ?_);apply aN rfl<;>intro h
 ·exact ab h (by omega)
 refine ay (ai ?_);apply aN rfl<;>intro h
 ·exact ab h (by omega)
 refine ay (ai ?_);apply aN rfl<;>intro h
 ·exact ab h (by omega)
 refine ay (ai ?_);apply aN rfl<;>intro h
 ·exact ab h (by omega)
 refine ay (ai ?_);apply aN rfl<;>intro h
 ·exact ab h (by omega)
 refine cM (ai ?_);apply aN rfl<;>intro h
 ·exact ab h (by omega)
 refine ay (ai ?_);apply aN rfl<;>intro h
 ·refine ay (ai ?_);refine aq ?_;simp -dsimp only[simprocAttr,↓aa,zp,zr,Tryz.results117];simp[av,ae.upto]
 exact af h (by omega)
theorem Dw(i:Ins)(jQ:i.op=10∨i.op=11∨i.op=12∨i.op=15∨i.op=17∨i.op=24):bA Tryz.prog 117 [i.enc] (.cw [aI (bk i).1,.v (.bool (bk i).2)]):=by
 have hr:bk i=(1,true):=by
  unfold bk;rw[if_neg (by omega),if_neg (by omega),if_neg (by omega),if_pos (by omega)]
 rw[hr];refine zf true 0 Tryz.func117 Tryz.ntmps117 ?_;dsimp only[Tmp,TypeId,slotsOf];refine ay (ai ?_);refine bV (ai ?_);refine ah ?_;refine ay (ai ?_);apply aN rfl<;>intro h
 ·exact ab h (by omega)
 refine bV (ai ?_);apply aN rfl<;>intro h
 ·exact ab h (by omega)
 refine ay (ai ?_);apply aN rfl<;>intro h
 ·exact ab h (by omega)
 refine ay (ai ?_);apply aN rfl<;>intro h
 ·exact ab h (by omega)
 refine ay (ai ?_);apply aN rfl<;>intro h
 ·exact ab h (by omega)
 refine ay (ai ?_);apply aN rfl<;>intro h
 ·exact ab h (by omega)
 refine ay (ai ?_);apply aN rfl<;>intro h
 ·exact ab h (by omega)
 refine ay (ai ?_);apply aN rfl<;>intro h
 ·exact ab h (by omega)
 refine ay (ai ?_);apply aN rfl<;>intro h
 ·exact ab h (by omega)
 refine ay (ai ?_);apply aN rfl<;>intro h
 ·exact ab h (by omega)
 refine ay (ai ?_);apply aN rfl<;>intro h
 ·exact ab h (by omega)
 refine ay (ai ?_);apply aN rfl<;>intro h
 ·exact ab h (by omega)
 refine cM (ai ?_);apply aN rfl<;>intro h
 ·exact ab h (by omega)
 refine ay (ai ?_);apply aN rfl<;>intro h
 ·exact ab h (by omega)
 refine bV (ai ?_);refine jK (⟨47,[(1,.mp 0 0),(2,aI 0),(3,.v (.bool false)),(5,aI i.op),(23,.v (.bool true))],[.cells [aI i.to,aI i.op,aI i.n,aJ i.args]]⟩) ?_ ?_
 ·apply aN rfl<;>intro h
  ·refine aX ?_;show ba _ _;refine zq rfl ?_ ?_;simp -dsimp only[simprocAttr,↓aa,zp,zc]
   ·exact Sub.of_eq (by rw[h])
   rfl
  refine ay (ai ?_);apply aN rfl<;>intro h
  ·refine aX ?_;show ba _ _;refine zq rfl ?_ ?_;simp -dsimp only[simprocAttr,↓aa,zp,zc]
   ·exact Sub.of_eq (by rw[h])
   rfl
  refine ay (ai ?_);apply aN rfl<;>intro h
  ·refine aX ?_;show ba _ _;refine zq rfl ?_ ?_;simp -dsimp only[simprocAttr,↓aa,zp,zc]
   ·exact Sub.of_eq (by rw[h])
   rfl
  refine ay (ai ?_);apply aN rfl<;>intro h
  ·refine aX ?_;show ba _ _;refine zq rfl ?_ ?_;simp -dsimp only[simprocAttr,↓aa,zp,zc]
   ·exact Sub.of_eq (by rw[h])
   rfl
  refine ay (ai ?_);apply aN rfl<;>intro h
  ·refine aX ?_;show ba _ _;refine zq rfl ?_ ?_;simp -dsimp only[simprocAttr,↓aa,zp,zc]
   ·exact Sub.of_eq (by rw[h])
   rfl
  refine cM ?_;refine a6 ?_;show ba _ _;refine zq rfl ?_ ?_;simp -dsimp only[simprocAttr,↓aa,zp,zc]
  ·exact Sub.of_eq (by rw[decide_eq_true (show i.op=24 by simp only[decide_eq_false_iff_not]at *;omega)])
  rfl
 refine cB rfl ?_;refine ay (ai ?_);refine aq ?_;simp -dsimp only[simprocAttr,↓aa,zp,zr,Tryz.results117];simp[av,ae.upto]
theorem Dx(i:Ins)(jQ:i.op=8∨i.op=9∨i.op=13∨i.op=14):bA Tryz.prog 117 [i.enc] (.cw [aI (bk i).1,.v (.bool (bk i).2)]):=by
 have hr:bk i=(-1,true):=by
  unfold bk;rw[if_neg (by omega),if_neg (by omega),if_neg (by omega),if_neg (by omega),if_pos (by omega)]
 rw[hr];refine zf true 0 Tryz.func117 Tryz.ntmps117 ?_;dsimp only[Tmp,TypeId,slotsOf];refine ay (ai ?_);refine bV (ai ?_);refine ah ?_;refine ay (ai ?_);apply aN rfl<;>intro h
 ·exact ab h (by omega)
 refine bV (ai ?_);apply aN rfl<;>intro h
 ·exact ab h (by omega)
 refine ay (ai ?_);apply aN rfl<;>intro h
 ·exact ab h (by omega)
 refine ay (ai ?_);apply aN rfl<;>intro h
 ·exact ab h (by omega)
 refine ay (ai ?_);apply aN rfl<;>intro h
 ·exact ab h (by omega)
 refine ay (ai ?_);apply aN rfl<;>intro h
 ·exact ab h (by omega)
 refine ay (ai ?_);apply aN rfl<;>intro h
 ·exact ab h (by omega)
 refine ay (ai ?_);apply aN rfl<;>intro h
 ·exact ab h (by omega)
 refine ay (ai ?_);apply aN rfl<;>intro h
 ·exact ab h (by omega)
 refine ay (ai ?_);apply aN rfl<;>intro h
 ·exact ab h (by omega)
 refine ay (ai ?_);apply aN rfl<;>intro h
 ·exact ab h (by omega)
 refine ay (ai ?_);apply aN rfl<;>intro h
 ·exact ab h (by omega)
 refine cM (ai ?_);apply aN rfl<;>intro h
 ·exact ab h (by omega)
 refine ay (ai ?_);apply aN rfl<;>intro h
 ·exact ab h (by omega)
 refine bV (ai ?_);apply aN rfl<;>intro h
 ·exact ab h (by omega)
 refine ay (ai ?_);apply aN rfl<;>intro h
 ·exact ab h (by omega)
 refine ay (ai ?_);apply aN rfl<;>intro h
 ·exact ab h (by omega)
 refine ay (ai ?_);apply aN rfl<;>intro h
 ·exact ab h (by omega)
 refine ay (ai ?_);apply aN rfl<;>intro h
 ·exact ab h (by omega)
 refine cM (ai ?_);apply aN rfl<;>intro h
 ·exact ab h (by omega)
 refine bV (ai ?_);refine jK (⟨47,[(1,.mp 0 0),(2,aI 0),(3,.v (.bool false)),(5,aI i.op),(30,.v (.bool true))],[.cells [aI i.to,aI i.op,aI i.n,aJ i.args]]⟩) ?_ ?_
 ·apply aN rfl<;>intro h
  ·refine aX ?_;show ba _ _;refine zq rfl ?_ ?_;simp -dsimp only[simprocAttr,↓aa,zp,zc]
   ·exact Sub.of_eq (by rw[h])
   rfl
  refine ay (ai ?_);apply aN rfl<;>intro h
  ·refine aX ?_;show ba _ _;refine zq rfl ?_ ?_;simp -dsimp only[simprocAttr,↓aa,zp,zc]
   ·exact Sub.of_eq (by rw[h])
   rfl
  refine ay (ai ?_);apply aN rfl<;>intro h
  ·refine aX ?_;show ba _ _;refine zq rfl ?_ ?_;simp -dsimp only[simprocAttr,↓aa,zp,zc]
   ·exact Sub.of_eq (by rw[h])
   rfl
  refine cM ?_;refine a6 ?_;show ba _ _;refine zq rfl ?_ ?_;simp -dsimp only[simprocAttr,↓aa,zp,zc]
  ·exact Sub.of_eq (by rw[decide_eq_true (show i.op=14 by simp only[decide_eq_false_iff_not]at *;omega)])
  rfl
 refine cB rfl ?_;refine ay (ai ?_);refine aq ?_;simp -dsimp only[simprocAttr,↓aa,zp,zr,Tryz.results117];simp[av,ae.upto]
theorem Dy(i:Ins)(jQ:i.op=22):bA Tryz.prog 117 [i.enc] (.cw [aI (bk i).1,.v (.bool (bk i).2)]):=by
 have hr:bk i=(i.n,decide (i.n=2∨i.n=4)):=by
  unfold bk;rw[if_neg (by omega),if_neg (by omega),if_neg (by omega),if_neg (by omega),if_neg (by omega),if_pos (by omega)]
 rw[hr];by_cases h2:i.n=2
 ·have oM:decide (i.n=2)=true:=decide_eq_true h2;refine zf true 0 Tryz.func117 Tryz.ntmps117 ?_;dsimp only[Tmp,TypeId,slotsOf];refine ay (ai ?_);refine bV (ai ?_);refine ah ?_;refine ay (ai ?_);apply aN rfl<;>intro h
  ·exact ab h (by omega)
  refine bV (ai ?_);apply aN rfl<;>intro h
  ·exact ab h (by omega)
  refine ay (ai ?_);apply aN rfl<;>intro h
  ·exact ab h (by omega)
  refine ay (ai ?_);apply aN rfl<;>intro h
  ·exact ab h (by omega)
  refine ay (ai ?_);apply aN rfl<;>intro h
  ·exact ab h (by omega)
  refine ay (ai ?_);apply aN rfl<;>intro h
  ·exact ab h (by omega)
  refine ay (ai ?_);apply aN rfl<;>intro h
  ·exact ab h (by omega)
  refine ay (ai ?_);apply aN rfl<;>intro h
  ·exact ab h (by omega)
  refine ay (ai ?_);apply aN rfl<;>intro h
  ·exact ab h (by omega)
  refine ay (ai ?_);apply aN rfl<;>intro h
  ·exact ab h (by omega)
  refine ay (ai ?_);apply aN rfl<;>intro h
  ·exact ab h (by omega)
  refine ay (ai ?_);apply aN rfl<;>intro h
  ·exact ab h (by omega)
  refine cM (ai ?_);apply aN rfl<;>intro h
  ·exact ab h (by omega)
  refine ay (ai ?_);apply aN rfl<;>intro h
  ·exact ab h (by omega)
  refine bV (ai ?_);apply aN rfl<;>intro h
  ·exact ab h (by omega)
  refine ay (ai ?_);apply aN rfl<;>intro h
  ·exact ab h (by omega)
  refine ay (ai ?_);apply aN rfl<;>intro h
  ·exact ab h (by omega)
  refine ay (ai ?_);apply aN rfl<;>intro h
  ·exact ab h (by omega)
  refine ay (ai ?_);apply aN rfl<;>intro h
  ·exact ab h (by omega)
  refine cM (ai ?_);apply aN rfl<;>intro h
  ·exact ab h (by omega)
  refine bV (ai ?_);apply aN rfl<;>intro h
  ·exact ab h (by omega)
  refine ay (ai ?_);apply aN rfl<;>intro h
  ·exact ab h (by omega)
  refine ay (ai ?_);apply aN rfl<;>intro h
  ·exact ab h (by omega)
  refine cM (ai ?_);apply aN rfl<;>intro h
  ·exact ab h (by omega)
  refine ay (ai ?_);apply aN rfl<;>intro h
  ·refine aQ ?_;simp -dsimp only[simprocAttr,↓aa,zp,oM];refine⟨ob (by kernel_rfl),?_⟩;refine ai ?_;refine aq ?_;simp -dsimp only[simprocAttr,↓aa,zp,zr,Tryz.results117];simp[av,ae.upto,h2]
  exact af h (by omega)
 have oM:decide (i.n=2)=false:=decide_eq_false h2;by_cases h4:i.n=4
 ·have LW:decide (i.n=4)=true:=decide_eq_true h4;refine zf true 0 Tryz.func117 Tryz.ntmps117 ?_;dsimp only[Tmp,TypeId,slotsOf];refine ay (ai ?_);refine bV (ai ?_);refine ah ?_;refine ay (ai ?_);apply aN rfl<;>intro h
  ·exact ab h (by omega)
  refine bV (ai ?_);apply aN rfl<;>intro h
  ·exact ab h (by omega)
  refine ay (ai ?_);apply aN rfl<;>intro h
  ·exact ab h (by omega)
  refine ay (ai ?_);apply aN rfl<;>intro h
  ·exact ab h (by omega)
  refine ay (ai ?_);apply aN rfl<;>intro h
  ·exact ab h (by omega)
  refine ay (ai ?_);apply aN rfl<;>intro h
  ·exact ab h (by omega)
  refine ay (ai ?_);apply aN rfl<;>intro h
  ·exact ab h (by omega)
  refine ay (ai ?_);apply aN rfl<;>intro h
  ·exact ab h (by omega)
  refine ay (ai ?_);apply aN rfl<;>intro h
  ·exact ab h (by omega)
  refine ay (ai ?_);apply aN rfl<;>intro h
  ·exact ab h (by omega)
  refine ay (ai ?_);apply aN rfl<;>intro h
  ·exact ab h (by omega)
  refine ay (ai ?_);apply aN rfl<;>intro h
  ·exact ab h (by omega)
  refine cM (ai ?_);apply aN rfl<;>intro h
  ·exact ab h (by omega)
  refine ay (ai ?_);apply aN rfl<;>intro h
  ·exact ab h (by omega)
  refine bV (ai ?_);apply aN rfl<;>intro h
  ·exact ab h (by omega)
  refine ay (ai ?_);apply aN rfl<;>intro h
  ·exact ab h (by omega)
  refine ay (ai ?_);apply aN rfl<;>intro h
  ·exact ab h (by omega)
  refine ay (ai ?_);apply aN rfl<;>intro h
  ·exact ab h (by omega)
  refine ay (ai ?_);apply aN rfl<;>intro h
  ·exact ab h (by omega)
  refine cM (ai ?_);apply aN rfl<;>intro h
  ·exact ab h (by omega)
  refine bV (ai ?_);apply aN rfl<;>intro h
  ·exact ab h (by omega)
  refine ay (ai ?_);apply aN rfl<;>intro h
  ·exact ab h (by omega)
  refine ay (ai ?_);apply aN rfl<;>intro h
  ·exact ab h (by omega)
  refine cM (ai ?_);apply aN rfl<;>intro h
  ·exact ab h (by omega)
  refine ay (ai ?_);apply aN rfl<;>intro h
  ·refine aQ ?_;simp -dsimp only[simprocAttr,↓aa,zp,oM,LW];refine⟨ob (by kernel_rfl),?_⟩;refine ai ?_;refine aq ?_;simp -dsimp only[simprocAttr,↓aa,zp,zr,Tryz.results117];simp[av,ae.upto,h4]
  exact af h (by omega)
 have LW:decide (i.n=4)=false:=decide_eq_false h4;refine zf true 0 Tryz.func117 Tryz.ntmps117 ?_;dsimp only[Tmp,TypeId,slotsOf];refine ay (ai ?_);refine bV (ai ?_);refine ah ?_;refine ay (ai ?_);apply aN rfl<;>intro h
 ·exact ab h (by omega)
 refine bV (ai ?_);apply aN rfl<;>intro h
 ·exact ab h (by omega)
 refine ay (ai ?_);apply aN rfl<;>intro h
 ·exact ab h (by omega)
 refine ay (ai ?_);apply aN rfl<;>intro h
 ·exact ab h (by omega)
 refine ay (ai ?_);apply aN rfl<;>intro h
 ·exact ab h (by omega)
 refine ay (ai ?_);apply aN rfl<;>intro h
 ·exact ab h (by omega)
 refine ay (ai ?_);apply aN rfl<;>intro h
 ·exact ab h (by omega)
 refine ay (ai ?_);apply aN rfl<;>intro h
 ·exact ab h (by omega)
 refine ay (ai ?_);apply aN rfl<;>intro h
 ·exact ab h (by omega)
 refine ay (ai ?_);apply aN rfl<;>intro h
 ·exact ab h (by omega)
 refine ay (ai ?_);apply aN rfl<;>intro h
 ·exact ab h (by omega)
 refine ay (ai ?_);apply aN rfl<;>intro h
 ·exact ab h (by omega)
 refine cM (ai ?_);apply aN rfl<;>intro h
 ·exact ab h (by omega)
 refine ay (ai ?_);apply aN rfl<;>intro h
 ·exact ab h (by omega)
 refine bV (ai ?_);apply aN rfl<;>intro h
 ·exact ab h (by omega)
 refine ay (ai ?_);apply aN rfl<;>intro h
 ·exact ab h (by omega)
 refine ay (ai ?_);apply aN rfl<;>intro h
 ·exact ab h (by omega)
 refine ay (ai ?_);apply aN rfl<;>intro h
 ·exact ab h (by omega)
 refine ay (ai ?_);apply aN rfl<;>intro h
 ·exact ab h (by omega)
 refine cM (ai ?_);apply aN rfl<;>intro h
 ·exact ab h (by omega)
 refine bV (ai ?_);apply aN rfl<;>intro h
 ·exact ab h (by omega)
 refine ay (ai ?_);apply aN rfl<;>intro h
 ·exact ab h (by omega)
 refine ay (ai ?_);apply aN rfl<;>intro h
 ·exact ab h (by omega)
 refine cM (ai ?_);apply aN rfl<;>intro h
 ·exact ab h (by omega)
 refine ay (ai ?_);apply aN rfl<;>intro h
 ·refine aQ ?_;simp -dsimp only[simprocAttr,↓aa,zp,oM,LW];refine⟨ob (by kernel_rfl),?_⟩;refine ai ?_;refine aq ?_;simp -dsimp only[simprocAttr,↓aa,zp,zr,Tryz.results117];simp[av,ae.upto,h2,h4]
 exact af h (by omega)
theorem wJ(i:Ins):bA Tryz.prog 117 [i.enc] (.cw [aI (bk i).1,.v (.bool (bk i).2)]):=by
 by_cases h0:i.op=0
 ·exact Dt i h0
 by_cases h1:(1<=i.op∧i.op<=7)∨i.op=16∨i.op=18∨i.op=19∨i.op=21∨i.op=23
 ·exact Du i h1
 by_cases h2:i.op=20
 ·exact Dv i h2
 by_cases h3:i.op=10∨i.op=11∨i.op=12∨i.op=15∨i.op=17∨i.op=24
 ·exact Dw i h3
 by_cases h4:i.op=8∨i.op=9∨i.op=13∨i.op=14
 ·exact Dx i h4
 by_cases h5:i.op=22
 ·exact Dy i h5
 have hr:bk i=(0,false):=by
  unfold bk;rw[if_neg (by omega),if_neg (by omega),if_neg (by omega),if_neg (by omega),if_neg (by omega),if_neg (by omega)]
 rw[hr];refine zf true 0 Tryz.func117 Tryz.ntmps117 ?_;dsimp only[Tmp,TypeId,slotsOf];refine ay (ai ?_);refine bV (ai ?_);refine ah ?_;refine ay (ai ?_);apply aN rfl<;>intro h
 ·exact ab h (by omega)
 refine bV (ai ?_);apply aN rfl<;>intro h
 ·exact ab h (by omega)
 refine ay (ai ?_);apply aN rfl<;>intro h
 ·exact ab h (by omega)
 refine ay (ai ?_);apply aN rfl<;>intro h
 ·exact ab h (by omega)
 refine ay (ai ?_);apply aN rfl<;>intro h
 ·exact ab h (by omega)
 refine ay (ai ?_);apply aN rfl<;>intro h
 ·exact ab h (by omega)
 refine ay (ai ?_);apply aN rfl<;>intro h
 ·exact ab h (by omega)
 refine ay (ai ?_);apply aN rfl<;>intro h
 ·exact ab h (by omega)
 refine ay (ai ?_);apply aN rfl<;>intro h
 ·exact ab h (by omega)
 refine ay (ai ?_);apply aN rfl<;>intro h
 ·exact ab h (by omega)
 refine ay (ai ?_);apply aN rfl<;>intro h
 ·exact ab h (by omega)
 refine ay (ai ?_);apply aN rfl<;>intro h
 ·exact ab h (by omega)
 refine cM (ai ?_);apply aN rfl<;>intro h
 ·exact ab h (by omega)
 refine ay (ai ?_);apply aN rfl<;>intro h
 ·exact ab h (by omega)
 refine bV (ai ?_);apply aN rfl<;>intro h
 ·exact ab h (by omega)
 refine ay (ai ?_);apply aN rfl<;>intro h
 ·exact ab h (by omega)
 refine ay (ai ?_);apply aN rfl<;>intro h
 ·exact ab h (by omega)
 refine ay (ai ?_);apply aN rfl<;>intro h
 ·exact ab h (by omega)
 refine ay (ai ?_);apply aN rfl<;>intro h
 ·exact ab h (by omega)
 refine cM (ai ?_);apply aN rfl<;>intro h
 ·exact ab h (by omega)
 refine bV (ai ?_);apply aN rfl<;>intro h
 ·exact ab h (by omega)
 refine ay (ai ?_);apply aN rfl<;>intro h
 ·exact ab h (by omega)
 refine ay (ai ?_);apply aN rfl<;>intro h
 ·exact ab h (by omega)
 refine cM (ai ?_);apply aN rfl<;>intro h
 ·exact ab h (by omega)
 refine ay (ai ?_);apply aN rfl<;>intro h
 ·exact ab h (by omega)
 refine kp ?_;refine ay (ai ?_);refine aq ?_;simp -dsimp only[simprocAttr,↓aa,zp,zr,Tryz.results117];simp[av,ae.upto]
theorem Jj(i:Ins)(jQ:i.op=0):bA Tryz.prog 118 [i.enc] (.v (.bool (cn i))):=by
 have hr:cn i=decide (fv i.n):=by
  unfold cn;rw[if_pos (by omega)]
 rw[hr];refine zf true 0 Tryz.func118 Tryz.ntmps118 ?_;dsimp only[Tmp,TypeId,slotsOf];refine ay (ai ?_);refine bV (ai ?_);refine ah ?_;refine ay (ai ?_);apply aN rfl<;>intro h
 ·refine ay ?_;refine zi (sy i.n) ?_;refine ai ?_;refine aq ?_;simp -dsimp only[simprocAttr,↓aa,zp,zr,Tryz.results118]
 exact af h (by omega)
theorem Jk(i:Ins)(jQ:i.op=8):bA Tryz.prog 118 [i.enc] (.v (.bool (cn i))):=by
 have hr:cn i=within i.n 0 255:=by
  unfold cn;rw[if_neg (by omega),if_pos (by omega)]
 rw[hr];refine zf true 0 Tryz.func118 Tryz.ntmps118 ?_;dsimp only[Tmp,TypeId,slotsOf];refine ay (ai ?_);refine bV (ai ?_);refine ah ?_;refine ay (ai ?_);apply aN rfl<;>intro h
 ·exact ab h (by omega)
 refine ay (ai ?_);apply aN rfl<;>intro h
 ·refine ay ?_;refine zi (dF i.n 0 255) ?_;refine ai ?_;refine aq ?_;simp -dsimp only[simprocAttr,↓aa,zp,zr,Tryz.results118]
 exact af h (by omega)
theorem Jl(i:Ins)(jQ:i.op=11):bA Tryz.prog 118 [i.enc] (.v (.bool (cn i))):=by
 have hr:cn i=within i.n 0 15:=by
  unfold cn;rw[if_neg (by omega),if_neg (by omega),if_pos (by omega)]
 rw[hr];refine zf true 0 Tryz.func118 Tryz.ntmps118 ?_;dsimp only[Tmp,TypeId,slotsOf];refine ay (ai ?_);refine bV (ai ?_);refine ah ?_;refine ay (ai ?_);apply aN rfl<;>intro h
 ·exact ab h (by omega)
 refine ay (ai ?_);apply aN rfl<;>intro h
 ·exact ab h (by omega)
 refine ay (ai ?_);apply aN rfl<;>intro h
 ·refine ay ?_;refine zi (dF i.n 0 15) ?_;refine ai ?_;refine aq ?_;simp -dsimp only[simprocAttr,↓aa,zp,zr,Tryz.results118]
 exact af h (by omega)
theorem Jm(i:Ins)(jQ:i.op=9∨i.op=13):bA Tryz.prog 118 [i.enc] (.v (.bool (cn i))):=by
 have hr:cn i=within i.n 0 255:=by
  unfold cn;rw[if_neg (by omega),if_neg (by omega),if_neg (by omega),if_pos (by omega)]
 rw[hr];refine zf true 0 Tryz.func118 Tryz.ntmps118 ?_;dsimp only[Tmp,TypeId,slotsOf];refine ay (ai ?_);refine bV (ai ?_);refine ah ?_;refine ay (ai ?_);apply aN rfl<;>intro h
 ·exact ab h (by omega)
 refine ay (ai ?_);apply aN rfl<;>intro h
 ·exact ab h (by omega)
 refine ay (ai ?_);apply aN rfl<;>intro h
 ·exact ab h (by omega)
 refine bV (ai ?_);refine jK (⟨51,[(1,.mp 0 0),(2,.v (.bool false)),(4,aI i.op),(20,.v (.bool true))],[.cells [aI i.to,aI i.op,aI i.n,aJ i.args]]⟩) ?_ ?_
 ·apply aN rfl<;>intro h
  ·refine aX ?_;show ba _ _;refine zq rfl ?_ ?_;simp -dsimp only[simprocAttr,↓aa,zp,zc]
   ·exact Sub.of_eq (by rw[h])
   rfl
  refine cM ?_;refine a6 ?_;show ba _ _;refine zq rfl ?_ ?_;simp -dsimp only[simprocAttr,↓aa,zp,zc]
  ·exact Sub.of_eq (by rw[decide_eq_true (show i.op=13 by simp only[decide_eq_false_iff_not]at *;omega)])
  rfl
 refine cB rfl ?_;refine ay ?_;refine zi (dF i.n 0 255) ?_;refine ai ?_;refine aq ?_;simp -dsimp only[simprocAttr,↓aa,zp,zr,Tryz.results118]
theorem Jo(i:Ins)(jQ:i.op=23):bA Tryz.prog 118 [i.enc] (.v (.bool (cn i))):=by
 have hr:cn i=decide (i.n=1∨i.n=2∨i.n=3):=by
  unfold cn;rw[if_neg (by omega),if_neg (by omega),if_neg (by omega),if_neg (by omega),if_pos (by omega)]
 rw[hr];by_cases h1:i.n=1
 ·have wu:decide (i.n=1)=true:=decide_eq_true h1;refine zf true 0 Tryz.func118 Tryz.ntmps118 ?_;dsimp only[Tmp,TypeId,slotsOf];refine ay (ai ?_);refine bV (ai ?_);refine ah ?_;refine ay (ai ?_);apply aN rfl<;>intro h
  ·exact ab h (by omega)
  refine ay (ai ?_);apply aN rfl<;>intro h
  ·exact ab h (by omega)
  refine ay (ai ?_);apply aN rfl<;>intro h
  ·exact ab h (by omega)
  refine bV (ai ?_);apply aN rfl<;>intro h
  ·exact ab h (by omega)
  refine cM (ai ?_);apply aN rfl<;>intro h
  ·exact ab h (by omega)
  refine ay (ai ?_);apply aN rfl<;>intro h
  ·refine aQ ?_;simp -dsimp only[simprocAttr,↓aa,zp,wu];refine ai ?_;refine aq ?_;simp -dsimp only[simprocAttr,↓aa,zp,zr,Tryz.results118];simp[h1]
  exact af h (by omega)
 have wu:decide (i.n=1)=false:=decide_eq_false h1;by_cases h2:i.n=2
 ·have oM:decide (i.n=2)=true:=decide_eq_true h2;refine zf true 0 Tryz.func118 Tryz.ntmps118 ?_;dsimp only[Tmp,TypeId,slotsOf];refine ay (ai ?_);refine bV (ai ?_);refine ah ?_;refine ay (ai ?_);apply aN rfl<;>intro h
  ·exact ab h (by omega)
  refine ay (ai ?_);apply aN rfl<;>intro h
  ·exact ab h (by omega)
  refine ay (ai ?_);apply aN rfl<;>intro h
  ·exact ab h (by omega)
  refine bV (ai ?_);apply aN rfl<;>intro h
  ·exact ab h (by omega)
  refine cM (ai ?_);apply aN rfl<;>intro h
  ·exact ab h (by omega)
  refine ay (ai ?_);apply aN rfl<;>intro h
  ·refine aQ ?_;simp -dsimp only[simprocAttr,↓aa,zp,wu,oM];refine ai ?_;refine aq ?_;simp -dsimp only[simprocAttr,↓aa,zp,zr,Tryz.results118];simp[h2]
  exact af h (by omega)
 have oM:decide (i.n=2)=false:=decide_eq_false h2;refine zf true 0 Tryz.func118 Tryz.ntmps118 ?_;dsimp only[Tmp,TypeId,slotsOf];refine ay (ai ?_);refine bV (ai ?_);refine ah ?_;refine ay (ai ?_);apply aN rfl<;>intro h
 ·exact ab h (by omega)
 refine ay (ai ?_);apply aN rfl<;>intro h
 ·exact ab h (by omega)
 refine ay (ai ?_);apply aN rfl<;>intro h
 ·exact ab h (by omega)
 refine bV (ai ?_);apply aN rfl<;>intro h
 ·exact ab h (by omega)
 refine cM (ai ?_);apply aN rfl<;>intro h
 ·exact ab h (by omega)
 refine ay (ai ?_);apply aN rfl<;>intro h
 ·refine aQ ?_;simp -dsimp only[simprocAttr,↓aa,zp,wu,oM];refine ai ?_;refine aq ?_;simp -dsimp only[simprocAttr,↓aa,zp,zr,Tryz.results118];simp[h1,h2]
 exact af h (by omega)
theorem Jp(i:Ins)(jQ:i.op=24):bA Tryz.prog 118 [i.enc] (.v (.bool (cn i))):=by
 have hr:cn i=within i.n 0 3:=by
  unfold cn;rw[if_neg (by omega),if_neg (by omega),if_neg (by omega),if_neg (by omega),if_neg (by omega),if_pos (by omega)]
 rw[hr];refine zf true 0 Tryz.func118 Tryz.ntmps118 ?_;dsimp only[Tmp,TypeId,slotsOf];refine ay (ai ?_);refine bV (ai ?_);refine ah ?_;refine ay (ai ?_);apply aN rfl<;>intro h
 ·exact ab h (by omega)
 refine ay (ai ?_);apply aN rfl<;>intro h
 ·exact ab h (by omega)
 refine ay (ai ?_);apply aN rfl<;>intro h
 ·exact ab h (by omega)
 refine bV (ai ?_);apply aN rfl<;>intro h
 ·exact ab h (by omega)
 refine cM (ai ?_);apply aN rfl<;>intro h
 ·exact ab h (by omega)
 refine ay (ai ?_);apply aN rfl<;>intro h
 ·exact ab h (by omega)
 refine ay (ai ?_);apply aN rfl<;>intro h
 ·refine ay ?_;refine zi (dF i.n 0 3) ?_;refine ai ?_;refine aq ?_;simp -dsimp only[simprocAttr,↓aa,zp,zr,Tryz.results118]
 exact af h (by omega)
theorem Jq(i:Ins)(jQ:i.op=22):bA Tryz.prog 118 [i.enc] (.v (.bool (cn i))):=by
 have hr:cn i=true:=by
  unfold cn;rw[if_neg (by omega),if_neg (by omega),if_neg (by omega),if_neg (by omega),if_neg (by omega),if_neg (by omega),if_pos (by omega)]
 rw[hr];refine zf true 0 Tryz.func118 Tryz.ntmps118 ?_;dsimp only[Tmp,TypeId,slotsOf];refine ay (ai ?_);refine bV (ai ?_);refine ah ?_;refine ay (ai ?_);apply aN rfl<;>intro h
 ·exact ab h (by omega)
 refine ay (ai ?_);apply aN rfl<;>intro h
 ·exact ab h (by omega)
 refine ay (ai ?_);apply aN rfl<;>intro h
 ·exact ab h (by omega)
 refine bV (ai ?_);apply aN rfl<;>intro h
 ·exact ab h (by omega)
 refine cM (ai ?_);apply aN rfl<;>intro h
 ·exact ab h (by omega)
 refine ay (ai ?_);apply aN rfl<;>intro h
 ·exact ab h (by omega)
 refine ay (ai ?_);apply aN rfl<;>intro h
 ·exact ab h (by omega)
 refine ay (ai ?_);apply aN rfl<;>intro h
 ·refine ay (ai ?_);refine aq ?_;simp -dsimp only[simprocAttr,↓aa,zp,zr,Tryz.results118]
 exact af h (by omega)
theorem Bf(i:Ins):bA Tryz.prog 118 [i.enc] (.v (.bool (cn i))):=by
 by_cases h0:i.op=0
 ·exact Jj i h0
 by_cases h1:i.op=8
 ·exact Jk i h1
 by_cases h2:i.op=11
 ·exact Jl i h2
 by_cases h3:i.op=9∨i.op=13
 ·exact Jm i h3
 by_cases h4:i.op=23
 ·exact Jo i h4
 by_cases h5:i.op=24
 ·exact Jp i h5
 by_cases h6:i.op=22
 ·exact Jq i h6
 have hr:cn i=decide (i.n=0):=by
  unfold cn;rw[if_neg (by omega),if_neg (by omega),if_neg (by omega),if_neg (by omega),if_neg (by omega),if_neg (by omega),if_neg (by omega)]
 rw[hr];refine zf true 0 Tryz.func118 Tryz.ntmps118 ?_;dsimp only[Tmp,TypeId,slotsOf];refine ay (ai ?_);refine bV (ai ?_);refine ah ?_;refine ay (ai ?_);apply aN rfl<;>intro h
 ·exact ab h (by omega)
 refine ay (ai ?_);apply aN rfl<;>intro h
 ·exact ab h (by omega)
 refine ay (ai ?_);apply aN rfl<;>intro h
 ·exact ab h (by omega)
 refine bV (ai ?_);apply aN rfl<;>intro h
 ·exact ab h (by omega)
 refine cM (ai ?_);apply aN rfl<;>intro h
 ·exact ab h (by omega)
 refine ay (ai ?_);apply aN rfl<;>intro h
 ·exact ab h (by omega)
 refine ay (ai ?_);apply aN rfl<;>intro h
 ·exact ab h (by omega)
 refine ay (ai ?_);apply aN rfl<;>intro h
 ·exact ab h (by omega)
 refine kp ?_;refine ay (ai ?_);refine aq ?_;simp -dsimp only[simprocAttr,↓aa,zp,zr,Tryz.results118]
def Aw(i:Ins)(many:Int)(known:Bool):Bool:=(!known ||(decide (0<=many)&&!decide ((i.args.length:Int)=many))) ||(decide (i.op=14)&&decide ((i.args.length:Int)=0))
def uF(i:Ins):Bool:=(decide (i.op=8) ||decide (i.op=9))&&decide ((16:Int)<i.args.length)
def Ax(i:Ins):Bool:=(decide (i.op=13) ||decide (i.op=14))&&decide ((6:Int)<i.args.length)
def ka(i:Ins):Int:=if Aw i (bk i).1 (bk i).2 then 3 else if uF i ||Ax i then 2 else if cn i then 0 else 4
theorem xh(i:Ins):bA Tryz.prog 87 [i.enc] (aI (ka i)):=by
 have jQ:=wJ i;have VL:=Bf i;unfold ka;generalize bk i=r at *;obtain⟨many,known⟩:=r;simp only at jQ ⊢;generalize cn i=nb at *;refine zf true 0 Tryz.func87 Tryz.ntmps87 ?_;dsimp only[Tmp,TypeId,slotsOf];refine ay (ai ?_);refine ay ?_;refine zi jQ ?_;refine ai ?_;refine aH (ah ?_);refine fY (⟨68,[(1,.mp 0 0),(2,aI 0),(10,.v (.bool (Aw i many known)))],[.cells [aI i.to,aI i.op,aI i.n,aJ i.args]]⟩) ?_ ?_
 ·cases known<;>cases hA:decide ((0:Int)<=many)<;>cases hB:decide ((i.args.length:Int)=many)<;>cases hC:decide (i.op=14)<;>cases hD:decide ((i.args.length:Int)=0)
  all_goals
   refine eC hT hm ?_;simp -dsimp only[simprocAttr,↓aa,zp,hA,hB,hC,hD];refine a6 ?_;show ba _ _;refine zq rfl ?_ ?_;simp -dsimp only[simprocAttr,↓aa,zp,zc]
   ·exact Sub.of_eq (by unfold Aw;rw[hA,hB,hC,hD];rfl)
   rfl
 cases hfa:Aw i many known
 ·refine cv rfl ?_;refine fY (⟨68,[(1,.mp 0 0),(2,aI 0),(35,.v (.bool (uF i ||Ax i)))],[.cells [aI i.to,aI i.op,aI i.n,aJ i.args]]⟩) ?_ ?_
  ·refine fY (⟨68,[(1,.mp 0 0),(2,aI 0),(35,.v (.bool (uF i)))],[.cells [aI i.to,aI i.op,aI i.n,aJ i.args]]⟩) ?_ ?_
   ·cases hA:decide (i.op=8)<;>cases hB:decide (i.op=9)<;>cases hC:decide ((16:Int)<i.args.length)
    all_goals
     refine eC hT hm ?_;simp -dsimp only[simprocAttr,↓aa,zp,hA,hB,hC];refine a6 ?_;show ba _ _;refine zq rfl ?_ ?_;simp -dsimp only[simprocAttr,↓aa,zp,zc]
     ·exact Sub.of_eq (by unfold uF;rw[hA,hB,hC];rfl)
     rfl
   cases Vl:uF i
   ·refine cv rfl ?_;cases hA:decide (i.op=13)<;>cases hB:decide (i.op=14)<;>cases hC:decide ((6:Int)<i.args.length)
    all_goals
     refine eC hT hm ?_;simp -dsimp only[simprocAttr,↓aa,zp,hA,hB,hC];refine a6 ?_;show ba _ _;refine zq rfl ?_ ?_;simp -dsimp only[simprocAttr,↓aa,zp,zc]
     ·exact Sub.of_eq (by unfold Ax;rw[hA,hB,hC];rfl)
     rfl
   refine cB rfl ?_;refine aX ?_;show ba _ _;refine zq rfl ?_ ?_;simp -dsimp only[simprocAttr,↓aa,zp,zc]
   ·exact Sub.refl _
   rfl
  cases U7:(uF i ||Ax i)
  ·refine cv rfl ?_;refine ay ?_;refine zi VL ?_;refine ai ?_;cases hnb:nb
   ·refine cB rfl ?_;refine ay (ai ?_);refine aq ?_;simp -dsimp only[simprocAttr,↓aa,zp,zr,Tryz.results87]
   refine cv rfl ?_;refine kp ?_;refine ay (ai ?_);refine aq ?_;simp -dsimp only[simprocAttr,↓aa,zp,zr,Tryz.results87]
  refine cB rfl ?_;refine ay (ai ?_);refine aq ?_;simp -dsimp only[simprocAttr,↓aa,zp,zr,Tryz.results87]
 refine cB rfl ?_;refine ay (ai ?_);refine aq ?_;simp -dsimp only[simprocAttr,↓aa,zp,zr,Tryz.results87]
theorem dk{O:List ak}{k:Nat}{y:ak}(h:O[k]?=some y)(x:ak):(O.set k x)[k]?=some x:=List.getElem?_set_self (I h)
theorem bq{O:List ak}{n k:Nat}{cs ds:List ae}(h:∀o∈O,o.upto n)(hk:O[k]?=some (.cells cs))(hd:av n cs->av n ds):∀o∈O.set k (.cells ds),o.upto n :=
 bt h (hd (h _ (List.mem_of_getElem? hk)))
theorem bS{n:Nat}{u v:cd}{m p:Mach}(h:av n (aB u m))(hs:p.sid=m.sid):av n (aB v p):=by
 simp only[aB,av,ae.upto,ax,Func.ag,true_and,and_true]at h ⊢;rw[hs];exact h
theorem oU(m:Mach)(n:Int):(m.fG n).sid=m.sid:=by
 unfold Mach.fG;split<;>rfl
theorem vn{u:cd}{m:Mach}{O:List ak}(bB:∀o∈O,o.upto O.length)(h0:O[2]?=some (.cells (aB u m)))(n:Int)(h1:0<=m.left)(h2:m.left<=2 ^ 40)(h3:0<=n) :
  bd Tryz.prog 82 O [.mp 2 0,aI n] (fun r O'=>r=.cw []∧O'=O.set 2 (.cells (aB u (m.fG n)))):=by
 have hs:=dk h0;have nu:=bq bB h0 (ds:=aB u (m.fG n)) (fun h=>bS h (oU m n));have eo:=ct (O:=O) (k:=2) (x:=.cells (aB u (m.fG n)));unfold aB at h0;by_cases hc:m.left<n
 ·have hd:decide (m.left<n)=true:=decide_eq_true hc;have hp:[bc u.fns,aI u.main,.os m.sid m.frames.length 1,aI m.left,.v (.bool true),.v (.bool true),.aA 1 (m.out.map aI) (.tok 3),aI m.fin,aI m.val]=aB u (m.fG n):=by
   simp[Mach.fG,hc,aB]
  refine zf true O.length Tryz.func82 Tryz.ntmps82 ?_;dsimp only[Tmp,TypeId,slotsOf];refine c7 ?_;simp -dsimp only[simprocAttr,↓aa,zp,h0];refine ai ?_;apply aN rfl<;>intro h
  ·refine aQ ?_;simp -dsimp only[simprocAttr,↓aa,zp,h0,hs,List.set_set,hp];refine ai ?_;refine aq ?_;simp -dsimp only[simprocAttr,↓aa,zp,zr,Tryz.results82,eo,List.length_set];exact⟨nu,trivial⟩
  simp[hd]at h
 have hd:decide (m.left<n)=false:=decide_eq_false hc;have hp:[bc u.fns,aI u.main,.os m.sid m.frames.length 1,aI (m.left-n),.v (.bool m.short),.v (.bool m.over),.aA 1 (m.out.map aI) (.tok 3),aI m.fin,aI m.val]=aB u (m.fG n):=by
  simp[Mach.fG,hc,aB]
 refine zf true O.length Tryz.func82 Tryz.ntmps82 ?_;dsimp only[Tmp,TypeId,slotsOf];refine c7 ?_;simp -dsimp only[simprocAttr,↓aa,zp,h0];refine ai ?_;apply aN rfl<;>intro h
 ·simp[hd]at h
 refine cj ?_;refine jX ?_;simp -dsimp only[simprocAttr,↓aa,zp,h0,hs,List.set_set,hp]
 repeat(refine⟨by omega,?_⟩)
 refine a6 ?_;simp -dsimp only[simprocAttr,↓aa,zp,zr,Tryz.results82,eo,List.length_set];exact⟨nu,trivial⟩
theorem ky{u:cd}{m:Mach}{O:List ak}(bB:∀o∈O,o.upto O.length)(h0:O[2]?=some (.cells (aB u m)))(e n:Int) :
  bd Tryz.prog 114 O [.mp 2 0,aI e,aI n] (fun r O'=>r=.cw []∧O'=O.set 2 (.cells (aB u (m.stop e n)))):=by
 have hs:=dk h0;have nu:=bq bB h0 (ds:=aB u (m.stop e n)) (fun h=>bS h rfl);have eo:=ct (O:=O) (k:=2) (x:=.cells (aB u (m.stop e n)));unfold aB at h0;have hp:[bc u.fns,aI u.main,.os m.sid m.frames.length 1,aI m.left,.v (.bool m.short),.v (.bool true),.aA 1 (m.out.map aI) (.tok 3),aI e,aI n]=aB u (m.stop e n):=rfl;refine zf true O.length Tryz.func114 Tryz.ntmps114 ?_;dsimp only[Tmp,TypeId,slotsOf];refine aQ ?_;simp -dsimp only[simprocAttr,↓aa,zp,h0];refine ai ?_;refine jX ?_;simp -dsimp only[simprocAttr,↓aa,zp,hs,List.set_set,hp];refine a6 ?_;simp -dsimp only[simprocAttr,↓aa,zp,zr,Tryz.results114,eo,List.length_set];exact⟨nu,trivial⟩
theorem mq{sz:Nat}{xs:List ae}(h:∀x∈xs,x.cells.length=sz){k:Nat}(hk:k<xs.length){y:ae}(hy:y.cells.length=sz):bh (an xs) (k*sz) y.cells=an (xs.set k y):=by
 induction xs generalizing k with
 | nil=>simp at hk
 | cons p r ih =>
  have hp:=h p (by simp);cases k with
  | zero =>
   simp only[List.set_cons_zero,an,List.flatMap_cons,bh,Nat.zero_mul,List.take_zero,List.nil_append,Nat.zero_add,hy];rw[List.drop_append_of_le_length (by omega),List.drop_of_length_le (by omega)];rfl
  | succ k =>
   have:=ih (fun x hx=>h x (by simp[hx])) (k:=k) (by simpa using hk);have e1:(k+1)*sz-sz=k*sz:=by rw[Nat.succ_mul];omega
   have e2:(k+1)*sz+sz-sz=k*sz+sz:=by rw[Nat.succ_mul];omega
   have e3:sz<=(k+1)*sz:=by rw[Nat.succ_mul];omega
   simp only[List.set_cons_succ,an,List.flatMap_cons,bh,hy]at this ⊢;rw[List.take_append,List.drop_append,hp,List.take_of_length_le (by omega),List.drop_of_length_le (by omega),e1,e2,List.nil_append,List.append_assoc,this]
def jS(es:List (Int×SV))(k:Int):ae:=(Option.map SV.enc (iP es k)).getD (.agg [aI 0,aI 0,.aA 4 [] .ex,.v (.pointer none)])
theorem vr(es:List (Int×SV))(k:Int):(jS es k).share=(iO es k).enc:=by
 unfold jS iO;cases iP es k with
 | none=>rfl
 | some v=>exact v.al
theorem fq(es:List (Int×SV))(k:Int):(jS es k).cells.length=4:=by
 unfold jS;cases iP es k with
 | none=>rfl
 | some v=>exact v.cZ
theorem ju(es:List (Int×SV))(k:Int):(jS es k).flat:=by
 unfold jS;cases iP es k with
 | none=>trivial
 | some v=>exact v.au
def qZ(es:List (Int×SV))(l:List Int)(k:Nat):List ae:=(l.take k).map (jS es)++List.replicate (l.length-k) (.agg [aI 0,aI 0,.aA 4 [] .ex,.v (.pointer none)])
theorem vx{es:List (Int×SV)}{l:List Int}{k:Nat}(h:k<=l.length):(qZ es l k).length=l.length:=by
 simp[qZ];omega
theorem qb{es:List (Int×SV)}{l:List Int}{k:Nat}:∀x∈qZ es l k,x.cells.length=4:=fun x hx=>by
 simp only[qZ,List.mem_append,List.mem_map,List.mem_replicate]at hx;rcases hx with⟨v,_,rfl⟩|⟨_,rfl⟩
 ·exact fq es v
 rfl
theorem GK(es:List (Int×SV))(l:List Int):an (qZ es l 0)=(List.replicate l.length [aI 0,aI 0,.aA 4 [] .ex,.v (.pointer none)]).flatten:=by
 simp[qZ,an,List.flatMap,ae.cells]
theorem GJ{es:List (Int×SV)}{l:List Int}{k:Nat}{v:Int}(h:l[k]?=some v):(qZ es l k).set k (jS es v)=qZ es l (k+1):=by
 have bf:=I h;obtain⟨j,hj⟩:∃j,l.length-k=j+1:=⟨l.length-k-1,by omega⟩
 have e:l.take (k+1)=l.take k++[v]:=by rw[List.take_add_one,h];rfl
 have ek:((l.take k).map (jS es)).length=k:=by simp;omega
 unfold qZ;rw[e,hj,show l.length-(k+1)=j by omega,List.set_append_right _ _ (by omega),ek,Nat.sub_self];simp[List.replicate_succ]
theorem JE(es:List (Int×SV))(l:List Int):(an (qZ es l l.length)).map ae.bg=an ((fZ es l).map SV.enc):=by
 rw[<-fi];simp only[qZ,Nat.sub_self,List.replicate_zero,List.append_nil,List.take_length,fZ,List.map_map];congr 1;apply List.map_congr_left;intro v _;exact vr es v
theorem jl{es:List (Int×SV)}{n:Nat}(h:∀e∈es,SV.bj n e.2)(k:Int):SV.bj n (iO es k):=by
 unfold iO;cases hl:iP es k with
 | none=>exact .mk (by simp) (by simp)
 | some v =>
  obtain⟨e,h1,rfl⟩:=xI hl;exact h e h1
theorem ot{es:List (Int×SV)}{n:Nat}(h:∀e∈es,SV.bj n e.2)(l:List Int):∀v∈fZ es l,SV.bj n v:=fun v hv=>by
 obtain⟨k,_,rfl⟩:=List.mem_map.1 hv;exact jl h k
theorem jw{f:Fr}{O:List ak}(bB:∀o∈O,o.upto O.length)(hf:O[f.bR]?=some (.cells (aW f)))(hv:O[f.dn]?=some (.map (.int .i64) (f.vals.map gz)))(hu:∀e∈f.vals,SV.bj O.length e.2)(l:List Int)(hl:l.length<=4096) :
  bd Tryz.prog 113 O [.mp f.bR 0,aJ l] (fun r O'=>r=.aA 4 ((fZ f.vals l).map SV.enc) .sh∧O'=O):=by
 have eh:=SV.ag (ot hu l);have ga:∀X:List ak,(O++X)[f.bR]?=some (.cells (aW f)):=fun X=>cm hf;have Rk:∀X:List ak,(O++X)[f.dn]?=some (.map (.int .i64) (f.vals.map gz)):=fun X=>cm hv;unfold aW at ga;refine zf true O.length Tryz.func113 Tryz.ntmps113 ?_;dsimp only[Tmp,TypeId,slotsOf];refine ay (ai ?_);refine ay ?_
 repeat(refine⟨by omega,?_⟩)
 refine ai ?_;refine bV (ai ?_);refine ah (aL (ι:={k:Nat // k<=l.length}) (fun k=>⟨29,[(0,.mp f.bR 0),(5,.ms O.length 0 l.length l.length),(11,aJ l),(12,aI l.length),(13,aI k.1)],O++[.cells (an (qZ f.vals l k.1))]⟩) (fun k=>l.length-k.1) ⟨0,by omega⟩ ?_ ?_)
 ·refine zq rfl ?_ ?_;simp -dsimp only[simprocAttr,↓aa,zp,zc];rw[GK]
 rintro⟨k,hk⟩;refine ay (ai ?_);apply gJ rfl<;>intro h
 ·refine cj ?_;have bf:k<l.length:=by simpa using h
  obtain⟨v,AU⟩:∃v,l[k]?=some v:=⟨l[k],by simp[bf]⟩
  have uT:(Option.map SV.enc (iP f.vals v)).getD (.agg [aI 0,aI 0,.aA 4 [] .ex,.v (.pointer none)])=jS f.vals v:=rfl;have da:=bz (qb (es:=f.vals) (l:=l) (k:=k));rw[vx hk]at da;have gL:=mq (qb (es:=f.vals) (l:=l) (k:=k)) (k:=k) (by rw[vx hk];exact bf) (fq f.vals v);rw[GJ AU]at gL;have hn:=kT O (ak.cells (an (qZ f.vals l k)));have fo:=fun y=>vC O (ak.cells (an (qZ f.vals l k))) y;refine aH (ah ?_);refine aQ ?_;simp -dsimp only[simprocAttr,↓aa,zp,AU];refine ai ?_;refine jX ?_;simp -dsimp only[simprocAttr,↓aa,zp,ga,Rk,lX,uT,hn,fo,ju,fq,da,gL]
  repeat(refine⟨by omega,?_⟩)
  refine ai ?_;refine cM ?_
  repeat(refine⟨by omega,?_⟩)
  refine eZ ?_;refine⟨⟨k+1,bf⟩,by simp;omega,?_⟩;refine zq rfl ?_ ?_;simp -dsimp only[simprocAttr,↓aa,zp,zc]
  ·exact Sub.int (by simp)
  rfl
 refine aK ?_;simp -dsimp only[bI,ne_eq,Nat.reduceEqDiff,reduceCtorEq];have gi:k=l.length:=by simp at h;omega
 subst gi;refine Cg 5 (sz:=4) ((fZ f.vals l).map SV.enc) [(5,.aA 4 ((fZ f.vals l).map SV.enc) .sh)] rfl ?_ ?_ ?_ (by omega) (by simp[bw,a8,Go.Av.look]) ?_ ?_ ?_
 ·intro x hx;obtain⟨y,_,rfl⟩:=List.mem_map.1 hx;exact y.cZ
 ·simp[fZ]
 ·rw[<-JE,List.take_of_length_le];rw[bz qb,vx hk];exact Nat.le_refl _
 ·exact bB
 ·intro p hp;simp only[List.mem_singleton]at hp;subst hp;exact⟨eh,trivial⟩
 refine ay (ai ?_);refine aq ?_;simp -dsimp only[simprocAttr,↓aa,zp,zr,Tryz.results113,List.take_length];exact⟨bB,eh⟩
end Go.Proofs.YtjdnhamngpafmaaGreat
