/-
  Texts bound together by a program of mine: YtakdmelemfnmdaaAvr, YtakdmelemfnmdaaAvu, YtakdmelemfnmdaaAvya, YtakdmelemfnmdaaAvl, YtakdmelemfnmdaaAvm, YtjdnhamngpafmaaGreatTab, YtjdnhamngpafmaaGreatPa, YtjdnhamngpafmaaGreatPb, YtjdnhamngpafmaaGreatPm, YtjdnhamngpafmaaGreatPr, YtakdmelemfnmdaaAvn, YtakdmelemfnmdaaAvo, YtakdmelemfnmdaaAvq, YtakdmelemfnmdaaAvp, YtakdmelemfnmdaaAvs, YtakdmelemfnmdaaAvt, YtakdmelemfnmdaaAvz, YtakdmelemfnmdaaAvw, YtjdnhamngpafmaaGreatPd, YtjdnhamngpafmaaGreatPdz, YtjdnhamngpafmaaGreatPe, YtjdnhamngpafmaaGreatPp, YtjdnhamngpafmaaGreatPum, YtjdnhamngpafmaaGreatT1, YtjdnhamngpafmaaGreatT2, YtjdnhamngpafmaaGreatT3, YtjdnhamngpafmaaGreatT30, YtjdnhamngpafmaaGreatPo, YtjdnhamngpafmaaGreatT24.
-/
import Derived.Test.YtjdnhamngpafmaaGreatF1
import Derived.ChangeKeysEq
import Derived.Laws.StructEq
import Derived.Laws.IdiomRangeMap
import Derived.Test.YtjdnhamngpafmaaGreatChecked
import Derived.KernelRfl
import Derived.ProofKit
import Derived.Carry
import Derived.SizedLaws
import Derived.Deep.Slices
import Derived.JoinedOf
import Derived.Laws.Closers25b
set_option linter.all false
set_option maxRecDepth 100000
set_option maxHeartbeats 4000000

namespace Go.Av
theorem xw{P:Program}{o:Oper}{σ:St}{op:BinOp}{t t' e:TypeId}{x y:Operand}{x':ae}{b r:Bool}
  (ho:o.op=.binOp op t x y t') (hd:∀d,o.dst=some d->d<σ.n) (ht:P.underlying t=some (.pointer e)) (hx:σ.ev x=some x') (hy:σ.ev y=some (.v (.pointer none)))
  (hb:(x'=.v (.pointer none)∧b=true)∨(∃oa cs,x'=.ip oa cs∧b=false)∨(∃id off,x'=.mp id off∧b=false))
  (hr:(op=.eql∧r=b)∨(op=.neq∧r=!b)):Cert P o σ (.v (.bool r)) .pure :=
 Cert.bT .pure (.inl rfl) hd fun a g _ h _=>by
  have iL:=h x (by simp[ho,Op.operands]) _ hx;have ey:=(h y (by simp[ho,Op.operands]) _ hy).cb.1;have ex:∃q:Option Addr,a.eval x=.pointer q∧b=q.isNone:=by
   rcases hb with⟨e1,e2⟩|⟨oa,cs,e1,e2⟩|⟨id,off,e1,e2⟩
   ·subst e1;exact⟨none,iL.cb.1,e2⟩
   ·subst e1;obtain⟨bb,off,_,e3,_⟩:=iL.oR;exact⟨some ⟨bb,off,none⟩,e3,e2⟩
   subst e1;obtain⟨l,o1,_,_,_,e3⟩:=iL.lu;exact⟨_,e3,e2⟩
  obtain⟨q,ex,eb⟩:=ex;have hg:=cS (P:=P) op t x y (.pointer q) (.pointer none) g.w (by simp) (by simp);refine⟨.bool r,?_,.v trivial⟩;have he:(Op.equal t (.pointer q) (.pointer none)).run P g.w=.ok q.isNone g.w:=by
   have e:∃d,Op.equal t (.pointer q) (.pointer none)=Op.equalIn (d+1) t (.pointer q) (.pointer none):=⟨9999,rfl⟩
   obtain⟨d,e⟩:=e;rw[e];cases q<;>simp[Op.equalIn,Sem.run_bind,run_underlying ht]
  rcases hr with⟨e1,e2⟩|⟨e1,e2⟩<;>subst e1<;>subst e2<;>simp[execOp,ho,ex,ey,hg,binOp,he,eb]
def ru:BinOp->Addr->Addr->Option Bool
 | .eql,a,b=>some (decide (a=b))
 | .neq,a,b=>some (!decide (a=b))
 | _,_,_=>none
theorem BF{P:Program}{o:Oper}{σ:St}{op:BinOp}{t t' e:TypeId}{n:Nat}{x y:Operand}{a b:Addr}{cs ds:List ae}{r:Bool}
  (ho:o.op=.binOp op t x y t') (hd:∀d,o.dst=some d->d<σ.n) (ht:P.underlying t=some (.pointer e)) (hn:∀w,(sizeOf e).run P w=.ok n w) (vX:n≠0) (hx:σ.ev x=some (.ip (some a) cs)) (hy:σ.ev y=some (.ip (some b) ds)) (Ky:a.block=b.block)
  (hr:ru op a b=some r):Cert P o σ (.v (.bool r)) .pure :=
 Cert.bT .pure (.inl rfl) hd fun ac g _ h _=>by
  have ex:ac.eval x=.pointer (some a):=by
   obtain⟨b1,off,f,e1,e2,_⟩:=(h x (by simp[ho,Op.operands]) _ hx).oR;rcases e2 with e2|e2
   ·cases e2
   rw[e1,e2]
  have ey:ac.eval y=.pointer (some b):=by
   obtain⟨b1,off,f,e1,e2,_⟩:=(h y (by simp[ho,Op.operands]) _ hy).oR;rcases e2 with e2|e2
   ·cases e2
   rw[e1,e2]
  have hg:=cS (P:=P) op t x y (.pointer (some a)) (.pointer (some b)) g.w (by simp) (by simp);refine⟨.bool r,?_,.v trivial⟩;have he:(Op.equal t (.pointer (some a)) (.pointer (some b))).run P g.w=.ok (decide (a=b)) g.w:=by
   have e0:∃d,Op.equal t (.pointer (some a)) (.pointer (some b))=Op.equalIn (d+1) t (.pointer (some a)) (.pointer (some b)):=⟨9999,rfl⟩
   obtain⟨d,e0⟩:=e0;rw[e0];simp[Op.equalIn,Sem.run_bind,run_underlying ht,hn,vX,sameAddr,Ky]
   first
    | rfl
    | exact beq_eq_decide
    | (rw[Bool.eq_iff_iff]
       simp)
  have EX:(op=.eql∧r=decide (a=b))∨(op=.neq∧r=!decide (a=b)):=by
   cases op<;>simp[ru]at hr<;>simp[hr]
  rcases EX with⟨e1,e2⟩|⟨e1,e2⟩<;>subst e1<;>subst e2<;>simp[execOp,ho,ex,ey,hg,binOp,he]
theorem qq{P:Program}{aT:eZ}(hT:b6 P aT){t e:TypeId}{n:Nat}{ti:cf}(ht:aT t=some ti)(aU:ti.desc=.array n e):P.underlying t=some (.array n e):=by
 obtain⟨_,d,h1,h2⟩:=hT t ti ht;rw[aU]at h2;simp only[sJ]at h2;rw[h1,h2]
theorem qA{P:Program}{aT:eZ}(hT:b6 P aT){o:Oper}{σ:St}{t e:TypeId}{x i:Operand}{ti te:cf}{id off len:Nat}{k:IntKind}{n:Int}
  (ho:o.op=.indexAddr t x i) (hd:∀d,o.dst=some d->d<σ.n) (ht:aT t=some ti) (aU:ti.desc=.array len e) (he:aT e=some te)
  (hx:σ.ev x=some (.mp id off)) (hi:σ.ev i=some (.v (.int k n))) (h0:0<=n) (hn:n<len):Cert P o σ (.mp id (off+n.toNat*te.size)) .pure :=
 Cert.bT .pure (.inl rfl) hd fun a g _ h _=>by
  have ei:=(h i (by simp[ho,Op.operands]) _ hi).cb.1;have hu:=qq hT ht aU;obtain⟨l,o1,h1,h2,h3,eu⟩:=(h x (by simp[ho,Op.operands]) _ hx).lu;exact⟨.pointer (some ⟨l.block,off+n.toNat*te.size,none⟩),by simp[execOp,ho,ei,eu,Instr.indexAt,Instr.sureAddr,asIntOf,run_underlying hu,h0,hn,(hT e te he).sizeOf,addr_add],.mp h1 h2 h3⟩
theorem n7{P:Program}{aT:eZ}(hT:b6 P aT){o:Oper}{σ:St}{t e:TypeId}{x i:Operand}{ti te:cf}{len:Nat}{oa:Option Addr}{cs:List ae}{k:IntKind}{n:Int}
  (ho:o.op=.indexAddr t x i) (hd:∀d,o.dst=some d->d<σ.n) (ht:aT t=some ti) (aU:ti.desc=.array len e) (he:aT e=some te)
  (hx:σ.ev x=some (.ip oa cs)) (hi:σ.ev i=some (.v (.int k n))) (h0:0<=n) (hn:n<len):Cert P o σ (.ip none (cs.drop (n.toNat*te.size))) .pure :=
 Cert.bT .pure (.inl rfl) hd fun a g _ h _=>by
  have ei:=(h i (by simp[ho,Op.operands]) _ hi).cb.1;have hu:=qq hT ht aU;obtain⟨b,off,f,eu,_,dv,hm,hr⟩:=(h x (by simp[ho,Op.operands]) _ hx).oR;refine⟨.pointer (some ⟨b,off+n.toNat*te.size,none⟩),by simp[execOp,ho,ei,eu,Instr.indexAt,Instr.sureAddr,asIntOf,run_underlying hu,h0,hn,(hT e te he).sizeOf,addr_add],
   .ip (.inl rfl) (fun c hc=>dv c (List.mem_of_mem_drop hc)) (fun j=>f (n.toNat*te.size+j)) (fun j c hj=>?_) (fun j c hj=>?_)⟩
  ·rw[List.getElem?_drop]at hj;have:=hm _ c hj;rw[<-Nat.add_assoc]at this;exact this
  rw[List.getElem?_drop]at hj;exact hr _ c hj
theorem vw{P:Program}{aT:eZ}(hT:b6 P aT){o:Oper}{σ:St}{t e:TypeId}{parts:Array (Nat×Operand)}{n:Nat}{ti te:cf}{ps:List (Nat×ae)}{cs:List ae}
  (ho:o.op=.build t parts) (hd:∀d,o.dst=some d->d<σ.n) (ht:aT t=some ti) (aU:ti.desc=.array n e) (he:aT e=some te) (yF:σ.fA parts.toList=some ps) (gL:∀p∈ps,p.2.flat)
  (fS:jo (fun i=>some (i*te.size,te.size)) ti.zero ps=some cs):Cert P o σ (.agg cs) .pure :=
 Cert.bT .pure (.inl rfl) hd fun a g _ h _=>by
  have bN:=km (a:=a) (g:=g) (fun x hx y hy=>h x (by simpa[ho,Op.operands]using hx) y hy) yF gL;obtain⟨⟨i,z,h1,h2,h3,h4,h5,h6,h7,h8,h9⟩,d,yA,Xs⟩:=hT t ti ht;have hu:=qq hT ht aU;obtain⟨⟨ie,ze,k1,k2,_⟩,_⟩:=hT e te he;obtain⟨ck,q1,q2,q3⟩:=pz (fun i=>some (i*te.size,te.size)) bN (cs:=ti.zero) (arr:=z.cells) ⟨h5,h8 g⟩ fS;have hb:P.built t (parts.map fun(i,x)=>(i,a.eval x)).toList=some ck:=by
   unfold Program.built;simp only[h1,hu,h4,k1,k2];rw[Array.toList_map];simpa using q1
  have bJ:=run_build g.w t _ ck hb;exact⟨.agg ck,by simp[execOp,ho,bJ],q2.agg (q3 h9)⟩
def u7(P:Program)(t:TypeId)(k:IntKind):Prop:=P.eqGuardType P.depth t=false∧∀(w:World) (a0 a1 b0 b1:Int),(Op.equal t (.agg #[.int k a0,.int k a1]) (.agg #[.int k b0,.int k b1])).run P w=.ok (decide (a0=b0)&&decide (a1=b1)) w
theorem sc{P:Program}{e:TypeId}{k:IntKind}(he:P.underlying e=some (.int k))(xs:Array Value)(i:Nat)(u:Value)(hu:xs[i]?=some u)(w:World):(part e xs i).run P w=.ok u w:=by
 simp[part,Go.isAgg,run_underlying he,hu]
theorem AB{P:Program}{t:TypeId}{k:IntKind}(h:∃e i,P.underlying t=some (.array 2 e)∧P.info? e=some i∧i.size=1∧P.underlying e=some (.int k)∧P.eqGuardType P.depth t=false):u7 P t k:=by
 obtain⟨e,ie,R3,k1,cP,hu,oc⟩:=h;refine⟨oc,fun w a0 a1 b0 b1=>?_⟩;have hc:P.cellsOf e=1:=by
  simp[Program.cellsOf,k1,cP]
 have e0:∃d,Op.equal t (.agg #[.int k a0,.int k a1]) (.agg #[.int k b0,.int k b1])=Op.equalIn (d+2) t (.agg #[.int k a0,.int k a1]) (.agg #[.int k b0,.int k b1]):=⟨9998,rfl⟩
 obtain⟨d,e0⟩:=e0;rw[e0,run_equalIn_array w (d+1) _ _ R3 k1,hc];have hi:∀(p q:Int),(Op.equalIn (d+1) e (.int k p) (.int k q)).run P w=.ok (decide (p=q)) w:=fun p q=>by
  have hpq:(p == q)=decide (p=q):=by
   by_cases hq:p=q
   ·simp[hq]
   simp[hq]
  simp[Op.equalIn,run_underlying hu,hpq]
 have p0:=sc hu #[.int k a0,.int k a1] 0 (.int k a0) rfl w;have p1:=sc hu #[.int k a0,.int k a1] 1 (.int k a1) rfl w;have s0:=sc hu #[.int k b0,.int k b1] 0 (.int k b0) rfl w;have s1:=sc hu #[.int k b0,.int k b1] 1 (.int k b1) rfl w;show(Op.eqItems (d+1) e 1 _ _ [0,1]).run P w=_;simp only[Op.eqItems,Sem.run_bind,Nat.zero_mul,Nat.one_mul,p0,s0,p1,s1,hi,Result.andThen_ok];by_cases q0:a0=b0
 ·subst q0;simp only[decide_true,Bool.not_true,Bool.false_eq_true,if_false,Bool.true_and,Sem.run_bind,p1,s1,hi,Result.andThen_ok];by_cases q1:a1=b1<;>simp[q1]
 simp[q0]
theorem BH{P:Program}{o:Oper}{σ:St}{op:BinOp}{t t':TypeId}{x y:Operand}{k:IntKind}{a0 a1 b0 b1:Int}{r:Bool}
  (ho:o.op=.binOp op t x y t') (hd:∀d,o.dst=some d->d<σ.n) (hP:u7 P t k)
  (hx:σ.ev x=some (.agg [.v (.int k a0),.v (.int k a1)])) (hy:σ.ev y=some (.agg [.v (.int k b0),.v (.int k b1)]))
  (hr:(op=.eql∧r=(decide (a0=b0)&&decide (a1=b1)))∨(op=.neq∧r=!(decide (a0=b0)&&decide (a1=b1)))):Cert P o σ (.v (.bool r)) .pure :=
 Cert.bT .pure (.inl rfl) hd fun ac g _ h _=>by
  obtain⟨oc,cz⟩:=hP;have cells:∀{z:Operand} {c0 c1:Int},z∈o.op.operands->σ.ev z=some (.agg [.v (.int k c0),.v (.int k c1)])->ac.eval z=.agg #[.int k c0,.int k c1]:=fun {z c0 c1} hz yF=>by
   obtain⟨vs,e1,e2,e3⟩:=(h z hz _ yF).zC;rw[e1];congr 1;have e2:vs.size=2:=e2;have h0:vs[0]?=some (vs[0]'(by omega)):=by simp[e2]
   have h1:vs[1]?=some (vs[1]'(by omega)):=by simp[e2]
   have q0:=(e3.2 0 _ _ rfl h0).cb.1;have q1:=(e3.2 1 _ _ rfl h1).cb.1;apply Array.ext
   ·simp[e2]
   intro i Gv QW;have:i=0∨i=1:=by
    simp at QW;omega
   rcases this with rfl|rfl
   ·simpa using q0
   simpa using q1
  have ex:=cells (by simp[ho,Op.operands]) hx;have ey:=cells (by simp[ho,Op.operands]) hy;have hg:=run_eqGuard_agg (P:=P) g.w op t x y #[.int k a0,.int k a1] #[.int k b0,.int k b1] oc;refine⟨.bool r,?_,.v trivial⟩;have DA:=cz g.w a0 a1 b0 b1;rcases hr with⟨e1,e2⟩|⟨e1,e2⟩<;>subst e1<;>subst e2<;>simp[execOp,ho,ex,ey,hg,binOp,DA]
theorem RV.OZ{g:G}{kt:KT}{es:List (Value×ae)}{u:Value}(h:RV g (.im kt es) u):∃(r clk:Nat) (arr:Array MapEntry),u=.map (some r)∧g.w.heap[r]?=some (.map arr clk)∧(∀off,¬jy g r off)∧arr.size=es.length ∧
  (∀(i:Nat) (e:MapEntry) (kx:Value×ae),arr[i]?=some e->es[i]?=some kx->e.key=kx.1∧RV g kx.2 e.val)∧jH arr clk:=by
 cases h with
 | im hh hn hl hk vW hb hr=>exact⟨_,_,_,rfl,hh,hn,hl,fun i e kx a b=>⟨hk i e kx a b,hr i e kx a b⟩,hb⟩
theorem xB{P:Program}{aT:eZ}(hT:b6 P aT){o:Oper}{σ:St}{t k e:TypeId}{x:Operand}{ti:cf}{kt:KT}{es:List (Value×ae)}
  (ho:o.op=.range t x) (hd:∀d,o.dst=some d->d<σ.n) (ht:aT t=some ti) (aU:ti.desc=.map k e) (hx:σ.ev x=some (.im kt es)) (hf:∀p∈es,iv p.1∧∃y,p.2=.v y) :
  Cert P o σ (.mp σ.objs.length 0) (.write (σ.objs++[.map (.iter none) es])) :=
 Cert.iZ hd fun base fY a g bN h je=>by
  have hO:g.objs=σ.objs:=je.resolve_left (by simp);have hg:=bN.good;obtain⟨r,clk,arr,ex,hh,hn,hl,hr,hb⟩:=(h x (by simp[ho,Op.operands]) _ hx).OZ;have hle:=Le.alloc hg (.mapIter (some r) clk #[] clk) 0 (.map (.iter none) es);obtain⟨q1,q2⟩:=hle.stay hh hn;have B6:∀(i:Nat) (e:MapEntry),arr[i]?=some e->∃kx,es[i]?=some kx∧iv e.key∧iv e.val∧kx=(e.key,ae.v e.val):=fun i e hi=>by
   have bg:=aW hi;have yE:es[i]?=some (es[i]'(by omega)):=List.getElem?_eq_getElem (by omega);obtain⟨f1,y,f2⟩:=hf _ (List.mem_of_getElem? yE);obtain⟨r1,r2⟩:=hr i e _ hi yE;rw[f2]at r2;obtain⟨v1,v2⟩:=r2.cb;refine⟨_,yE,by rw[r1];exact f1,by rw[v1];exact v2,?_⟩;rw[r1,v1,<-f2]
  refine⟨.pointer (some ⟨g.w.heap.size,0,none⟩),g.alloc (.mapIter (some r) clk #[] clk) 0 (.map (.iter none) es),.inl ?_,hle,Good.alloc hg _ 0 _ (.inr rfl) ?_,?_,?_⟩
  ·have fm:(getObj r).run P g.w=.ok (.map arr clk) g.w:=by simp[Go.getObj,Sem.run,hh]
   simp[execOp,ho,ex,Instr.range,run_underlying (mL hT ht aU),fm,G.alloc]
  ·show DH _ none es _;refine⟨r,clk,clk,#[],arr,rfl,q1,q2,hb,fun h=>absurd rfl h,fun i e hi=>?_,?_,fun k x q=>by cases q⟩
   ·obtain⟨_,_,f1,f2,_⟩:=B6 i e hi;exact⟨f1,f2⟩
   rw[List.filter_eq_self.2 (fun e _=>by simp)];apply List.ext_getElem?;intro i;have e0:arr.toList[i]?=arr[i]?:=by simp
   rw[List.getElem?_map,e0];cases hi:arr[i]? with
   | none =>
    rw[Option.map_none,List.getElem?_eq_none];have:=Array.getElem?_eq_none_iff.1 hi;omega
   | some e =>
    obtain⟨kx,f1,_,_,f2⟩:=B6 i e hi;rw[f1,f2];rfl
  ·simp[G.alloc,hO,Mode.post]
  rw[<-hO];exact .mp (l:=⟨g.w.heap.size,0,_⟩) (iJ hg) ff (by simp[aj.aF])
theorem vo{arr:Array MapEntry}{clk:Nat}(h:jH arr clk):(arr.toList.map (·.born)).Nodup:=by
 unfold List.Nodup;rw[List.pairwise_map,List.pairwise_iff_getElem];intro i j hi hj sR;have:=h.1 i j arr.toList[i] arr.toList[j] sR (by simp) (by simp);omega
theorem D6{P:Program}{o:Oper}{σ:St}{x:Operand}{id:Nat}{k v:Value}{es:List (Value×ae)}
  (ho:o.op=.entry x) (hd:∀d,o.dst=some d->d<σ.n) (hx:σ.ev x=some (.mp id 0)) (ns:σ.objs[id]?=some (.map (.iter (some (k,v))) es)) :
  Cert P o σ (.cD [.v k,.v v]) (.rd id) :=
 Cert.Pc hd fun a g hg h hO=>by
  obtain⟨l,o1,rJ,h1,_,ex⟩:=(h x (by simp[ho,Op.operands]) _ hx).lu;obtain⟨l',ob,e1,iK,hh,hm⟩:=hg.map id _ es (by rw[hO];exact ns);rw[rJ]at e1;simp only[Option.some.injEq]at e1;subst e1;obtain⟨m,clk,last,seen,arr,rfl,WV,hn,hb,tE,gL,yE,U2⟩:=hm;obtain⟨i,e,hi,yC,hk,hv⟩:=U2 k v rfl;have M':last=clk:=tE (fun q=>by rw[q]at yC;simp at yC);have hf:arr.find? (·.born == e.born)=some e:=by
   rw[<-Array.find?_toList];exact find_born e arr.toList (vo hb) (by
    have:=Array.mem_of_getElem? hi;simpa using this)
  obtain⟨f1,f2⟩:=gL i e hi;refine⟨.tuple #[e.key,e.val],?_,.cD rfl fun i c u hc hu=>?_⟩
  ·have KK:(getObj l.block).run P g.w=.ok (.mapIter (some m) clk seen last) g.w:=by simp[Go.getObj,Sem.run,hh]
   have KL:(getObj m).run P g.w=.ok (.map arr clk) g.w:=by simp[Go.getObj,Sem.run,WV]
   simp[execOp,ho,ex,Instr.entry,KK,KL,yC,M',hf]
  match i,hc,hu with
  | 0,hc,hu =>
   simp at hc hu;subst hc;subst hu;rw[hk];exact .v (by rw[<-hk];exact f1)
  | 1,hc,hu =>
   simp at hc hu;subst hc;subst hu;rw[hv];exact .v (by rw[<-hv];exact f2)
  | i+2,hc,hu=>simp at hc
theorem xX{P:Program}(w:World)(ty:TypeId)(r bm clk last:Nat)(seen:Array Nat)(arr:Array MapEntry)(hr:w.heap[r]?=some (.mapIter (some bm) clk seen last))(hb:w.heap[bm]?=some (.map arr clk))(Gq:jH arr clk)(tE:seen≠#[]->last=clk) :
  ((arr.toList.filter fun e=>!seen.contains e.born)=[]∧(Instr.next (.pointer (some ⟨r,0,none⟩)) false ty).run P w=.ok (.tuple #[.bool false]) w) ∨
  ∃(l1 l2:List MapEntry) (e:MapEntry) (w1:World),(arr.toList.filter fun e=>!seen.contains e.born)=l1++e::l2∧w1.heap=w.heap∧w1.os=w.os∧w1.tape=w.tape∧w1.output=w.output ∧
   (Instr.next (.pointer (some ⟨r,0,none⟩)) false ty).run P w=.ok (.tuple #[.bool true,e.key,e.val]) { w1 with heap:=w.heap.setIfInBounds r (.mapIter (some bm) clk (seen.push e.born) clk) }:=by
 have hold:∀x∈arr.toList,x.born<clk:=fun x hx=>by
  obtain⟨i,hi⟩:=List.mem_iff_getElem?.1 hx;exact Gq.2 i x (by simpa using hi)
 have V6:(!seen.isEmpty&&!arr.isEmpty&&arr.all (fun x=>decide (x.born ≥ last)))=false:=by
  by_cases hs:seen = #[]
  ·subst hs;simp
  rw[tE hs];exact next_test_false seen arr clk clk hold (Nat.le_refl _)
 have KK:(getObj r).run P w=.ok (.mapIter (some bm) clk seen last) w:=by simp[Go.getObj,Sem.run,hr]
 have KL:(getObj bm).run P w=.ok (.map arr clk) w:=by simp[Go.getObj,Sem.run,hb]
 simp only[Instr.next,KK,KL,Sem.run_bind,Result.andThen_ok,V6,Bool.false_eq_true,if_false];have hF:(Array.filter (fun e=>!seen.contains e.born) arr).toList=arr.toList.filter fun e=>!seen.contains e.born:=by simp
 have fX:∀x∈(Array.filter (fun e=>!seen.contains e.born) arr).toList,x.born<clk:=fun x hx=>hold x (by simp at hx ⊢;exact hx.1);rw[<-hF];generalize Array.filter (fun e=>!seen.contains e.born) arr=L at fX ⊢;have e1:L.filter (fun x=>decide (x.born<clk))=L:=Array.filter_eq_self.2 (fun x hx=>by simpa using fX x (by simpa using hx));have e2:L.filter (fun x=>decide (x.born ≥ clk)) = #[]:=by
  rw[Array.filter_eq_empty_iff];intro x hx;have:=fX x (by simpa using hx);simp;omega
 simp only[e1,e2,Array.append_empty];by_cases h0:L.size=0
 ·left;have:L = #[]:=Array.eq_empty_of_size_eq_zero h0;subst this;refine⟨rfl,?_⟩;simp[choose,Sem.run,Question.forced]
 right;have ct:L.isEmpty=false:=by simp[Array.isEmpty,h0]
 simp only[ct,Bool.false_eq_true,if_false,Array.empty_append,Array.size_map];have pD:∃(j:Nat) (w1:World),j<L.size∧w1.heap=w.heap∧w1.os=w.os∧w1.tape=w.tape∧w1.output=w.output∧(choose (Question.mapNext L.size)).run P w=.ok j w1:=by
  by_cases hf:L.size<=1
  ·exact⟨0,w,by omega,rfl,rfl,rfl,rfl,by simp[choose,Sem.run,Question.forced,hf]⟩
  exact⟨w.tape w.drawn (Question.mapNext L.size) % L.size,w.drew,Nat.mod_lt _ (by omega),rfl,rfl,rfl,rfl,by
   simp only[choose,Sem.run,Question.forced,decide_eq_true_eq,hf,if_false,Question.cut];rfl⟩
 obtain⟨j,w1,hj,sV,OV,hw3,hw4,bJ⟩:=pD;have iw:∀o',(setObj r o').run P w1=.ok () { w1 with heap:=w1.heap.setIfInBounds r o' }:=fun o'=>by
  simp[Go.setObj,Sem.run,sV,hr]
 refine⟨L.toList.take j,L.toList.drop (j+1),L[j],w1,?_,sV,OV,hw3,hw4,?_⟩
 ·have h1:L.toList[j]?=some L[j]:=by simp[hj]
  have h2:L.toList.drop j=L[j]::L.toList.drop (j+1):=by
   rw[List.drop_eq_getElem_cons (by simpa using hj)];simp
  rw[<-h2,List.take_append_drop]
 simp only[bJ,Array.getElem?_map,Array.getElem?_eq_getElem hj,Option.map_some,Sem.run_bind,iw,Result.andThen_ok,Sem.run_pure,sV]
structure Tag{α:Type}(a:α):Type where
def on{α:Type}(x:Option α)(f:α->Prop)(_t:Tag f:={}):Prop :=
 match x with
 | some y=>f y
 | none=>False
theorem Az{α:Type}(y:α)(f:α->Prop)(t:Tag f):on (some y) f t=f y:=rfl
theorem aG{α:Type}{x:Option α}{f:α->Prop}{t:Tag f}(h:on x f t):∃y,x=some y∧f y:=by
 cases x with
 | none=>exact h.elim
 | some y=>exact⟨y,rfl,h⟩
def yb(p:Unit->Prop)(_t:Tag p:={}):Prop:=p ()
def At(σ:St)(f:St->Prop)(_t:Tag f:={}):Prop:=f σ
theorem ba{σ:St}{f:St->Prop}{t:Tag f}(h:f σ):At σ f t:=h
def qa(b:Bool)(X Y:Unit->Prop)(_t:Tag X:={})(_t':Tag Y:={}):Prop:=if b then X ()else Y ()
theorem dX(X Y:Unit->Prop)(t:Tag X)(t':Tag Y):qa true X Y t t'=X ():=rfl
theorem dr(X Y:Unit->Prop)(t:Tag X)(t':Tag Y):qa false X Y t t'=Y ():=rfl
theorem F1{b:Bool}{X Y:Unit->Prop}{t:Tag X}{t':Tag Y}(h:b=true->X ())(k:b=false->Y ()):qa b X Y t t':=by
 cases b
 ·exact k rfl
 exact h rfl
abbrev gB:=ae->Mode->Prop
def isNil:Operand->Bool
 | .const (.slice none 0 0)=>true
 | _=>false
def xe(aT:eZ)(ty:TypeId)(x:Operand)(σ:St)(K:gB):Prop :=
 match isNil x with
 | true=>on (aT ty) fun ti=>match ti.desc with
  | .slice e=>on (aT e) fun te=>K (.aC te.size [] .ex) .pure
  | _=>False
 | false=>on (σ.ev x) fun y=>K y .pure
def F3(σ:St)(c x z:Operand)(K:gB):Prop :=
 on (σ.ev c) fun
  | .v (.bool b)=>qa b (fun _=>on (σ.ev x) fun y=>K y .pure) (fun _=>on (σ.ev z) fun y=>K y .pure)
  | _=>False
def pj(aT:eZ)(s:TypeId)(k:Nat)(x:ae)(K:gB):Prop :=
 on (aT s) fun ti=>match ti.desc with
  | .struct fs=>on fs[k]? fun f=>on (aT f.2) fun tf=>tf.size≠0 ∧
   match x with
   | .ip oa cs=>K (.ip (oa.map (·.add f.1)) (cs.drop f.1)) .pure
   | .mp id off=>K (.mp id (off+f.1)) .pure
   | _=>False
  | _=>False
def A7(aT:eZ)(s:TypeId)(k:Nat)(x:ae)(K:gB):Prop :=
 on (aT s) fun ti=>match ti.desc with
  | .struct fs=>on fs[k]? fun f=>on (aT f.2) fun tf=>match x with
   | .agg cs=>qa tf.desc.agg (fun _=>K (.agg ((cs.drop f.1).take tf.size)) .pure) (fun _=>on cs[f.1]? fun r=>K r .pure)
   | _=>False
  | _=>False
def F2(aT:eZ)(O:List aj)(t:TypeId)(x:ae)(K:gB):Prop :=
 on (aT t) fun ti =>
  match x with
  | .ip _ cs=>qa ti.desc.agg (fun _=>ti.size<=cs.length∧K (.agg (cs.take ti.size)) .pure) (fun _=>on cs[0]? fun c=>K c .pure)
  | .mp id off=>on O[id]? fun
   | .cells os=>qa ti.desc.agg (fun _=>off+ti.size<=os.length∧K (.agg ((os.drop off).take ti.size)) (.rd id)) (fun _=>on os[off]? fun c=>K c (.rd id))
   | _=>False
  | _=>False
def Ba(aT:eZ)(O:List aj)(t:TypeId)(x y:ae)(K:gB):Prop :=
 on (aT t) fun ti =>
  match x with
  | .mp id off=>on O[id]? fun
   | .cells os=>y.flat∧y.cells.length=ti.size∧off+ti.size<=os.length∧K (.v (.bool false)) (.wr O.length [id] (O.set id (.cells (bo os off y.cells))))
   | _=>False
  | _=>False
def pk(aT:eZ)(t:TypeId)(x i:ae)(K:gB):Prop :=
 on (aT t) fun ti=>match ti.desc with
  | .slice e=>on (aT e) fun te =>
   match i with
   | .v (.int _ n) =>
    (match x with
    | .aC sz xs ow=>te.size=sz∧0<=n∧on xs[n.toNat]? fun y=>K (.ip (rV ow (n.toNat*te.size)) y.cells) .pure
    | .ms id off len _=>0<=n∧n<len∧K (.mp id (off+n.toNat*te.size)) .pure
    | .os id len _=>0<=n∧n<len∧K (.mp id (n.toNat*te.size)) .pure
    | _=>False)
   | _=>False
  | .array len e=>on (aT e) fun te =>
   match i with
   | .v (.int _ n) =>
    (match x with
    | .mp id off=>0<=n∧n<len∧K (.mp id (off+n.toNat*te.size)) .pure
    | .ip _ cs=>0<=n∧n<len∧K (.ip none (cs.drop (n.toNat*te.size))) .pure
    | _=>False)
   | _=>False
  | _=>False
def vE:BinOp->ByteArray->ByteArray->Option Bool
 | .eql,a,b=>some (decide (a=b))
 | .neq,a,b=>some (!decide (a=b))
 | _,_,_=>none
def ry:BinOp->Bool->Bool->Option Bool
 | .eql,a,b=>some (a == b)
 | .neq,a,b=>some (!(a == b))
 | _,_,_=>none
def G4(op:BinOp)(k:IntKind)(m n:Int)(K:gB):Prop :=
 qa (lj op m n).isSome (fun _=>on (lj op m n) fun b=>K (.v (.bool b)) .pure) (fun _=>on (fa k op m n) fun r=>No k<=r∧r<=HP k∧K (.v (.int k r)) .pure)
def kd:BinOp->Bool->Option Bool
 | .eql,b=>some b
 | .neq,b=>some (!b)
 | _,_=>none
def IA:ae->Option Bool
 | .v (.pointer none)=>some true
 | .ip _ _=>some false
 | .mp _ _=>some false
 | _=>none
theorem IB{x:ae}{b:Bool}(h:IA x=some b):(x=.v (.pointer none)∧b=true)∨(∃oa cs,x=.ip oa cs∧b=false)∨(∃id off,x=.mp id off∧b=false):=by
 unfold IA at h;split at h
 ·exact .inl ⟨rfl,by simpa using h.symm⟩
 ·exact .inr (.inl ⟨_,_,rfl,by simpa using h.symm⟩)
 ·exact .inr (.inr ⟨_,_,rfl,by simpa using h.symm⟩)
 cases h
def Rr(P:Program)(op:BinOp)(t:TypeId)(x:ae)(K:gB):Prop :=
 (∃e,P.underlying t=some (.pointer e))∧on (IA x) fun b=>on (kd op b) fun r=>K (.v (.bool r)) .pure
def qp(P:Program)(op:BinOp)(t:TypeId)(x y:ae)(K:gB):Prop :=
 match x,y with
 | .v (.int k m),.v (.int k' n)=>qa (dI op) (fun _=>0<=n∧No k<=fD k op m n∧fD k op m n<=HP k∧K (.v (.int k (fD k op m n))) .pure) (fun _=>k=k'∧G4 op k m n K)
 | .v (.string a),.v (.string b)=>on (vE op a b) fun r=>K (.v (.bool r)) .pure
 | .v (.bool a),.v (.bool b)=>P.underlying t=some .bool∧on (ry op a b) fun r=>K (.v (.bool r)) .pure
 | x,.v (.pointer none)=>Rr P op t x K
 | .ip (some a) _,.ip (some b) _=>(∃e n,P.underlying t=some (.pointer e)∧(∀w,(sizeOf e).run P w=.ok n w)∧n≠0)∧a.block=b.block∧on (ru op a b) fun r=>K (.v (.bool r)) .pure
 | .agg [.v (.int k a0),.v (.int k1 a1)],.agg [.v (.int k2 b0),.v (.int k3 b1)]=>(k1=k∧k2=k∧k3=k∧u7 P t k)∧on (kd op (decide (a0=b0)&&decide (a1=b1))) fun r=>K (.v (.bool r)) .pure
 | _,_=>False
def TD.elem:TD->Option TypeId
 | .slice e=>some e
 | _=>none
theorem TD.mD{d:TD}{e:TypeId}(h:d.elem=some e):d=.slice e:=by
 cases d<;>simp[TD.elem]at h;rw[h]
def Fh:ae->Option Bool
 | .v (.slice none 0 0)=>some true
 | .aC _ _ .nn=>some false
 | .ms _ _ _ _=>some false
 | _=>none
def MR(aT:eZ)(op:BinOp)(t:TypeId)(x:ae)(K:gB):Prop :=
 on (aT t) fun ti=>on ti.desc.elem fun _=>on (Fh x) fun b=>on (kd op b) fun r=>K (.v (.bool r)) .pure
def MU(op:UnOp)(x:ae)(K:gB):Prop :=
 match op,x with
 | .not,.v (.bool b)=>K (.v (.bool !b)) .pure
 | .neg,.v (.int k n)=>No k<=-n∧-n<=HP k∧K (.v (.int k (-n))) .pure
 | _,_=>False
def I7(σ:St)(p:Option Operand)(Ee:Nat)(K:Nat->Prop):Prop :=
 match p with
 | none=>K Ee
 | some q=>on (σ.ev q) fun
  | .v (.int _ n)=>0<=n∧K n.toNat
  | _=>False
def Dk(sz:Nat)(xs:List ae)(o:nR)(l h:Nat)(K:gB):Prop :=
 match o with
 | .ex=>qa (decide (l=0)&&decide (h=xs.length)) (fun _=>K (.aC sz xs .ex) .pure) (fun _=>K (.aC sz ((xs.take h).drop l) .sh) .pure)
 | _=>K (.aC sz ((xs.take h).drop l) .sh) .pure
theorem F0{sz:Nat}{xs:List ae}{o:nR}{l h:Nat}{K:gB}(k:Dk sz xs o l h K):(o=.ex∧l=0∧h=xs.length∧K (.aC sz xs .ex) .pure)∨K (.aC sz ((xs.take h).drop l) .sh) .pure:=by
 unfold Dk at k;split at k
 ·by_cases hf:(decide (l=0)&&decide (h=xs.length))=true
  ·rw[hf,dX]at k;simp only[Bool.and_eq_true,decide_eq_true_eq]at hf;exact .inl ⟨rfl,hf.1,hf.2,k⟩
  rw[show(decide (l=0)&&decide (h=xs.length))=false by simpa using hf,dr]at k;exact .inr k
 exact .inr k
def A9(aT:eZ)(σ:St)(t:TypeId)(x:ae)(lo hi mx:Option Operand)(K:gB):Prop :=
 on (aT t) fun ti=>match ti.desc with
  | .slice e=>on (aT e) fun te =>
   match x,mx with
   | .aC sz xs ow,none=>te.size=sz∧I7 σ lo 0 fun l=>I7 σ hi xs.length fun h=>l<=h∧h<=xs.length∧Dk sz xs ow l h K
   | .ms id off len cap,none=>I7 σ lo 0 fun l=>I7 σ hi len fun h=>l<=h∧h<=cap∧l<cap∧h<=2 ^ 62∧K (.ms id (off+l*te.size) (h-l) (cap-l)) .pure
   | .raw sz len id,none=>0<len∧I7 σ lo 0 fun l=>I7 σ hi len fun h=>l=0∧h=0∧K (.aC sz [] (.tok id)) .pure
   | .os id len sz,none=>I7 σ lo 0 fun l=>I7 σ hi len fun h=>l=0∧h<=len∧0<len∧K (.os id h sz) .pure
   | _,_=>False
  | _=>False
def mZ:List (Nat×ae)->Prop
 | []=>True
 | p::r=>p.2.flat∧mZ r
def rb(n:Nat):List ae->Prop
 | []=>True
 | x::r=>x.cells.length=n∧rb n r
def A3(aT:eZ)(σ:St)(t:TypeId)(parts:Array (Nat×Operand))(K:gB):Prop :=
 on (aT t) fun ti=>match ti.desc with
  | .struct fs=>on (ju aT fs) fun pl=>on (σ.fA parts.toList) fun ps=>mZ ps∧on (jo (fun i=>pl[i]?) ti.zero ps) fun cs=>K (.agg cs) .pure
  | .array _ e=>on (aT e) fun te=>on (σ.fA parts.toList) fun ps=>mZ ps∧on (jo (fun i=>some (i*te.size,te.size)) ti.zero ps) fun cs=>K (.agg cs) .pure
  | _=>False
def nP(aT:eZ)(σ:St)(t:TypeId)(len:Nat)(parts:Array (Nat×Operand))(K:gB):Prop :=
 on (aT t) fun ti=>match ti.desc with
  | .slice e=>on (aT e) fun te=>on (σ.fA parts.toList) fun ps=>mZ ps∧on (hU 0 ps) fun xs=>0<te.size∧xs.length=len∧rb te.size xs∧len*te.size<=2 ^ 24∧K (.aC te.size (xs.map ae.share) .ex) .pure
  | _=>False
structure Md where
 app:Bool
 made:Bool
def pn(mk:Bool)(aT:eZ)(O:List aj)(t:TypeId)(x y:ae)(K:gB):Prop :=
 on (aT t) fun ti=>match ti.desc with
  | .slice e=>on (aT e) fun te =>
   match x,y with
   | .v (.int _ n),.v (.int _ n')=>n'=n∧0<=n∧te.bytes*n.toNat<=2 ^ 48∧n.toNat<=2 ^ 62∧0<te.size ∧
     qa mk (fun _=>(te.desc.agg=true∨te.size=1)∧K (.aC te.size (List.replicate n.toNat (zeroOf te).share) .ex) .pure)
      (fun _=>K (.ms O.length 0 n.toNat n.toNat) (.wr O.length [] (O++[.cells (List.replicate n.toNat te.zero).flatten])))
   | _,_=>False
  | _=>False
def E6(P:Program)(k:TypeId):Option KT :=
 match P.underlying k with
 | some .string=>some .str
 | some (.int k)=>some (.int k)
 | _=>none
def xd(P:Program)(aT:eZ)(O:List aj)(t:TypeId)(x y:ae)(ok:Bool)(K:gB):Prop :=
 on (aT t) fun ti=>match ti.desc with
  | .map k e=>on (E6 P k) fun kt=>on (aT e) fun te=>(te.desc.agg=true∨te.size=1) ∧
   match y with
   | .v key=>kt.ok key ∧
    (match x with
    | .im Wj es=>Wj=kt∧K (lX ok (fH es key) (zeroOf te)) .pure
    | .mm id=>on O[id]? fun
     | .map Wj es=>Wj=kt∧K (lX ok (fH es key) (zeroOf te)) (.rd id)
     | _=>False
    | .v (.map none)=>K (lX ok none (zeroOf te)) .pure
    | _=>False)
   | _=>False
  | _=>False
def kA(P:Program)(aT:eZ)(O:List aj)(t:TypeId)(x y v:ae)(K:gB):Prop :=
 on (aT t) fun ti=>match ti.desc with
  | .map k _=>on (E6 P k) fun kt =>
   match x,y with
   | .mm id,.v key=>kt.ok key∧on O[id]? fun
    | .map Wj es=>Wj=kt∧K (.v (.bool false)) (.wr O.length [id] (O.set id (.map kt (gP es key v))))
    | _=>False
   | _,_=>False
  | _=>False
def tl(P:Program)(aT:eZ)(O:List aj)(t:TypeId)(K:gB):Prop :=
 on (aT t) fun ti=>match ti.desc with
  | .map k _=>on (E6 P k) fun kt=>K (.mm O.length) (.wr O.length [] (O++[.map kt []]))
  | _=>False
def qJ:ae->Option Nat
 | .aC _ xs _=>some xs.length
 | .ms _ _ len _=>some len
 | .os _ len _=>some len
 | _=>none
def MP(aT:eZ)(t:TypeId)(x:ae)(K:gB):Prop :=
 on (aT t) fun ti=>on ti.desc.elem fun _=>on (qJ x) fun n=>K (.v (.int .i64 n)) .pure
theorem H9{x:ae}{n:Nat}(h:qJ x=some n):(∃sz xs ow,x=.aC sz xs ow∧n=xs.length)∨(∃id off cap,x=.ms id off n cap)∨∃id sz,x=.os id n sz:=by
 cases x<;>simp[qJ]at h
 ·exact .inl ⟨_,_,_,rfl,h.symm⟩
 ·subst h;exact .inr (.inl ⟨_,_,_,rfl⟩)
 subst h;exact .inr (.inr ⟨_,_,rfl⟩)
def xa(P:Program)(mk:Bool)(md:Bool)(aT:eZ)(O:List aj)(t t':TypeId)(x y:ae)(K:gB):Prop :=
 on (aT t) fun ti=>on ti.desc.elem fun e=>on (aT e) fun te =>
   match x,y with
   | .aC sz xs .ex,.aC Wr ys _=>t'=t∧te.size=sz∧Wr=sz∧xs.length+ys.length<=2 ^ 62∧(xs.length+ys.length)*te.bytes<=2 ^ 47 ∧
     qa md (fun _=>ys.length≠0∧qa mk (fun _=>K (.os O.length (xs.length+ys.length) sz) (.wr O.length [] (O++[.cells (au (xs++ys.map ae.share))])))
       (fun _=>K (.ms O.length 0 (xs.length+ys.length) (xs.length+ys.length)) (.wr O.length [] (O++[.cells (au (xs++ys.map ae.share))]))))
      (fun _=>K (.aC sz (xs++ys.map ae.share) (.tok O.length)) (.wr O.length [] (O++[.spare (xs.length+ys.length)])))
   | .aC sz xs (.tok id),.aC Wr ys _=>t'=t∧te.size=sz∧Wr=sz∧O[id]?=some (.spare xs.length)∧xs.length+ys.length<=2 ^ 62∧(xs.length+ys.length)*te.bytes<=2 ^ 47 ∧
     K (.aC sz (xs++ys.map ae.share) (.tok id)) (.wr O.length [id] (O.set id (.spare (xs.length+ys.length))))
   | .aC _ xs .ex,.v (.int k n)=>xs=[]∧k=.i64∧P.underlying t'=some (.int .i64)∧0<n∧n.toNat<=2 ^ 62∧n.toNat*te.bytes<=2 ^ 47∧0<te.size ∧
     qa md (fun _=>K (.raw te.size n.toNat O.length) (.wr O.length [] (O++[.spare 0])))
      (fun _=>K (.ms O.length 0 n.toNat n.toNat) (.wr O.length [] (O++[.cells (List.replicate n.toNat te.zero).flatten])))
   | .ms id off len cap,.aC sz ys _=>t'=t∧te.size=sz∧on O[id]? fun
    | .cells cs=>len+ys.length<=cap∧len+ys.length<=2 ^ 62∧off+(len+ys.length)*sz<=cs.length ∧
     K (.ms id off (len+ys.length) cap) (.wr O.length [id] (O.set id (.cells (bo cs (off+len*sz) (au (ys.map ae.share))))))
    | _=>False
   | .os id len sz,.aC Wr ys _=>t'=t∧te.size=sz∧Wr=sz∧on O[id]? fun
    | .cells cs=>len*sz<=cs.length∧ys.length≠0∧len+ys.length<=2 ^ 62∧(len+ys.length)*te.bytes<=2 ^ 47 ∧
     K (.os O.length (len+ys.length) sz) (.wr O.length [id] (O.set id .gone++[.cells (cs.take (len*sz)++au (ys.map ae.share))]))
    | _=>False
   | _,_=>False
def JE:ae->Option Nat
 | .aC _ xs .ex=>some xs.length
 | _=>none
theorem Hk{x:ae}{n:Nat}(h:JE x=some n):∃sz xs,x=.aC sz xs .ex∧n=xs.length:=by
 unfold JE at h;split at h
 ·exact⟨_,_,rfl,by simpa using h.symm⟩
 cases h
def MO(aT:eZ)(t:TypeId)(x:ae)(K:gB):Prop :=
 on (aT t) fun ti=>on ti.desc.elem fun _=>on (JE x) fun n=>K (.v (.int .i64 n)) .pure
def A5(aT:eZ)(O:List aj)(t:TypeId)(x:ae)(K:gB):Prop :=
 on (aT t) fun ti=>on ti.desc.elem fun e=>on (aT e) fun te=>match x with
  | .ms id off len _=>on O[id]? fun
   | .cells cs=>0<len∧0<te.size∧off+len*te.size<=cs.length∧K (.cD []) (.wr O.length [id] (O.set id (.cells (bo cs off (List.replicate len te.zero).flatten))))
   | _=>False
  | _=>False
def MT(x y:ae)(K:gB):Prop :=
 match x,y with
 | .v (.int .i64 m),.v (.int .i64 n)=>K (.v (.int .i64 (max m n))) .pure
 | _,_=>False
def MQ(x y:ae)(K:gB):Prop :=
 match x,y with
 | .v (.int .i64 m),.v (.int .i64 n)=>K (.v (.int .i64 (min m n))) .pure
 | _,_=>False
theorem JT{P:Program}{o:Oper}{σ:St}{su:Array TypeId}{x y:Operand}{m n:Int}
  (ho:o.op=.call ⟨.builtin .max,#[x,y],su⟩) (hd:∀d,o.dst=some d->d<σ.n) (hx:σ.ev x=some (.v (.int .i64 m))) (hy:σ.ev y=some (.v (.int .i64 n))):Cert P o σ (.v (.int .i64 (max m n))) .pure :=
 Cert.bT .pure (.inl rfl) hd fun a g _ h _=>by
  obtain⟨ex,fx⟩:=(h x (by simp[ho,Op.operands,Call.operands]) _ hx).cb;obtain⟨ey,fy⟩:=(h y (by simp[ho,Op.operands,Call.operands]) _ hy).cb;refine⟨.int .i64 (max m n),?_,.v ?_⟩
  ·rw[cR ho];have e:(if n > m then n else m)=max m n:=by
    split<;>omega
   simp[builtin,Builtin.max_,Builtin.max2,ex,ey,e]
  rcases Int.le_total m n with q|q
  ·rw[Int.max_eq_right q];exact fy
  rw[Int.max_eq_left q];exact fx
theorem JP{P:Program}{o:Oper}{σ:St}{su:Array TypeId}{x y:Operand}{m n:Int}
  (ho:o.op=.call ⟨.builtin .min,#[x,y],su⟩) (hd:∀d,o.dst=some d->d<σ.n) (hx:σ.ev x=some (.v (.int .i64 m))) (hy:σ.ev y=some (.v (.int .i64 n))):Cert P o σ (.v (.int .i64 (min m n))) .pure :=
 Cert.bT .pure (.inl rfl) hd fun a g _ h _=>by
  obtain⟨ex,fx⟩:=(h x (by simp[ho,Op.operands,Call.operands]) _ hx).cb;obtain⟨ey,fy⟩:=(h y (by simp[ho,Op.operands,Call.operands]) _ hy).cb;refine⟨.int .i64 (min m n),?_,.v ?_⟩
  ·rw[cR ho];have e:(if n<m then n else m)=min m n:=by
    split<;>omega
   simp[builtin,Builtin.min_,Builtin.min2,ex,ey,e]
  rcases Int.le_total m n with q|q
  ·rw[Int.min_eq_left q];exact fx
  rw[Int.min_eq_right q];exact fy
def A4(P:Program)(O:List aj)(f:ae)(dP:List ae)(K:gB):Prop :=
 match f with
 | .fn (.func id) fs cs =>
  (∃r,bD P id ((fs++dP++cs).map ae.share) r∧aw 0 ((fs++dP++cs).map ae.share)∧yb fun _=>K r .pure) ∨
  (∃r O',(bd P id O (fs++dP++cs) fun r' O1=>r'=r∧O1=O')∧((yb fun _=>K r (.write O'))∨∃n l,(∀i,i<n->i ∉ l->O'[i]?=O[i]?)∧yb fun _=>K r (.wr n l O'))) ∨
  (∃r,(bd P id O (fs++dP++cs) fun r' O1=>r'=r∧O1=O)∧yb fun _=>K r .read)
 | _=>False
def ez(P:Program)(aT:eZ)(md:Md)(dst:Option Nat)(σ:St)(callee:Callee)(args:List Operand)(su:List TypeId)(K:gB):Prop :=
 match callee with
 | .value f=>on (σ.ev f) fun f=>on (σ.BY args) fun dP=>A4 P σ.objs f dP K
 | .builtin .len =>
  (match args,su with
  | [x],[t]=>on (σ.ev x) fun x=>MP aT t x K
  | _,_=>False)
 | .builtin .append =>
  (match args,su with
  | [x,y],[t,t']=>on (σ.ev x) fun x=>on (σ.ev y) fun y=>xa P md.made md.app aT σ.objs t t' x y K
  | _,_=>False)
 | .builtin .cap =>
  (match args,su with
  | [x],[t]=>on (σ.ev x) fun x=>MO aT t x K
  | _,_=>False)
 | .builtin .clear =>
  (match args,su with
  | [x],[t]=>dst=none∧on (σ.ev x) fun x=>A5 aT σ.objs t x K
  | _,_=>False)
 | .builtin .max =>
  (match args with
  | [x,y]=>on (σ.ev x) fun x=>on (σ.ev y) fun y=>MT x y K
  | _=>False)
 | .builtin .min =>
  (match args with
  | [x,y]=>on (σ.ev x) fun x=>on (σ.ev y) fun y=>MQ x y K
  | _=>False)
 | _=>False
def lF(y:ae)(K:gB):Prop :=
 match y with
 | .mp id off=>K (.mp id off) .pure
 | .ip oa cs=>K (.ip oa cs) .pure
 | _=>False
def ND:ae->Option (List (Value×ae))
 | .im _ es=>some es
 | _=>none
theorem Hb{x:ae}{es:List (Value×ae)}(h:ND x=some es):∃kt,x=.im kt es:=by
 unfold ND at h;split at h
 ·simp only[Option.some.injEq]at h;subst h;exact⟨_,rfl⟩
 cases h
def TD.maps:TD->Option (TypeId×TypeId)
 | .map k e=>some (k,e)
 | _=>none
theorem TD.Ia{d:TD}{p:TypeId×TypeId}(h:d.maps=some p):d=.map p.1 p.2:=by
 unfold TD.maps at h;split at h
 ·simp only[Option.some.injEq]at h;subst h;rfl
 cases h
def A8(aT:eZ)(O:List aj)(t:TypeId)(x:ae)(K:gB):Prop :=
 on (aT t) fun ti=>on ti.desc.maps fun _=>on (ND x) fun es=>(∀p∈es,iv p.1∧∃y,p.2=.v y)∧K (.mp O.length 0) (.wr O.length [] (O++[.map (.iter none) es]))
def uQ:aj->Option (Value×Value)
 | .map (.iter c) _=>c
 | _=>none
theorem Ao{o:aj}{c:Value×Value}(h:uQ o=some c):∃es,o=.map (.iter (some c)) es:=by
 unfold uQ at h;split at h
 ·subst h;exact⟨_,rfl⟩
 cases h
def NF:ae->Option Nat
 | .mp id 0=>some id
 | _=>none
theorem Hc{x:ae}{id:Nat}(h:NF x=some id):x=.mp id 0:=by
 unfold NF at h;split at h
 ·simp only[Option.some.injEq]at h;rw[h]
 cases h
def A6(O:List aj)(x:ae)(K:gB):Prop:=on (NF x) fun id=>on O[id]? fun ob=>on (uQ ob) fun c=>K (.cD [.v c.1,.v c.2]) (.rd id)
def MS(P:Program)(aT:eZ)(md:Md)(o:Oper)(σ:St)(K:gB):Prop :=
 match o.op with
 | .move x=>xe aT o.type x σ K
 | .assign x=>xe aT o.type x σ K
 | .pick c x z=>F3 σ c x z K
 | .fieldAddr s x k=>on (σ.ev x) fun x=>pj aT s k x K
 | .field s x k=>on (σ.ev x) fun x=>A7 aT s k x K
 | .load t x=>on (σ.ev x) fun x=>F2 aT σ.objs t x K
 | .store t x y=>o.dst=none∧on (σ.ev x) fun x=>on (σ.ev y) fun y=>Ba aT σ.objs t x y K
 | .indexAddr t x i=>on (σ.ev x) fun x=>on (σ.ev i) fun i=>pk aT t x i K
 | .binOp op t x y _=>qa (isNil y) (fun _=>on (σ.ev x) fun x=>MR aT op t x K) (fun _=>on (σ.ev x) fun x=>on (σ.ev y) fun y=>qp P op t x y K)
 | .unOp op _ x=>on (σ.ev x) fun x=>MU op x K
 | .slice t x lo hi mx=>on (σ.ev x) fun x=>A9 aT σ t x lo hi mx K
 | .build t parts=>A3 aT σ t parts K
 | .buildSlice t len parts=>nP aT σ t len parts K
 | .alloc t=>on (aT t) fun ti=>K (.mp σ.objs.length 0) (.wr σ.objs.length [] (σ.objs++[.cells ti.zero]))
 | .box _ x=>on (σ.ev x) fun y=>y.flat∧K (.mp σ.objs.length 0) (.wr σ.objs.length [] (σ.objs++[.cells y.cells]))
 | .makeMap t none=>tl P aT σ.objs t K
 | .makeSlice t x y=>on (σ.ev x) fun x=>on (σ.ev y) fun y=>pn md.made aT σ.objs t x y K
 | .makeFunc f first captured=>on (σ.BY first.toList) fun fs=>on (σ.BY captured.toList) fun cs=>K (.fn f fs cs) .pure
 | .lookup t x y ok=>on (σ.ev x) fun x=>on (σ.ev y) fun y=>xd P aT σ.objs t x y ok K
 | .mapUpdate t x y v=>o.dst=none∧on (σ.ev x) fun x=>on (σ.ev y) fun y=>on (σ.ev v) fun v=>kA P aT σ.objs t x y v K
 | .insert t x y v=>o.dst=none∧on (σ.ev x) fun x=>on (σ.ev y) fun y=>on (σ.ev v) fun v=>kA P aT σ.objs t x y v K
 | .extract x k=>on (σ.ev x) fun
  | .cD cs=>on cs[k]? fun r=>K r .pure
  | _=>False
 | .call c=>ez P aT md o.dst σ c.callee c.args.toList c.argTypes.toList K
 | .nilCheck x=>on (σ.ev x) fun y=>lF y K
 | .range t x=>on (σ.ev x) fun x=>A8 aT σ.objs t x K
 | .entry x=>on (σ.ev x) fun x=>A6 σ.objs x K
 | _=>False
theorem eT{O X:List aj}:∀i,i<O.length->i ∉ ([]:List Nat)->(O++X)[i]?=O[i]?:=fun _ hi _=>List.getElem?_append_left hi
theorem mI{O:List aj}{id:Nat}{x:aj}:∀i,i<O.length->i ∉ [id]->(O.set id x)[i]?=O[i]?:=fun i _ hl=>List.getElem?_set_ne (fun e=>hl (by simp[e]))
theorem H6{O:List aj}{id:Nat}{x y:aj}:∀i,i<O.length->i ∉ [id]->(O.set id x++[y])[i]?=O[i]?:=fun i hi hl=>by
 rw[List.getElem?_append_left (by simpa using hi)];exact List.getElem?_set_ne (fun e=>hl (by simp[e]))
theorem E4{x:Operand}(hn:isNil x=true):x=.const (.slice none 0 0):=by
 unfold isNil at hn;split at hn
 ·rfl
 cases hn
theorem Io{y:ae}{b:Bool}(h:Fh y=some b):(y=.v (.slice none 0 0)∧b=true)∨(∃sz xs,y=.aC sz xs .nn∧b=false)∨(∃id off len cap,y=.ms id off len cap∧b=false):=by
 unfold Fh at h;split at h
 ·exact .inl ⟨rfl,by simpa using h.symm⟩
 ·exact .inr (.inl ⟨_,_,rfl,by simpa using h.symm⟩)
 ·exact .inr (.inr ⟨_,_,_,_,rfl,by simpa using h.symm⟩)
 cases h
theorem nF{op:BinOp}{b r:Bool}(h:kd op b=some r):(op=.eql∧r=b)∨(op=.neq∧r=!b):=by
 unfold kd at h;split at h
 ·exact .inl ⟨rfl,by simpa using h.symm⟩
 ·exact .inr ⟨rfl,by simpa using h.symm⟩
 cases h
theorem sm{P:Program}{aT:eZ}{o:Oper}{σ:St}{x:Operand}{K:gB}(ho:o.op=.move x∨o.op=.assign x)(hd:∀d,o.dst=some d->d<σ.n)(h:xe aT o.type x σ K):∃r m,Cert P o σ r m∧K r m:=by
 unfold xe at h;cases hn:isNil x with
 | true =>
  have hx:x=.const (.slice none 0 0):=by
   unfold isNil at hn;split at hn
   ·rfl
   cases hn
  subst hx;simp only[hn]at h;obtain⟨ti,_,h⟩:=aG h;split at h
  ·obtain⟨te,_,h⟩:=aG h;exact⟨_,_,JR te.size ho hd,h⟩
  exact h.elim
 | false =>
  simp only[hn]at h;obtain⟨y,hy,h⟩:=aG h;exact⟨_,_,Ho ho hd hy,h⟩
theorem pI{P:Program}{k:TypeId}{kt:KT}(h:E6 P k=some kt):∃d,P.underlying k=some d∧kt.desc d:=by
 unfold E6 at h;split at h
 ·simp only[Option.some.injEq]at h;subst h;exact⟨_,by assumption,rfl⟩
 ·simp only[Option.some.injEq]at h;subst h;exact⟨_,by assumption,rfl⟩
 cases h
theorem kQ:∀{l:List (Nat×ae)},mZ l->∀p∈l,p.2.flat
 | [],_,p,hp=>by cases hp
 | q::r,h,p,hp=>by
  rcases List.mem_cons.1 hp with e|e
  ·subst e;exact h.1
  exact kQ h.2 p e
theorem re{n:Nat}:∀{l:List ae},rb n l->∀x∈l,x.cells.length=n
 | [],_,p,hp=>by cases hp
 | q::r,h,p,hp=>by
  rcases List.mem_cons.1 hp with e|e
  ·subst e;exact h.1
  exact re h.2 p e
theorem kh{σ:St}{p:Option Operand}{Ee:Nat}{K:Nat->Prop}(h:I7 σ p Ee K):∃n,oz σ p Ee n∧K n:=by
 unfold I7 at h;split at h
 ·exact⟨Ee,.inl ⟨rfl,rfl⟩,h⟩
 rename_i q;obtain⟨y,hy,h⟩:=aG h;split at h
 ·rename_i k n;obtain⟨h1,h2⟩:=h;exact⟨n.toNat,.inr ⟨q,k,rfl,by rw[Int.toNat_of_nonneg h1];exact hy⟩,h2⟩
 exact h.elim
theorem Dl{P:Program}{o:Oper}{σ:St}{op:BinOp}{t t':TypeId}{x y:Operand}{k:IntKind}{m n:Int}{K:gB}(ho:o.op=.binOp op t x y t')(hd:∀d,o.dst=some d->d<σ.n)(hx:σ.ev x=some (.v (.int k m)))(hy:σ.ev y=some (.v (.int k n)))
  (h:G4 op k m n K):∃r m,Cert P o σ r m∧K r m:=by
 unfold G4 at h;cases R9:lj op m n with
 | some b =>
  simp only[R9,Option.isSome_some,dX,Az]at h;exact⟨_,_,BE ho hd hx hy R9,h⟩
 | none =>
  simp only[R9,Option.isSome_none,dr]at h;obtain⟨r,hr,h1,h2,h⟩:=aG h;rw[Ap]at h1;rw[Af]at h2;exact⟨_,_,xu ho hd hx hy hr h1 h2,h⟩
theorem xf{P:Program}{aT:eZ}{md:Md}(hT:b6 P aT){o:Oper}{σ:St}{K:gB}(hd:∀d,o.dst=some d->d<σ.n)(h:MS P aT md o σ K):∃r m,Cert P o σ r m∧K r m:=by
 unfold MS at h;split at h
 case h_1 x ho=>exact sm (.inl ho) hd h
 case h_2 x ho=>exact sm (.inr ho) hd h
 case h_3 c x z ho =>
  unfold F3 at h;obtain⟨y,hy,h⟩:=aG h;split at h
  ·rename_i b;cases b
   ·rw[dr]at h;obtain⟨r,hr,h⟩:=aG h;exact⟨_,_,yj ho hd hy (by simp) (fun _=>hr),h⟩
   rw[dX]at h;obtain⟨r,hr,h⟩:=aG h;exact⟨_,_,yj ho hd hy (fun _=>hr) (by simp),h⟩
  exact h.elim
 case h_4 s x k ho =>
  obtain⟨y,hy,h⟩:=aG h;unfold pj at h;obtain⟨ti,ht,h⟩:=aG h;split at h
  ·rename_i fs aU;obtain⟨f,hf,h⟩:=aG h;obtain⟨tf,V7,hz,h⟩:=aG h;split at h
   ·exact⟨_,_,rn hT ho hd ht aU hf V7 hz hy,h⟩
   ·exact⟨_,_,rp hT ho hd ht aU hf V7 hz hy,h⟩
   exact h.elim
  exact h.elim
 case h_5 s x k ho =>
  obtain⟨y,hy,h⟩:=aG h;unfold A7 at h;obtain⟨ti,ht,h⟩:=aG h;split at h
  ·rename_i fs aU;obtain⟨f,hf,h⟩:=aG h;obtain⟨tf,V7,h⟩:=aG h;split at h
   ·cases fu:tf.desc.agg with
    | true =>
     simp only[fu,dX]at h;exact⟨_,_,vy hT ho hd ht aU hf V7 hy (by rw[if_pos fu]),h⟩
    | false =>
     simp only[fu,dr]at h;obtain⟨r,hr,h⟩:=aG h;exact⟨_,_,vy hT ho hd ht aU hf V7 hy (by rw[if_neg (by simp[fu])];exact hr),h⟩
   exact h.elim
  exact h.elim
 case h_6 t x ho =>
  obtain⟨y,hy,h⟩:=aG h;unfold F2 at h;obtain⟨ti,ht,h⟩:=aG h;split at h
  ·cases fu:ti.desc.agg with
   | true =>
    simp only[fu,dX]at h;exact⟨_,_,zM hT ho hd ht hy fu h.1,h.2⟩
   | false =>
    simp only[fu,dr]at h;obtain⟨c,hc,h⟩:=aG h;exact⟨_,_,xy hT ho hd ht hy fu hc,h⟩
  ·obtain⟨os,TO,h⟩:=aG h;split at h
   ·cases fu:ti.desc.agg with
    | true =>
     simp only[fu,dX]at h;exact⟨_,_,zN hT ho hd ht hy TO fu h.1,h.2⟩
    | false =>
     simp only[fu,dr]at h;obtain⟨c,hc,h⟩:=aG h;exact⟨_,_,xz hT ho hd ht hy TO fu hc,h⟩
   exact h.elim
  exact h.elim
 case h_7 t x y ho =>
  obtain⟨jA,h⟩:=h;obtain⟨x',hx,h⟩:=aG h;obtain⟨y',hy,h⟩:=aG h;unfold Ba at h;obtain⟨ti,ht,h⟩:=aG h;split at h
  ·obtain⟨os,TO,h⟩:=aG h;split at h
   ·obtain⟨h1,h2,h3,h⟩:=h;exact⟨_,_,(D' hT ho jA ht hx TO hy h1 h2 h3).close mI,h⟩
   exact h.elim
  exact h.elim
 case h_8 t x i ho =>
  obtain⟨x',hx,h⟩:=aG h;obtain⟨i',hi,h⟩:=aG h;unfold pk at h;obtain⟨ti,ht,h⟩:=aG h;split at h
  ·rename_i e aU;obtain⟨te,he,h⟩:=aG h;split at h
   ·split at h
    ·obtain⟨h1,h2,h⟩:=h;obtain⟨y,h3,h⟩:=aG h;exact⟨_,_,qB hT ho hd ht aU he h1 hx hi h2 h3,h⟩
    ·obtain⟨h1,h2,h⟩:=h;exact⟨_,_,rq hT ho hd ht aU he hx hi h1 h2,h⟩
    ·obtain⟨h1,h2,h⟩:=h;exact⟨_,_,rr hT ho hd ht aU he hx hi h1 h2,h⟩
    exact h.elim
   exact h.elim
  ·rename_i len e aU;obtain⟨te,he,h⟩:=aG h;split at h
   ·split at h
    ·obtain⟨h1,h2,h⟩:=h;exact⟨_,_,qA hT ho hd ht aU he hx hi h1 h2,h⟩
    ·obtain⟨h1,h2,h⟩:=h;exact⟨_,_,n7 hT ho hd ht aU he hx hi h1 h2,h⟩
    exact h.elim
   exact h.elim
  exact h.elim
 case h_9 op t x y t' ho =>
  cases hn:isNil y with
  | true =>
   simp only[hn,dX]at h;have hy:=E4 hn;subst hy;obtain⟨x',hx,h⟩:=aG h;unfold MR at h;obtain⟨ti,ht,h⟩:=aG h;obtain⟨e,aU,h⟩:=aG h;obtain⟨b,hb,h⟩:=aG h;obtain⟨r,hr,h⟩:=aG h;exact⟨_,_,BI hT ho hd ht (TD.mD aU) hx (Io hb) (nF hr),h⟩
  | false =>
  simp only[hn,dr]at h;obtain⟨x',hx,h⟩:=aG h;obtain⟨y',hy,h⟩:=aG h;unfold qp at h;split at h
  ·cases hs:dI op with
   | true =>
    simp only[hs,dX]at h;obtain⟨h0,h1,h2,h⟩:=h;rw[Ap]at h1;rw[Af]at h2;exact⟨_,_,xC ho hd hx hy hs h0 h1 h2,h⟩
   | false =>
    simp only[hs,dr]at h;obtain⟨hk,h⟩:=h;subst hk;exact Dl ho hd hx hy h
  ·obtain⟨r,hr,h⟩:=aG h;refine⟨_,_,xx ho hd hx hy ?_,h⟩;cases op<;>simp[vE]at hr<;>simp[hr]
  ·obtain⟨hb,h⟩:=h;obtain⟨r,hr,h⟩:=aG h;refine⟨_,_,BG ho hd hb hx hy ?_,h⟩;cases op<;>simp[ry]at hr<;>simp[hr]
  ·obtain⟨⟨e,he⟩,h⟩:=h;obtain⟨b,hb,h⟩:=aG h;obtain⟨r,hr,h⟩:=aG h;exact⟨_,_,xw ho hd he hx hy (IB hb) (nF hr),h⟩
  ·obtain⟨⟨e,n,he,hn,vX⟩,Ky,h⟩:=h;obtain⟨r,hr,h⟩:=aG h;exact⟨_,_,BF ho hd he hn vX hx hy Ky hr,h⟩
  ·obtain⟨⟨k1,k2,k3,hP⟩,h9⟩:=h;obtain⟨r,hr,h8⟩:=aG h9;subst k1;subst k2;subst k3;exact⟨_,_,BH ho hd hP hx hy (nF hr),h8⟩
  exact h.elim
 case h_10 op t x ho =>
  obtain⟨x',hx,h⟩:=aG h;unfold MU at h;split at h
  ·exact⟨_,_,JS ho hd hx,h⟩
  ·obtain⟨h1,h2,h⟩:=h;rw[Ap]at h1;rw[Af]at h2;exact⟨_,_,JQ ho hd hx h1 h2,h⟩
  exact h.elim
 case h_11 t x lo hi mx ho =>
  obtain⟨x',hx,h⟩:=aG h;unfold A9 at h;obtain⟨ti,ht,h⟩:=aG h;split at h
  ·rename_i e aU;obtain⟨te,he,h⟩:=aG h;split at h
   ·obtain⟨h1,h⟩:=h;obtain⟨l,hl,h⟩:=kh h;obtain⟨hh,pY,h2,h3,h⟩:=kh h;rcases F0 h with⟨e1,e2,e3,hq⟩|hq
    ·subst e1;subst e2;subst e3;exact⟨_,_,uj hT ho hd ht aU he hx hl pY,hq⟩
    exact⟨_,_,D9 hT ho hd ht aU he h1 hx hl pY h2 h3,hq⟩
   ·obtain⟨l,hl,h⟩:=kh h;obtain⟨hh,pY,h2,h3,h4,h5,h⟩:=kh h;exact⟨_,_,xD hT ho hd ht aU he hx hl pY h2 h3 h4 h5,h⟩
   ·obtain⟨h1,h⟩:=h;obtain⟨l,hl,hq⟩:=kh h;obtain⟨hh,pY,h2,h3,hz⟩:=kh hq;subst h2;subst h3;exact⟨_,_,vC hT ho hd ht aU he hx hl pY h1,hz⟩
   ·obtain⟨l,hl,hq⟩:=kh h;obtain⟨hh,pY,h2,h3,h4,hz⟩:=kh hq;subst h2;exact⟨_,_,xE hT ho hd ht aU he hx hl pY h3 h4,hz⟩
   exact h.elim
  exact h.elim
 case h_12 t parts ho =>
  unfold A3 at h;obtain⟨ti,ht,h⟩:=aG h;split at h
  ·rename_i fs aU;obtain⟨pl,tH,h⟩:=aG h;obtain⟨ps,rL,gL,h⟩:=aG h;obtain⟨cs,fS,h⟩:=aG h;exact⟨_,_,D4 hT ho hd ht aU tH rL (kQ gL) fS,h⟩
  ·rename_i n e aU;obtain⟨te,he,h⟩:=aG h;obtain⟨ps,rL,gL,h⟩:=aG h;obtain⟨cs,fS,h⟩:=aG h;exact⟨_,_,vw hT ho hd ht aU he rL (kQ gL) fS,h⟩
  exact h.elim
 case h_13 t len parts ho =>
  unfold nP at h;obtain⟨ti,ht,h⟩:=aG h;split at h
  ·rename_i e aU;obtain⟨te,he,h⟩:=aG h;obtain⟨ps,rL,gL,h⟩:=aG h;obtain⟨xs,wq,h1,h2,h3,h4,h⟩:=aG h;exact⟨_,_,ug hT ho hd ht aU he h1 rL (kQ gL) wq h2 (re h3) h4,h⟩
  exact h.elim
 case h_14 t ho =>
  obtain⟨ti,ht,h⟩:=aG h;exact⟨_,_,(D3 hT ho hd ht).close eT,h⟩
 case h_15 t x ho =>
  obtain⟨y,hy,hf,h⟩:=aG h;exact⟨_,_,(JN ho hd hy hf).close eT,h⟩
 case h_16 t ho =>
  unfold tl at h;obtain⟨ti,ht,h⟩:=aG h;split at h
  ·obtain⟨kt,vW,h⟩:=aG h;exact⟨_,_,(zO kt (KT.ng (pI vW).choose_spec.2) ho hd).close eT,h⟩
  exact h.elim
 case h_17 t x y ho =>
  obtain⟨x',hx,h⟩:=aG h;obtain⟨y',hy,h⟩:=aG h;unfold pn at h;obtain⟨ti,ht,h⟩:=aG h;split at h
  ·rename_i e aU;obtain⟨te,he,h⟩:=aG h;split at h
   ·obtain⟨e1,h1,h2,h3,h4,hq⟩:=h;subst e1;by_cases KS:md.made=true
    ·rw[KS,dX]at hq;exact⟨_,_,ui hT ho hd ht aU he hx hy h1 h2 h3 h4 hq.1,hq.2⟩
    rw[show md.made=false by simpa using KS,dr]at hq;exact⟨_,_,(vB hT ho hd ht aU he hx hy h1 h2 h3 h4).close eT,hq⟩
   exact h.elim
  exact h.elim
 case h_18 f first captured ho =>
  obtain⟨fs,OC,h⟩:=aG h;obtain⟨cs,fS,h⟩:=aG h;exact⟨_,_,xA ho hd OC fS,h⟩
 case h_19 t x y ok ho =>
  obtain⟨x',hx,h⟩:=aG h;obtain⟨y',hy,h⟩:=aG h;unfold xd at h;obtain⟨ti,ht,h⟩:=aG h;split at h
  ·rename_i k e aU;obtain⟨kt,vW,h⟩:=aG h;obtain⟨d,hk,vV⟩:=pI vW;obtain⟨te,he,cP,h⟩:=aG h;split at h
   ·obtain⟨gl,h⟩:=h;split at h
    ·obtain⟨e1,hq⟩:=h;subst e1;exact⟨_,_,vz hT ho hd ht aU hk vV he cP hx hy gl,hq⟩
    ·obtain⟨es,yE,h⟩:=aG h;split at h
     case h_2=>exact h.elim
     obtain⟨e1,hq⟩:=h;subst e1;exact⟨_,_,vA hT ho hd ht aU hk vV he cP hx yE hy gl,hq⟩
    ·exact⟨_,_,uh hT ho hd ht aU hk vV he cP hx hy,h⟩
    exact h.elim
   exact h.elim
  exact h.elim
 case h_20 t x y v ho =>
  obtain⟨jA,h⟩:=h;obtain⟨x',hx,h⟩:=aG h;obtain⟨y',hy,h⟩:=aG h;obtain⟨v',hv,h⟩:=aG h;unfold kA at h;obtain⟨ti,ht,h⟩:=aG h;split at h
  ·rename_i k e aU;obtain⟨kt,vW,h⟩:=aG h;obtain⟨d,hk,vV⟩:=pI vW;split at h
   ·obtain⟨gl,h⟩:=h;obtain⟨es,yE,h⟩:=aG h;split at h
    ·obtain⟨e1,hq⟩:=h;subst e1;exact⟨_,_,(oA hT (.inl ho) jA ht aU hk vV hx yE hy gl hv).close mI,hq⟩
    exact h.elim
   exact h.elim
  exact h.elim
 case h_21 t x y v ho =>
  obtain⟨jA,h⟩:=h;obtain⟨x',hx,h⟩:=aG h;obtain⟨y',hy,h⟩:=aG h;obtain⟨v',hv,h⟩:=aG h;unfold kA at h;obtain⟨ti,ht,h⟩:=aG h;split at h
  ·rename_i k e aU;obtain⟨kt,vW,h⟩:=aG h;obtain⟨d,hk,vV⟩:=pI vW;split at h
   ·obtain⟨gl,h⟩:=h;obtain⟨es,yE,h⟩:=aG h;split at h
    ·obtain⟨e1,hq⟩:=h;subst e1;exact⟨_,_,(oA hT (.inr ho) jA ht aU hk vV hx yE hy gl hv).close mI,hq⟩
    exact h.elim
   exact h.elim
  exact h.elim
 case h_22 x k ho =>
  obtain⟨x',hx,h⟩:=aG h;split at h
  ·obtain⟨r,hr,h⟩:=aG h;exact⟨_,_,zL ho hd hx hr,h⟩
  exact h.elim
 case h_23 c ho =>
  obtain⟨callee,args,su⟩:=c;simp only at h;unfold ez at h;split at h
  ·obtain⟨f',hf,h⟩:=aG h;obtain⟨dP,has,h⟩:=aG h;unfold A4 at h;split at h
   ·rcases h with⟨r,h1,h2,h⟩|⟨r,O',h1,h|⟨n,l,hk,h⟩⟩|⟨r,h1,h⟩
    ·exact⟨_,_,D7 ho hd hf has h1 h2,h⟩
    ·exact⟨_,_,vx ho hd hf has h1,h⟩
    ·exact⟨_,_,(vx ho hd hf has h1).close hk,h⟩
    exact⟨_,_,D8 ho hd hf has h1,h⟩
   exact h.elim
  ·split at h
   ·rename_i x t e1 e2;have ea:args = #[x]:=Array.toList_inj.1 e1;have et:su = #[t]:=Array.toList_inj.1 e2;subst ea;subst et;obtain⟨x',hx,h⟩:=aG h;unfold MP at h;obtain⟨ti,ht,h⟩:=aG h;obtain⟨e,aU,h⟩:=aG h;obtain⟨n,hn,h⟩:=aG h;exact⟨_,_,JO hT ho hd ht (TD.mD aU) hx (H9 hn),h⟩
   exact h.elim
  ·split at h
   ·rename_i x y t t' e1 e2;have ea:args = #[x,y]:=Array.toList_inj.1 e1;have et:su = #[t,t']:=Array.toList_inj.1 e2;subst ea;subst et;obtain⟨x',hx,h⟩:=aG h;obtain⟨y',hy,h⟩:=aG h;unfold xa at h;obtain⟨ti,ht,h⟩:=aG h;obtain⟨e,aU,h⟩:=aG h;have aU:=TD.mD aU;obtain⟨te,he,h⟩:=aG h;split at h
    ·obtain⟨h0,h1,h2,h3,h4,hq⟩:=h;subst h0;subst h2;by_cases Vz:md.app=true
     ·rw[Vz,dX]at hq;obtain⟨VP,W6⟩:=hq;cases KS:md.made with
      | true =>
       rw[KS,dX]at W6;exact⟨_,_,(rm hT ho hd ht aU he h1 hx hy VP h3 h4).close eT,W6⟩
      | false =>
       rw[KS,dr]at W6;exact⟨_,_,(ud hT ho hd ht aU he h1 hx hy VP h3 h4).close eT,W6⟩
     rw[show md.app=false by simpa using Vz,dr]at hq;exact⟨_,_,(vt hT ho hd ht aU he h1 hx hy h3 h4).close eT,hq⟩
    ·obtain⟨h0,h1,h2,h3,h4,h5,hq⟩:=h;subst h0;subst h2;exact⟨_,_,(uf hT ho hd ht aU he h1 hx hy h3 h4 h5).close mI,hq⟩
    ·obtain⟨h0,h1,h2,h3,h4,h5,h6,hq⟩:=h;subst h0;subst h1;cases Vz:md.app with
     | true =>
      rw[Vz,dX]at hq;exact⟨_,_,(ue hT ho hd ht aU he h2 hx hy h3 h4 h5 h6).close eT,hq⟩
     | false =>
      rw[Vz,dr]at hq;exact⟨_,_,(sC hT ho hd ht aU he h2 hx hy h3 h4 h5 h6).close eT,hq⟩
    ·obtain⟨h0,h1,hq⟩:=h;subst h0;obtain⟨o1,nr,hq⟩:=aG hq;split at hq
     ·obtain⟨h2,h3,h4,hq⟩:=hq;exact⟨_,_,(vu hT ho hd ht aU he h1 hx nr hy h2 h3 h4).close mI,hq⟩
     exact hq.elim
    ·obtain⟨h0,h1,h2,hq⟩:=h;subst h0;subst h2;obtain⟨o1,nr,hq⟩:=aG hq;split at hq
     ·obtain⟨h3,h4,h5,h6,hq⟩:=hq;exact⟨_,_,(vv hT ho hd ht aU he h1 hx nr hy h3 h4 h5 h6).close H6,hq⟩
     exact hq.elim
    exact h.elim
   exact h.elim
  ·split at h
   ·rename_i x t e1 e2;have ea:args = #[x]:=Array.toList_inj.1 e1;have et:su = #[t]:=Array.toList_inj.1 e2;subst ea;subst et;obtain⟨x',hx,h⟩:=aG h;unfold MO at h;obtain⟨ti,ht,h⟩:=aG h;obtain⟨e,aU,h⟩:=aG h;obtain⟨n,hn,h⟩:=aG h;obtain⟨sz,xs,e3,e4⟩:=Hk hn;subst e3;subst e4;exact⟨_,_,D5 hT ho hd ht (TD.mD aU) hx,h⟩
   exact h.elim
  ·split at h
   ·rename_i x t e1 e2;have ea:args = #[x]:=Array.toList_inj.1 e1;have et:su = #[t]:=Array.toList_inj.1 e2;subst ea;subst et;obtain⟨jA,h⟩:=h;obtain⟨x',hx,h⟩:=aG h;unfold A5 at h;obtain⟨ti,ht,h⟩:=aG h;obtain⟨e,aU,h⟩:=aG h;obtain⟨te,he,h⟩:=aG h;split at h
    ·obtain⟨o1,nr,h⟩:=aG h;split at h
     ·obtain⟨h2,h3,h4,h⟩:=h;exact⟨_,_,(xv hT ho jA ht (TD.mD aU) he hx nr h2 h3 h4).close mI,h⟩
     exact h.elim
    exact h.elim
   exact h.elim
  ·split at h
   ·rename_i x y e1;have ea:args = #[x,y]:=Array.toList_inj.1 e1;subst ea;obtain⟨x',hx,h⟩:=aG h;obtain⟨y',hy,h⟩:=aG h;unfold MT at h;split at h
    ·exact⟨_,_,JT ho hd hx hy,h⟩
    exact h.elim
   exact h.elim
  ·split at h
   ·rename_i x y e1;have ea:args = #[x,y]:=Array.toList_inj.1 e1;subst ea;obtain⟨x',hx,h⟩:=aG h;obtain⟨y',hy,h⟩:=aG h;unfold MQ at h;split at h
    ·exact⟨_,_,JP ho hd hx hy,h⟩
    exact h.elim
   exact h.elim
  exact h.elim
 case h_24 x ho =>
  obtain⟨y,hy,h⟩:=aG h;unfold lF at h;split at h
  ·exact⟨_,_,qf ho hd hy (.inl ⟨_,_,rfl⟩),h⟩
  ·exact⟨_,_,qf ho hd hy (.inr ⟨_,_,rfl⟩),h⟩
  exact h.elim
 case h_25 t x ho =>
  obtain⟨y,hy,h⟩:=aG h;unfold A8 at h;obtain⟨ti,ht,h⟩:=aG h;obtain⟨p,hp,h⟩:=aG h;obtain⟨es,he,h⟩:=aG h;obtain⟨kt,rfl⟩:=Hb he;exact⟨_,_,(xB hT ho hd ht (TD.Ia hp) hy h.1).close eT,h.2⟩
 case h_26 x ho =>
  obtain⟨y,hy,h⟩:=aG h;unfold A6 at h;obtain⟨id,gp,h⟩:=aG h;obtain⟨os,TO,h⟩:=aG h;obtain⟨c,hc,h⟩:=aG h;obtain⟨es,rfl⟩:=Ao hc;rw[Hc gp]at hy;exact⟨_,_,D6 ho hd hy TO,h⟩
 case h_27=>exact h.elim
def J3(d:Option Nat)(n:Nat):Prop :=
 match d with
 | some d=>d<n
 | none=>True
def jw:List (Nat×Nat)->Nat->Option Nat
 | [],_=>none
 | (k,d)::r,j=>if k=j then some d else jw r j
def lP(i:Nat)(d:Option Nat)(ds:List (Nat×Nat)):List (Nat×Nat) :=
 match d with
 | some d=>(i,d)::ds
 | none=>ds
def Ua(σ:St)(f:St->Prop)(_t:Tag f:={}):Prop:=f σ
theorem SW(n:Nat)(s:List (Nat×ae))(O:List aj)(f:St->Prop)(t:Tag f):Ua ⟨n,s,O⟩ f t=f ⟨n,s,O⟩:=rfl
def eA(P:Program)(aT:eZ)(md:Md):List Oper->Nat->List (Nat×Nat)->St->List Kind->(St->List Kind->Prop)->Prop
 | [],_,_,σ,ks,K=>K σ ks
 | o::r,i,ds,σ,ks,K=>J3 o.dst σ.n ∧
  match o.guard with
  | none=>MS P aT md o σ fun x m=>Ua ⟨σ.n,p9 o.dst x σ.br,m.post σ.objs⟩ fun τ=>eA P aT md r (i+1) (lP i o.dst ds) τ (m.kind::ks) K
  | some (j,want)=>on (jw ds j) fun t=>on (σ.get t) fun
   | .v (.bool b)=>qa (b == want)
    (fun _=>MS P aT md o ⟨σ.n,bF t (.v (.bool want)) σ.br,σ.objs⟩ fun x m=>Ua ⟨σ.n,p9 o.dst x (bF t (.v (.bool want)) σ.br),m.post σ.objs⟩ fun τ=>eA P aT md r (i+1) (lP i o.dst ds) τ (m.kind::ks) K)
    (fun _=>Ua ⟨σ.n,rC σ.n o.dst (bF t (.v (.bool !want)) σ.br),σ.objs⟩ fun τ=>eA P aT md r (i+1) (lP i o.dst ds) τ (.pure::ks) K)
   | .cD []=>Ua ⟨σ.n,rC σ.n o.dst σ.br,σ.objs⟩ fun τ=>eA P aT md r (i+1) (lP i o.dst ds) τ (.pure::ks) K
   | _=>False
theorem DK{all:Array Oper}{i:Nat}{o:Oper}(ho:all[i]?=some o){ds:List (Nat×Nat)}(h:∀j t,jw ds j=some t->(all[j]?).bind (·.dst)=some t):∀j t,jw (lP i o.dst ds) j=some t->(all[j]?).bind (·.dst)=some t:=by
 intro j t hj;cases hd:o.dst with
 | none =>
  rw[hd]at hj;exact h j t hj
 | some d =>
  rw[hd]at hj;simp only[lP,jw]at hj;split at hj
  ·rename_i e;subst e;simp only[Option.some.injEq]at hj;subst hj;simp[ho,hd]
  exact h j t hj
theorem C9{σ:St}{t:Nat}{x:ae}(h:σ.get t=some x):iA ⟨σ.n,bF t x σ.br,σ.objs⟩ σ:=by
 refine⟨rfl,rfl,fun s=>?_⟩;simp only[St.get,gy];split
 ·rename_i e;subst e;exact h.symm
 rfl
theorem nc{P:Program}{ops:Array Oper}:∀{l l':List (Nat×Kind)} {σ τ ρ:St},fw P ops l σ τ->fw P ops l' τ ρ->fw P ops (l++l') σ ρ
 | [],_,_,_,_,h,k=>k.same h.symm
 | (i,q)::r,_,_,_,_,h,k=>by
  obtain⟨fY,h1,h2⟩:=h;exact⟨fY,h1,nc h2 k⟩
theorem eV{P:Program}{aT:eZ}{md:Md}(hT:b6 P aT){all:Array Oper}{K:St->List Kind->Prop}:∀(l:List Oper) (k:Nat) (ds:List (Nat×Nat)) (σ:St) (ks:List Kind),(∀j,l[j]?=all[k+j]?)->(∀j t,jw ds j=some t->(all[j]?).bind (·.dst)=some t)->eA P aT md l k ds σ ks K ->
  ∃(τ:St) (tK:List Kind),fw P all (tK.zipIdx k |>.map fun p=>(p.2,p.1)) σ τ∧tK.length=l.length∧K τ (tK.reverse++ks)
 | [],k,_,σ,ks,_,_,h=>⟨σ,[],iA.refl σ,rfl,h⟩
 | o::r,k,ds,σ,ks,hl,uK,h=>by
  obtain⟨hd,h⟩:=h;have ZU:∀d,o.dst=some d->d<σ.n:=fun d e=>by
   rw[e]at hd;exact hd
  have ho:all[k]?=some o:=by
   have:=hl 0;simpa using this.symm
  have Ov:=DK ho uK;have hr:∀j,r[j]?=all[k+1+j]?:=fun j=>by
   have:=hl (j+1);rw[show k+1+j=k+(j+1) by omega];simpa using this
  cases hg:o.guard with
  | none =>
   simp only[hg]at h;obtain⟨x,m,hc,h⟩:=xf hT ZU h;obtain⟨τ,tK,h1,h2,h3⟩:=eV hT r (k+1) _ _ _ hr Ov h;refine⟨τ,m.kind::tK,?_,by simp[h2],by simpa using h3⟩;simp only[List.zipIdx_cons,List.map_cons];exact⟨_,⟨o,ho,.inl ⟨by simp[c7,hg],x,m,hc,rfl,rfl⟩⟩,h1⟩
  | some p =>
   obtain⟨j,want⟩:=p;simp only[hg]at h;obtain⟨t,TT,h⟩:=aG h;have ht:=uK j t TT;obtain⟨y,hy,h⟩:=aG h;split at h
   ·rename_i b;by_cases hb:b=want
    ·rw[show(b == want)=true by simp[hb],dX]at h;have hs:=C9 (hb ▸ hy);obtain⟨x,m,hc,h⟩:=xf hT (σ:=⟨σ.n,bF t (.v (.bool want)) σ.br,σ.objs⟩) ZU h;obtain⟨τ,tK,h1,h2,h3⟩:=eV hT r (k+1) _ _ _ hr Ov h;refine⟨τ,m.kind::tK,?_,by simp[h2],by simpa using h3⟩;simp only[List.zipIdx_cons,List.map_cons];have fq:ma P all k m.kind ⟨σ.n,bF t (.v (.bool want)) σ.br,σ.objs⟩ (St.put ⟨σ.n,bF t (.v (.bool want)) σ.br,σ.objs⟩ o.dst x (m.post σ.objs)) :=
      ⟨o,ho,.inl ⟨by simp[c7,hg,ht,St.get,gy],x,m,hc,rfl,rfl⟩⟩
     obtain⟨fY,q1,q2⟩:=fq.same hs;exact⟨fY,q1,h1.same q2⟩
    rw[show(b == want)=false by simp[hb],dr]at h;have EC:b=!want:=by cases b<;>cases want<;>simp_all
    have hs:=C9 (EC ▸ hy);obtain⟨τ,tK,h1,h2,h3⟩:=eV hT r (k+1) _ _ _ hr Ov h;refine⟨τ,.pure::tK,?_,by simp[h2],by simpa using h3⟩;simp only[List.zipIdx_cons,List.map_cons];have fq:ma P all k .pure ⟨σ.n,bF t (.v (.bool !want)) σ.br,σ.objs⟩ (St.skip ⟨σ.n,bF t (.v (.bool !want)) σ.br,σ.objs⟩ o.dst) :=
     ⟨o,ho,.inr ⟨by cases want<;>simp[c7,hg,ht,St.get,gy],rfl,rfl⟩⟩
    obtain⟨fY,q1,q2⟩:=fq.same hs;exact⟨fY,q1,h1.same q2⟩
   ·obtain⟨τ,tK,h1,h2,h3⟩:=eV hT r (k+1) _ _ _ hr Ov h;refine⟨τ,.pure::tK,?_,by simp[h2],by simpa using h3⟩;simp only[List.zipIdx_cons,List.map_cons];exact⟨_,⟨o,ho,.inr ⟨by simp[c7,hg,ht,hy],rfl,rfl⟩⟩,h1⟩
   exact h.elim
def dF(ops:Array Oper)(ks:List Kind):Prop:=o6 ops ks=true
def gG(draw:Bool)(p:Unit->Prop)(_t:Tag p:={}):Prop:=draw=true->p ()
theorem BO(p:Unit->Prop)(t:Tag p):gG false p t=True:=by simp[gG]
theorem Eg(p:Unit->Prop)(t:Tag p):gG true p t=p ():=by simp[gG]
theorem gR{P:Program}{kb:Nat}{aT:eZ}(md:Md)(hT:b6 P aT)(hm:P.follows .mixedOrders=true){id:Nat}{l:List Oper}{draw:Bool}{Q:dE->St->Prop}{σ:St}
  (h:eA P aT md l 0 [] σ [] fun τ ks=>gG draw (fun _=>dF l.toArray ks.reverse)∧At τ (Q .norm)):cc P kb (.region id l.toArray draw) Q σ:=by
 obtain⟨ops,SA⟩:∃ops,ops=l.toArray:=⟨_,rfl⟩
 have hl:l=ops.toList:=by rw[SA]
 rw[<-SA]at h ⊢;rw[hl]at h;clear SA hl;obtain⟨τ,ks,h1,h2,h3,h4⟩:=eV (all:=ops) hT ops.toList 0 [] σ [] (fun j=>by simp) (fun j t hj=>by simp[jw]at hj) h;intro base a g hb hr;have pD:fw P ops ((List.range ops.size).map fun i=>(i,ks.getD i .write)) σ τ:=by
  have e:(ks.zipIdx 0).map (fun p=>(p.2,p.1))=(List.range ops.size).map fun i=>(i,ks.getD i .write):=by
   apply List.ext_getElem?;intro i;simp only[List.getElem?_map];have hlen:ks.length=ops.size:=by simpa using h2
   by_cases hi:i<ops.size
   ·rw[List.getElem?_range hi];simp[hlen,hi]
   rw[List.getElem?_eq_none (by simp only[List.length_zipIdx];omega),List.getElem?_eq_none (by simp only[List.length_range];omega)];rfl
  rw[<-e];exact h1
 cases draw with
 | false=>exact mo pD hr fun a g EX=>⟨g,τ,rfl,EX,h4⟩
 | true =>
  have hB:=h3 rfl;simp only[List.append_nil,List.reverse_reverse]at hB;exact n6 hm hB pD hr fun a g EX=>⟨g,τ,rfl,EX,h4⟩
theorem fb{P:Program}{kb:Nat}{aT:eZ}(hT:b6 P aT)(hm:P.follows .mixedOrders=true){id:Nat}{l:List Oper}{draw:Bool}{Q:dE->St->Prop}{σ:St}
  (h:eA P aT ⟨false,false⟩ l 0 [] σ [] fun τ ks=>gG draw (fun _=>dF l.toArray ks.reverse)∧At τ (Q .norm)):cc P kb (.region id l.toArray draw) Q σ:=gR ⟨false,false⟩ hT hm h
def slotsOf:Nat->List ae->List (Nat×ae)
 | _,[]=>[]
 | k,x::r=>(k,x)::slotsOf (k+1) r
theorem nz:∀(l:List ae) (k s:Nat) (x:ae),look (slotsOf k l) s=some x->k<=s∧l[s-k]?=some x
 | [],k,s,x,h=>by cases h
 | y::r,k,s,x,h=>by
  simp only[slotsOf,look]at h;split at h
  ·rename_i e;subst e;simp only[Option.some.injEq]at h;subst h;simp
  obtain⟨h1,h2⟩:=nz r (k+1) s x h;refine⟨by omega,?_⟩;rw[show s-k=(s-(k+1))+1 by omega];simpa using h2
def o9(aT:eZ)(σ:St):ResultVar->Option ae
 | .tmp t=>σ.get t
 | .cell a ty =>
  match σ.get a,aT ty with
  | some (.mp id off),some ti =>
   match σ.objs[id]? with
   | some (.cells cs)=>if ti.desc.agg then(if off+ti.size<=cs.length then some (.agg ((cs.drop off).take ti.size))else none)else cs[off]?
   | _=>none
  | _,_=>none
def gj(aT:eZ)(σ:St):List ResultVar->Option (List ae)
 | []=>some []
 | v::r =>
  match o9 aT σ v,gj aT σ r with
  | some x,some xs=>some (x::xs)
  | _,_=>none
def jq:List ae->ae
 | [x]=>x
 | xs=>.cD xs
def ly(a:Act):ResultVar->Sem Value
 | .tmp t=>pure (a.tmps.getD t undef)
 | .cell c t=>do loadVar t (<-asAddr (a.tmps.getD c undef))
theorem C4{P:Program}{aT:eZ}(hT:b6 P aT){σ:St}{base:G}{a:Act}{g:G}(hr:Rel base σ a g){v:ResultVar}{x:ae}(h:o9 aT σ v=some x) :
  ∃u,(ly a v).run P g.w=.ok u g.w∧RV g x u:=by
 cases v with
 | tmp t =>
  obtain⟨u,h1,h2⟩:=hr.slot t x h;exact⟨u,by simp[ly,Array.getD_eq_getD_getElem?,h1],h2⟩
 | cell c ty =>
  simp only[o9]at h;split at h
  ·rename_i id off ti hc V8;obtain⟨u,h1,h2⟩:=hr.slot c _ hc;obtain⟨l,o1,he,ho,_,eu⟩:=h2.lu;split at h
   ·rename_i cs fS;have EK:g.objs[id]?=some (.cells cs):=by rw[hr.objs];exact fS
    obtain⟨arr,t',_,dk,hlen,rM,dv,_⟩:=hr.good.row EK he;subst eu;split at h
    ·rename_i fu;split at h
     ·rename_i hs;simp only[Option.some.injEq]at h;subst h;obtain⟨f,hf⟩:∃f:Nat->Value,∀j,off+j<arr.size->arr[off+j]?=some (f j):=⟨fun j=>arr.getD (off+j) undef,fun j hj=>by simp[Array.getD_eq_getD_getElem?,hj]⟩
      have bJ:=(hT ty ti V8).oS fu g.w l.block off f (fun j hj=>by
       rw[cell_of_row dk];exact hf j (by omega))
      refine⟨.agg ((List.range ti.size).map f).toArray,by simp[ly,Array.getD_eq_getD_getElem?,h1,asAddr,bJ],?_⟩;have hl:((cs.drop off).take ti.size).length=ti.size:=by simp;omega
      have:=RV.ofRow (g:=g) ((cs.drop off).take ti.size) f (fun c hc=>dv c (List.mem_of_mem_drop (List.mem_of_mem_take hc))) (fun j c hj=>by
       have jc:=mQ hj;rw[List.getElem?_drop]at jc;have bg:=I jc;exact rM (off+j) c _ jc (hf j (by omega)))
      rw[hl]at this;exact this
     cases h
    rename_i fu;have bg:=I h;have fB:g.w.cell? ⟨l.block,off,none⟩=some arr[off]:=by
     rw[cell_of_row dk];simp[show off<arr.size by omega]
    have bJ:=(hT ty ti V8).nu (by simpa using fu) g.w ⟨l.block,off,none⟩ _ fB;exact⟨arr[off],by simp[ly,Array.getD_eq_getD_getElem?,h1,asAddr,bJ],rM off x _ h (by simp[show off<arr.size by omega])⟩
   cases h
  cases h
theorem nI{P:Program}{aT:eZ}(hT:b6 P aT){σ:St}{base:G}{a:Act}{g:G}(hr:Rel base σ a g):∀{vs:List ResultVar} {xs:List ae},gj aT σ vs=some xs ->
  ∃us:List Value,(vs.mapM (ly a)).run P g.w=.ok us g.w∧jI g xs us.toArray
 | [],xs,h=>by
  simp only[gj,Option.some.injEq]at h;subst h;exact⟨[],by simp,⟨rfl,by simp⟩⟩
 | v::r,xs,h=>by
  simp only[gj]at h;cases hv:o9 aT σ v with
  | none=>simp[hv]at h
  | some x =>
   cases yK:gj aT σ r with
   | none=>simp[hv,yK]at h
   | some ys =>
    simp only[hv,yK,Option.some.injEq]at h;subst h;obtain⟨u,h1,h2⟩:=C4 hT hr hv;obtain⟨us,h3,h4,h5⟩:=nI hT hr yK;refine⟨u::us,?_,by simpa using h4,fun j c w e1 e2=>?_⟩
    ·rw[List.mapM_cons];simp only[Sem.run_bind,h1,Result.andThen_ok,h3,Sem.run_pure]
    cases j with
    | zero =>
     simp at e1 e2;subst e1;subst e2;exact h2
    | succ j=>exact h5 j c w (by simpa using e1) (by simpa using e2)
def F8(aT:eZ)(rv:List ResultVar)(sh:Bool)(k:Nat)(R:ae->List aj->Prop):dE->St->Prop
 | .exit _,_=>False
 | _,σ=>on (gj aT σ rv) fun rs=>k<=σ.objs.length∧(∀o∈σ.objs.take k,o.upto k)∧(jq (if sh then rs.map ae.share else rs)).upto k∧R (jq (if sh then rs.map ae.share else rs)) (σ.objs.take k)
theorem RV.jq{g:G}{xs:List ae}{us:List Value}(h:jI g xs us.toArray):RV g (jq xs) (if h:us.toArray.size=1 then us.toArray[0]else .tuple us.toArray):=by
 obtain⟨h1,h2⟩:=h
 match xs,us,h1,h2 with
 | [],[],_,h2=>exact .cD rfl (by simp)
 | [x],[u],_,h2 =>
  simp only[List.size_toArray,List.length_singleton,dite_true];exact h2 0 x u rfl rfl
 | x::y::r,u0::u1::s,h1,h2 =>
  rw[dif_neg (by simp)];exact .cD h1 h2
 | [],_::_,h1,_=>simp at h1
 | _::_,[],h1,_=>simp at h1
 | [_],_::_::_,h1,_=>simp at h1
 | _::_::_,[_],h1,_=>simp at h1
theorem dy{P:Program}{aT:eZ}(hT:b6 P aT){f:FuncId}{fn:Func}{c:Code}{O:List aj}{args:List ae}{R:ae->List aj->Prop}(sh:Bool)(k:Nat)(hf:P.funcs[f]?=some fn)(hb:fn.body=some c)
  (vY : (fn.name == "runtime.NumGoroutine") = false) (hn : args.length <= fn.ntmps) (hk : O.length <= k) (h : cc P O.length c (F8 aT fn.results.toList sh k R) ⟨fn.ntmps, slotsOf 0 args, O⟩) : bd P f O args R := by
 refine⟨⟨fn,hf,vY,by simp[hb]⟩,fun g vs hg ho ha=>?_⟩;refine calls_of_wp hf hb ?_;have bN:Rel g ⟨fn.ntmps,slotsOf 0 args,O⟩ { tmps:=vs++Array.replicate (fn.ntmps-vs.size) undef,defers:=[] } g:={
  le:=Le.refl g
  good:=hg
  objs:=ho
  size:=by
   have:=ha.1;simp only[Array.size_append,Array.size_replicate];omega
  defers:=rfl
  slot:=fun s x hx=>by
   obtain⟨_,h1⟩:=nz args 0 s x hx;simp only[Nat.sub_zero]at h1;have bg:=I h1;have kF:s<vs.size:=by rw[ha.1];exact bg
   refine⟨vs[s],?_,ha.2 s x _ h1 (by simp[kF])⟩;simp only;rw[Array.getElem?_append,if_pos kF];simp[kF] }
 refine wp_mono (h g _ g (by rw[ho];exact Nat.le_refl _) bN) fun e a w hp=>?_;have key:∀g' fY,g'.w=w->Rel g fY a g'->(on (gj aT fY fn.results.toList) fun rs=>k<=fY.objs.length∧(∀o∈fY.objs.take k,o.upto k)∧(Av.jq (if sh then rs.map ae.share else rs)).upto k∧R (Av.jq (if sh then rs.map ae.share else rs)) (fY.objs.take k)) ->
   a.defers=[]∧∃v,(results fn a.tmps).run P w=.ok v w∧∃g' v' r,Ending.returned v=.returned v'∧g'.w=w∧Le g g'∧Good g'∧RV g' r v'∧R r g'.objs:=by
  intro g' fY hw hr hq;subst hw;obtain⟨rs,yK,h1,h2,h3,h4⟩:=aG hq;obtain⟨us,q1,q2⟩:=nI hT hr yK;have hO:g'.objs=fY.objs:=hr.objs;refine⟨hr.defers,(if h:us.toArray.size=1 then us.toArray[0]else .tuple us.toArray),?_,g'.cu k,_,_,rfl,rfl,hr.le.cu (by rw[ho];exact hk),hr.good.cu (by rw[hO];exact h1) (by rw[hO];exact h2),?_,by simp only[G.cu,hO];exact h4⟩
  ·have hm:fn.results.mapM (ly a)=Functor.map List.toArray (fn.results.toList.mapM (ly a)):=Array.mapM_eq_mapM_toList;have eX:results fn a.tmps=(do
    let vs <-fn.results.mapM (ly a)
    pure (if h:vs.size=1 then vs[0]else .tuple vs)):=rfl
   rw[eX,hm];simp only[Sem.run_bind,Sem.run_map,q1,Result.andThen_ok,Sem.run_pure]
  have kG:jI g' (if sh then rs.map ae.share else rs) us.toArray:=by
   cases sh
   ·exact q2
   exact q2.share
  exact(RV.jq kG).cu (by rw[hO];exact h1) h3
 cases e with
 | normal =>
  obtain⟨g',fY,h1,h2,h3⟩:=hp;exact key g' fY h1 h2 h3
 | ret =>
  obtain⟨g',fY,h1,h2,h3⟩:=hp;exact key g' fY h1 h2 h3
 | exit id =>
  obtain⟨g',fY,h1,h2,h3⟩:=hp;exact h3.elim
 | goto l=>exact hp.elim
 | panic c=>exact hp.elim
 | outgrown=>exact hp.elim
theorem AQ(P:Program)(kb:Nat)(c:Code)(Q:dE->St->Prop)(σ:St):bK P kb c Q .norm σ=cc P kb c Q σ:=rfl
theorem l6(P:Program)(kb:Nat)(c:Code)(Q:dE->St->Prop)(σ:St):bK P kb c Q .ret σ=Q .ret σ:=rfl
theorem AP(P:Program)(kb:Nat)(c:Code)(Q:dE->St->Prop)(σ:St)(id:Nat):bK P kb c Q (.exit id) σ=Q (.exit id) σ:=rfl
theorem vm(id:Nat)(Q:dE->St->Prop)(σ:St):bO id Q .norm σ=Q .norm σ:=rfl
theorem j7(id:Nat)(Q:dE->St->Prop)(σ:St):bO id Q .ret σ=Q .ret σ:=rfl
theorem vn(id:Nat)(Q:dE->St->Prop)(σ:St):bO id Q (.exit id) σ=Q .norm σ:=by simp[bO]
theorem ub{id mh:Nat}(h:mh≠id)(Q:dE->St->Prop)(σ:St):bO id Q (.exit mh) σ=Q (.exit mh) σ:=by simp[bO,h]
theorem xV{ι:Type}(L:ι->St)(μ:ι->Nat)(i:ι)(Q:dE->St->Prop)(σ:St):gq L μ i Q .norm σ = ∃j,μ j<μ i∧bc σ (L j):=rfl
theorem kV{ι:Type}(L:ι->St)(μ:ι->Nat)(i:ι)(Q:dE->St->Prop)(σ:St):gq L μ i Q .ret σ=Q .ret σ:=rfl
theorem xU{ι:Type}(L:ι->St)(μ:ι->Nat)(i:ι)(Q:dE->St->Prop)(σ:St)(id:Nat):gq L μ i Q (.exit id) σ=Q (.exit id) σ:=rfl
def F7:ae->Value->Bool
 | .v (.int k n),.int k' n'=>decide (k=k')&&decide (n=n')&&decide (k.min<=n)&&decide (n<=k.max)
 | .v (.bool b),.bool b'=>b == b'
 | .v (.string s),.string s'=>decide (s=s')
 | .v (.pointer none),.pointer none=>true
 | .v (.map none),.map none=>true
 | .v .nilFunc,.nilFunc=>true
 | .v .nilIface,.nilIface=>true
 | .aC _ [] .ex,.slice none 0 0=>true
 | _,_=>false
theorem Dv{x:ae}{u:Value}(h:F7 x u=true):(∀g:G,RV g x u)∧x.scalar:=by
 unfold F7 at h;split at h
 ·simp only[Bool.and_eq_true,decide_eq_true_eq]at h;obtain⟨⟨⟨h1,h2⟩,h3⟩,h4⟩:=h;subst h1;subst h2;exact⟨fun g=>.v ⟨h3,h4⟩,trivial⟩
 ·simp only[beq_iff_eq]at h;subst h;exact⟨fun g=>.v trivial,trivial⟩
 ·simp only[decide_eq_true_eq]at h;subst h;exact⟨fun g=>.v trivial,trivial⟩
 ·exact⟨fun g=>.v trivial,trivial⟩
 ·exact⟨fun g=>.v trivial,trivial⟩
 ·exact⟨fun g=>.v trivial,trivial⟩
 ·exact⟨fun g=>.v trivial,trivial⟩
 ·exact⟨fun g=>.nil (fun id e=>by cases e) (by simp),trivial⟩
 cases h
def pV:List ae->List Value->Bool
 | [],[]=>true
 | x::xs,u::us=>F7 x u&&pV xs us
 | _,_=>false
theorem sq:∀{xs:List ae} {us:List Value},pV xs us=true->us.length=xs.length∧(∀g:G,∀(j:Nat) (c:ae) (u:Value),xs[j]?=some c->us[j]?=some u->RV g c u)∧∀c∈xs,c.scalar
 | [],[],_=>⟨rfl,by simp,by simp⟩
 | x::xs,u::us,h=>by
  simp only[pV,Bool.and_eq_true]at h;obtain⟨h1,h2⟩:=Dv h.1;obtain⟨h3,h4,h5⟩:=sq h.2;refine⟨by simp[h3],fun g j c w a b=>?_,fun c hc=>?_⟩
  ·cases j with
   | zero =>
    simp at a b;subst a;subst b;exact h1 g
   | succ j=>exact h4 g j c w (by simpa using a) (by simpa using b)
  rcases List.mem_cons.1 hc with e|e
  ·subst e;exact h2
  exact h5 c e
 | [],_::_,h=>by simp[pV]at h
 | _::_,[],h=>by simp[pV]at h
def py:List Field->List (Nat×TypeId)->Bool
 | [],[]=>true
 | f::r,p::q=>decide (f.offset=p.1)&&decide (f.type=p.2)&&py r q
 | _,_=>false
theorem rE:∀{fs:List Field} {ps:List (Nat×TypeId)},py fs ps=true->fs.map (fun f=>(f.offset,f.type))=ps
 | [],[],_=>rfl
 | f::r,p::q,h=>by
  simp only[py,Bool.and_eq_true,decide_eq_true_eq]at h;obtain⟨⟨h1,h2⟩,h3⟩:=h;rw[List.map_cons,rE h3,h1,h2]
 | [],_::_,h=>by simp[py]at h
 | _::_,[],h=>by simp[py]at h
def JY:TypeDesc->TD->Bool
 | .struct fields,.struct fs=>py fields.toList fs
 | .slice e,.slice e'=>decide (e=e')
 | .array n e,.array n' e'=>decide (n=n')&&decide (e=e')
 | .map k e,.map k' e'=>decide (k=k')&&decide (e=e')
 | .struct _,.other=>false
 | .array _ _,.other=>false
 | _,.other=>true
 | _,_=>false
theorem Ed{d:TypeDesc}{td:TD}(h:JY d td=true):sJ d td:=by
 unfold JY at h;split at h
 ·exact⟨_,rfl,rE h⟩
 ·simp only[decide_eq_true_eq]at h;subst h;rfl
 ·simp only[Bool.and_eq_true,decide_eq_true_eq]at h;obtain⟨h1,h2⟩:=h;subst h1;subst h2;rfl
 ·simp only[Bool.and_eq_true,decide_eq_true_eq]at h;obtain⟨h1,h2⟩:=h;subst h1;subst h2;rfl
 ·cases h
 ·cases h
 ·rename_i h1 h2;cases d<;>first|trivial|exact(h1 _ rfl).elim|exact(h2 _ _ rfl).elim
 cases h
def FK(agg:Bool):Value->Bool
 | .agg _=>agg
 | _=>!agg
def da(P:Program)(t:TypeId)(ti:cf):Bool :=
 match P.info? t,P.underlying t with
 | some i,some d=>decide (i.size=ti.size)&&decide (i.bytes=ti.bytes)&&JY d ti.desc&&decide (ti.zero.length=ti.size) &&
  (match i.zero with
  | some z=>pV ti.zero z.cells.toList&&FK ti.desc.agg z
  | none=>false)
 | _,_=>false
theorem a7{P:Program}{t:TypeId}{ti:cf}(h:da P t ti=true):F9 P t ti:=by
 unfold da at h;split at h
 ·rename_i i d hi hd;split at h
  ·rename_i z hz;simp only[Bool.and_eq_true,decide_eq_true_eq]at h;obtain⟨⟨⟨⟨h1,h2⟩,h3⟩,h4⟩,h5,h6⟩:=h;obtain⟨q1,q2,q3⟩:=sq h5;refine⟨⟨i,z,hi,h1,h2,hz,by simpa using q1,h4,⟨fun ha=>?_,fun ha=>?_⟩,fun g j c u a b=>q2 g j c u a (by simpa using b),q3⟩,d,hd,Ed h3⟩
   ·cases z with
    | agg cs=>exact⟨cs,rfl⟩
    | _=>simp[FK,ha]at h6
   cases z with
   | agg cs=>simp[FK,ha]at h6
   | _=>rfl
  simp at h
 cases h
end Go.Av
namespace Go.Proofs.YtjdnhamngpafmaaGreat
open Go.Av
def aT:eZ
 | 1=>some ⟨1,8,[.v .nilFunc],.other⟩
 | 2=>some ⟨1,8,[.v (.int .i64 0)],.other⟩
 | 3=>some ⟨1,8,[.v (.int .i64 0)],.other⟩
 | 4=>some ⟨1,1,[.v (.bool false)],.other⟩
 | 5=>some ⟨1,1,[.v (.int .u8 0)],.other⟩
 | 9=>some ⟨1,16,[.v (.string ByteArray.empty)],.other⟩
 | 22=>some ⟨1,24,[.aC 2 [] .ex],.slice 34⟩
 | 24=>some ⟨2,32,[.aC 2 [] .ex,.v (.int .i64 0)],.struct [(0,22),(1,3)]⟩
 | 26=>some ⟨1,8,[.v (.int .i64 0)],.other⟩
 | 32=>some ⟨1,24,[.aC 7 [] .ex],.slice 50⟩
 | 34=>some ⟨2,32,[.v (.int .i64 0),.aC 7 [] .ex],.struct [(0,3),(1,32)]⟩
 | 35=>some ⟨1,24,[.aC 3 [] .ex],.slice 43⟩
 | 38=>some ⟨1,24,[.aC 1 [] .ex],.slice 41⟩
 | 41=>some ⟨1,24,[.aC 1 [] .ex],.slice 3⟩
 | 43=>some ⟨3,40,[.v (.int .i64 0),.aC 1 [] .ex,.v (.int .i64 0)],.struct [(0,3),(1,41),(2,3)]⟩
 | 45=>some ⟨1,24,[.aC 2 [] .ex],.slice 82⟩
 | 47=>some ⟨5,72,[.v (.int .i64 0),.v (.int .i64 0),.v (.int .i64 0),.aC 1 [] .ex,.aC 2 [] .ex],.struct [(0,3),(1,3),(2,3),(3,41),(4,45)]⟩
 | 48=>some ⟨1,24,[.aC 4 [] .ex],.slice 65⟩
 | 50=>some ⟨7,120,[.aC 1 [] .ex,.aC 4 [] .ex,.v (.int .i64 0),.v (.int .i64 0),.v (.int .i64 0),.aC 1 [] .ex,.aC 2 [] .ex],.struct [(0,41),(1,48),(2,47)]⟩
 | 56=>some ⟨1,24,[.aC 1 [] .ex],.slice 4⟩
 | 65=>some ⟨4,48,[.v (.int .i64 0),.v (.int .i64 0),.v (.int .i64 0),.aC 1 [] .ex],.struct [(0,3),(1,3),(2,3),(3,41)]⟩
 | 67=>some ⟨3,40,[.aC 1 [] .ex,.v (.int .i64 0),.v (.int .i64 0)],.struct [(0,41),(1,3),(2,3)]⟩
 | 77=>some ⟨1,24,[.aC 2 [] .ex],.slice 79⟩
 | 79=>some ⟨2,16,[.v (.int .i64 0),.v (.int .i64 0)],.array 2 3⟩
 | 82=>some ⟨2,32,[.v (.int .i64 0),.aC 1 [] .ex],.struct [(0,3),(1,41)]⟩
 | 83=>some ⟨1,24,[.aC 2 [] .ex],.slice 87⟩
 | 87=>some ⟨2,16,[.v (.int .i64 0),.v (.int .i64 0)],.struct [(0,3),(1,3)]⟩
 | 97=>some ⟨1,8,[.v .nilFunc],.other⟩
 | 102=>some ⟨1,8,[.v (.pointer none)],.other⟩
 | 103=>some ⟨1,8,[.v (.map none)],.map 3 138⟩
 | 105=>some ⟨3,40,[.v (.int .i64 0),.aC 7 [] .ex,.v (.map none)],.struct [(0,34),(2,103)]⟩
 | 110=>some ⟨1,8,[.v (.int .u64 0)],.other⟩
 | 112=>some ⟨1,8,[.v .nilFunc],.other⟩
 | 120=>some ⟨4,80,[.v (.int .i64 0),.aC 7 [] .ex,.aC 1 [] .ex,.aC 1 [] .ex],.struct [(0,34),(2,41),(3,38)]⟩
 | 121=>some ⟨1,8,[.v (.pointer none)],.other⟩
 | 122=>some ⟨1,24,[.aC 1 [] .ex],.slice 56⟩
 | 124=>some ⟨1,24,[.aC 1 [] .ex],.slice 162⟩
 | 126=>some ⟨9,168,[.v (.int .i64 0),.aC 7 [] .ex,.aC 1 [] .ex,.aC 1 [] .ex,.aC 1 [] .ex,.v (.int .i64 0),.v (.int .i64 0),.aC 7 [] .ex,.aC 1 [] .ex],.struct [(0,120),(4,122),(5,3),(6,34),(8,124)]⟩
 | 129=>some ⟨1,8,[.v (.pointer none)],.other⟩
 | 130=>some ⟨1,24,[.aC 1 [] .ex],.slice 172⟩
 | 132=>some ⟨9,112,[.aC 2 [] .ex,.v (.int .i64 0),.aC 1 [] .ex,.v (.int .i64 0),.v (.bool false),.v (.bool false),.aC 1 [] .ex,.v (.int .i64 0),.v (.int .i64 0)],.struct [(0,24),(2,130),(3,3),(4,4),(5,4),(6,67)]⟩
 | 138=>some ⟨2,16,[.v (.int .i64 0),.v (.int .i64 0)],.struct [(0,3),(1,3)]⟩
 | 139=>some ⟨1,24,[.aC 2 [] .ex],.slice 142⟩
 | 140=>some ⟨1,8,[.v (.int .u64 0)],.other⟩
 | 142=>some ⟨2,16,[.v (.int .u64 0),.v (.int .u64 0)],.array 2 140⟩
 | 148=>some ⟨2,48,[.aC 1 [] .ex,.aC 1 [] .ex],.struct [(0,41),(1,41)]⟩
 | 162=>some ⟨1,8,[.v (.map none)],.map 3 3⟩
 | 166=>some ⟨2,16,[.v (.int .i64 0),.v (.int .i64 0)],.struct [(0,3),(1,3)]⟩
 | 167=>some ⟨1,24,[.aC 2 [] .ex],.slice 166⟩
 | 168=>some ⟨1,8,[.v (.pointer none)],.other⟩
 | 171=>some ⟨1,24,[.aC 4 [] .ex],.slice 178⟩
 | 172=>some ⟨1,8,[.v (.pointer none)],.other⟩
 | 173=>some ⟨1,8,[.v (.map none)],.map 3 178⟩
 | 175=>some ⟨5,40,[.v (.int .i64 0),.v (.int .i64 0),.v (.int .i64 0),.v (.int .i64 0),.v (.map none)],.struct [(0,3),(1,3),(2,3),(3,3),(4,173)]⟩
 | 176=>some ⟨1,8,[.v (.pointer none)],.other⟩
 | 178=>some ⟨4,48,[.v (.int .i64 0),.v (.int .i64 0),.aC 4 [] .ex,.v (.pointer none)],.struct [(0,3),(1,3),(2,171),(3,176)]⟩
 | 187=>some ⟨1,8,[.v .nilFunc],.other⟩
 | 191=>some ⟨1,8,[.v (.int .u64 0)],.other⟩
 | 195=>some ⟨1,8,[.v (.pointer none)],.other⟩
 | 206=>some ⟨1,8,[.v .nilFunc],.other⟩
 | 211=>some ⟨1,8,[.v (.pointer none)],.other⟩
 | _=>none
theorem Wt:aT 1=some ⟨1,8,[.v .nilFunc],.other⟩:=rfl
theorem Wu:aT 2=some ⟨1,8,[.v (.int .i64 0)],.other⟩:=rfl
theorem Wv:aT 3=some ⟨1,8,[.v (.int .i64 0)],.other⟩:=rfl
theorem Ww:aT 4=some ⟨1,1,[.v (.bool false)],.other⟩:=rfl
theorem Wx:aT 5=some ⟨1,1,[.v (.int .u8 0)],.other⟩:=rfl
theorem Wy:aT 9=some ⟨1,16,[.v (.string ByteArray.empty)],.other⟩:=rfl
theorem S7:aT 22=some ⟨1,24,[.aC 2 [] .ex],.slice 34⟩:=rfl
theorem S8:aT 24=some ⟨2,32,[.aC 2 [] .ex,.v (.int .i64 0)],.struct [(0,22),(1,3)]⟩:=rfl
theorem S9:aT 26=some ⟨1,8,[.v (.int .i64 0)],.other⟩:=rfl
theorem FU:aT 32=some ⟨1,24,[.aC 7 [] .ex],.slice 50⟩:=rfl
theorem S':aT 34=some ⟨2,32,[.v (.int .i64 0),.aC 7 [] .ex],.struct [(0,3),(1,32)]⟩:=rfl
theorem Ta:aT 35=some ⟨1,24,[.aC 3 [] .ex],.slice 43⟩:=rfl
theorem Tb:aT 38=some ⟨1,24,[.aC 1 [] .ex],.slice 41⟩:=rfl
theorem Tc:aT 41=some ⟨1,24,[.aC 1 [] .ex],.slice 3⟩:=rfl
theorem Td:aT 43=some ⟨3,40,[.v (.int .i64 0),.aC 1 [] .ex,.v (.int .i64 0)],.struct [(0,3),(1,41),(2,3)]⟩:=rfl
theorem Te:aT 45=some ⟨1,24,[.aC 2 [] .ex],.slice 82⟩:=rfl
theorem Tf:aT 47=some ⟨5,72,[.v (.int .i64 0),.v (.int .i64 0),.v (.int .i64 0),.aC 1 [] .ex,.aC 2 [] .ex],.struct [(0,3),(1,3),(2,3),(3,41),(4,45)]⟩:=rfl
theorem Tg:aT 48=some ⟨1,24,[.aC 4 [] .ex],.slice 65⟩:=rfl
theorem FV:aT 50=some ⟨7,120,[.aC 1 [] .ex,.aC 4 [] .ex,.v (.int .i64 0),.v (.int .i64 0),.v (.int .i64 0),.aC 1 [] .ex,.aC 2 [] .ex],.struct [(0,41),(1,48),(2,47)]⟩:=rfl
theorem Th:aT 56=some ⟨1,24,[.aC 1 [] .ex],.slice 4⟩:=rfl
theorem Ti:aT 65=some ⟨4,48,[.v (.int .i64 0),.v (.int .i64 0),.v (.int .i64 0),.aC 1 [] .ex],.struct [(0,3),(1,3),(2,3),(3,41)]⟩:=rfl
theorem Tj:aT 67=some ⟨3,40,[.aC 1 [] .ex,.v (.int .i64 0),.v (.int .i64 0)],.struct [(0,41),(1,3),(2,3)]⟩:=rfl
theorem Tk:aT 77=some ⟨1,24,[.aC 2 [] .ex],.slice 79⟩:=rfl
theorem Tm:aT 79=some ⟨2,16,[.v (.int .i64 0),.v (.int .i64 0)],.array 2 3⟩:=rfl
theorem Tn:aT 82=some ⟨2,32,[.v (.int .i64 0),.aC 1 [] .ex],.struct [(0,3),(1,41)]⟩:=rfl
theorem To:aT 83=some ⟨1,24,[.aC 2 [] .ex],.slice 87⟩:=rfl
theorem Tp:aT 87=some ⟨2,16,[.v (.int .i64 0),.v (.int .i64 0)],.struct [(0,3),(1,3)]⟩:=rfl
theorem Tq:aT 97=some ⟨1,8,[.v .nilFunc],.other⟩:=rfl
theorem PC:aT 102=some ⟨1,8,[.v (.pointer none)],.other⟩:=rfl
theorem PD:aT 103=some ⟨1,8,[.v (.map none)],.map 3 138⟩:=rfl
theorem PE:aT 105=some ⟨3,40,[.v (.int .i64 0),.aC 7 [] .ex,.v (.map none)],.struct [(0,34),(2,103)]⟩:=rfl
theorem PF:aT 110=some ⟨1,8,[.v (.int .u64 0)],.other⟩:=rfl
theorem PG:aT 112=some ⟨1,8,[.v .nilFunc],.other⟩:=rfl
theorem GZ:aT 120=some ⟨4,80,[.v (.int .i64 0),.aC 7 [] .ex,.aC 1 [] .ex,.aC 1 [] .ex],.struct [(0,34),(2,41),(3,38)]⟩:=rfl
theorem PH:aT 121=some ⟨1,8,[.v (.pointer none)],.other⟩:=rfl
theorem PI:aT 122=some ⟨1,24,[.aC 1 [] .ex],.slice 56⟩:=rfl
theorem G0:aT 124=some ⟨1,24,[.aC 1 [] .ex],.slice 162⟩:=rfl
theorem PJ:aT 126=some ⟨9,168,[.v (.int .i64 0),.aC 7 [] .ex,.aC 1 [] .ex,.aC 1 [] .ex,.aC 1 [] .ex,.v (.int .i64 0),.v (.int .i64 0),.aC 7 [] .ex,.aC 1 [] .ex],.struct [(0,120),(4,122),(5,3),(6,34),(8,124)]⟩:=rfl
theorem PK:aT 129=some ⟨1,8,[.v (.pointer none)],.other⟩:=rfl
theorem PL:aT 130=some ⟨1,24,[.aC 1 [] .ex],.slice 172⟩:=rfl
theorem PM:aT 132=some ⟨9,112,[.aC 2 [] .ex,.v (.int .i64 0),.aC 1 [] .ex,.v (.int .i64 0),.v (.bool false),.v (.bool false),.aC 1 [] .ex,.v (.int .i64 0),.v (.int .i64 0)],.struct [(0,24),(2,130),(3,3),(4,4),(5,4),(6,67)]⟩:=rfl
theorem PN:aT 138=some ⟨2,16,[.v (.int .i64 0),.v (.int .i64 0)],.struct [(0,3),(1,3)]⟩:=rfl
theorem PQ:aT 139=some ⟨1,24,[.aC 2 [] .ex],.slice 142⟩:=rfl
theorem G1:aT 140=some ⟨1,8,[.v (.int .u64 0)],.other⟩:=rfl
theorem PR:aT 142=some ⟨2,16,[.v (.int .u64 0),.v (.int .u64 0)],.array 2 140⟩:=rfl
theorem PS:aT 148=some ⟨2,48,[.aC 1 [] .ex,.aC 1 [] .ex],.struct [(0,41),(1,41)]⟩:=rfl
theorem G2:aT 162=some ⟨1,8,[.v (.map none)],.map 3 3⟩:=rfl
theorem PT:aT 166=some ⟨2,16,[.v (.int .i64 0),.v (.int .i64 0)],.struct [(0,3),(1,3)]⟩:=rfl
theorem PU:aT 167=some ⟨1,24,[.aC 2 [] .ex],.slice 166⟩:=rfl
theorem PV:aT 168=some ⟨1,8,[.v (.pointer none)],.other⟩:=rfl
theorem PW:aT 171=some ⟨1,24,[.aC 4 [] .ex],.slice 178⟩:=rfl
theorem PX:aT 172=some ⟨1,8,[.v (.pointer none)],.other⟩:=rfl
theorem PY:aT 173=some ⟨1,8,[.v (.map none)],.map 3 178⟩:=rfl
theorem PZ:aT 175=some ⟨5,40,[.v (.int .i64 0),.v (.int .i64 0),.v (.int .i64 0),.v (.int .i64 0),.v (.map none)],.struct [(0,3),(1,3),(2,3),(3,3),(4,173)]⟩:=rfl
theorem P0:aT 176=some ⟨1,8,[.v (.pointer none)],.other⟩:=rfl
theorem P1:aT 178=some ⟨4,48,[.v (.int .i64 0),.v (.int .i64 0),.aC 4 [] .ex,.v (.pointer none)],.struct [(0,3),(1,3),(2,171),(3,176)]⟩:=rfl
theorem P3:aT 187=some ⟨1,8,[.v .nilFunc],.other⟩:=rfl
theorem P4:aT 191=some ⟨1,8,[.v (.int .u64 0)],.other⟩:=rfl
theorem P5:aT 195=some ⟨1,8,[.v (.pointer none)],.other⟩:=rfl
theorem P6:aT 206=some ⟨1,8,[.v .nilFunc],.other⟩:=rfl
theorem P7:aT 211=some ⟨1,8,[.v (.pointer none)],.other⟩:=rfl
theorem Ts:da Go.Proofs.Tryz.prog 1 ⟨1,8,[.v .nilFunc],.other⟩=true:=by kernel_rfl
theorem Tt:da Go.Proofs.Tryz.prog 2 ⟨1,8,[.v (.int .i64 0)],.other⟩=true:=by kernel_rfl
theorem Tu:da Go.Proofs.Tryz.prog 3 ⟨1,8,[.v (.int .i64 0)],.other⟩=true:=by kernel_rfl
theorem Tv:da Go.Proofs.Tryz.prog 4 ⟨1,1,[.v (.bool false)],.other⟩=true:=by kernel_rfl
theorem Tw:da Go.Proofs.Tryz.prog 5 ⟨1,1,[.v (.int .u8 0)],.other⟩=true:=by kernel_rfl
theorem Tx:da Go.Proofs.Tryz.prog 9 ⟨1,16,[.v (.string ByteArray.empty)],.other⟩=true:=by kernel_rfl
theorem P8:da Go.Proofs.Tryz.prog 22 ⟨1,24,[.aC 2 [] .ex],.slice 34⟩=true:=by kernel_rfl
theorem P9:da Go.Proofs.Tryz.prog 24 ⟨2,32,[.aC 2 [] .ex,.v (.int .i64 0)],.struct [(0,22),(1,3)]⟩=true:=by kernel_rfl
theorem P':da Go.Proofs.Tryz.prog 26 ⟨1,8,[.v (.int .i64 0)],.other⟩=true:=by kernel_rfl
theorem Qa:da Go.Proofs.Tryz.prog 32 ⟨1,24,[.aC 7 [] .ex],.slice 50⟩=true:=by kernel_rfl
theorem Qb:da Go.Proofs.Tryz.prog 34 ⟨2,32,[.v (.int .i64 0),.aC 7 [] .ex],.struct [(0,3),(1,32)]⟩=true:=by kernel_rfl
theorem Qc:da Go.Proofs.Tryz.prog 35 ⟨1,24,[.aC 3 [] .ex],.slice 43⟩=true:=by kernel_rfl
theorem Qd:da Go.Proofs.Tryz.prog 38 ⟨1,24,[.aC 1 [] .ex],.slice 41⟩=true:=by kernel_rfl
theorem Qe:da Go.Proofs.Tryz.prog 41 ⟨1,24,[.aC 1 [] .ex],.slice 3⟩=true:=by kernel_rfl
theorem Qf:da Go.Proofs.Tryz.prog 43 ⟨3,40,[.v (.int .i64 0),.aC 1 [] .ex,.v (.int .i64 0)],.struct [(0,3),(1,41),(2,3)]⟩=true:=by kernel_rfl
theorem Qg:da Go.Proofs.Tryz.prog 45 ⟨1,24,[.aC 2 [] .ex],.slice 82⟩=true:=by kernel_rfl
theorem Qh:da Go.Proofs.Tryz.prog 47 ⟨5,72,[.v (.int .i64 0),.v (.int .i64 0),.v (.int .i64 0),.aC 1 [] .ex,.aC 2 [] .ex],.struct [(0,3),(1,3),(2,3),(3,41),(4,45)]⟩=true:=by kernel_rfl
theorem Qi:da Go.Proofs.Tryz.prog 48 ⟨1,24,[.aC 4 [] .ex],.slice 65⟩=true:=by kernel_rfl
theorem Qj:da Go.Proofs.Tryz.prog 50 ⟨7,120,[.aC 1 [] .ex,.aC 4 [] .ex,.v (.int .i64 0),.v (.int .i64 0),.v (.int .i64 0),.aC 1 [] .ex,.aC 2 [] .ex],.struct [(0,41),(1,48),(2,47)]⟩=true:=by kernel_rfl
theorem Qk:da Go.Proofs.Tryz.prog 56 ⟨1,24,[.aC 1 [] .ex],.slice 4⟩=true:=by kernel_rfl
theorem Ql:da Go.Proofs.Tryz.prog 65 ⟨4,48,[.v (.int .i64 0),.v (.int .i64 0),.v (.int .i64 0),.aC 1 [] .ex],.struct [(0,3),(1,3),(2,3),(3,41)]⟩=true:=by kernel_rfl
theorem Qm:da Go.Proofs.Tryz.prog 67 ⟨3,40,[.aC 1 [] .ex,.v (.int .i64 0),.v (.int .i64 0)],.struct [(0,41),(1,3),(2,3)]⟩=true:=by kernel_rfl
theorem Qn:da Go.Proofs.Tryz.prog 77 ⟨1,24,[.aC 2 [] .ex],.slice 79⟩=true:=by kernel_rfl
theorem Qo:da Go.Proofs.Tryz.prog 79 ⟨2,16,[.v (.int .i64 0),.v (.int .i64 0)],.array 2 3⟩=true:=by kernel_rfl
theorem Qp:da Go.Proofs.Tryz.prog 82 ⟨2,32,[.v (.int .i64 0),.aC 1 [] .ex],.struct [(0,3),(1,41)]⟩=true:=by kernel_rfl
theorem Qq:da Go.Proofs.Tryz.prog 83 ⟨1,24,[.aC 2 [] .ex],.slice 87⟩=true:=by kernel_rfl
theorem Qr:da Go.Proofs.Tryz.prog 87 ⟨2,16,[.v (.int .i64 0),.v (.int .i64 0)],.struct [(0,3),(1,3)]⟩=true:=by kernel_rfl
theorem Qs:da Go.Proofs.Tryz.prog 97 ⟨1,8,[.v .nilFunc],.other⟩=true:=by kernel_rfl
theorem Mc:da Go.Proofs.Tryz.prog 102 ⟨1,8,[.v (.pointer none)],.other⟩=true:=by kernel_rfl
theorem Me:da Go.Proofs.Tryz.prog 103 ⟨1,8,[.v (.map none)],.map 3 138⟩=true:=by kernel_rfl
theorem Mf:da Go.Proofs.Tryz.prog 105 ⟨3,40,[.v (.int .i64 0),.aC 7 [] .ex,.v (.map none)],.struct [(0,34),(2,103)]⟩=true:=by kernel_rfl
theorem Mg:da Go.Proofs.Tryz.prog 110 ⟨1,8,[.v (.int .u64 0)],.other⟩=true:=by kernel_rfl
theorem Mh:da Go.Proofs.Tryz.prog 112 ⟨1,8,[.v .nilFunc],.other⟩=true:=by kernel_rfl
theorem Mi:da Go.Proofs.Tryz.prog 120 ⟨4,80,[.v (.int .i64 0),.aC 7 [] .ex,.aC 1 [] .ex,.aC 1 [] .ex],.struct [(0,34),(2,41),(3,38)]⟩=true:=by kernel_rfl
theorem Mj:da Go.Proofs.Tryz.prog 121 ⟨1,8,[.v (.pointer none)],.other⟩=true:=by kernel_rfl
theorem Mk:da Go.Proofs.Tryz.prog 122 ⟨1,24,[.aC 1 [] .ex],.slice 56⟩=true:=by kernel_rfl
theorem Ml:da Go.Proofs.Tryz.prog 124 ⟨1,24,[.aC 1 [] .ex],.slice 162⟩=true:=by kernel_rfl
theorem Mm:da Go.Proofs.Tryz.prog 126 ⟨9,168,[.v (.int .i64 0),.aC 7 [] .ex,.aC 1 [] .ex,.aC 1 [] .ex,.aC 1 [] .ex,.v (.int .i64 0),.v (.int .i64 0),.aC 7 [] .ex,.aC 1 [] .ex],.struct [(0,120),(4,122),(5,3),(6,34),(8,124)]⟩=true:=by kernel_rfl
theorem Mn:da Go.Proofs.Tryz.prog 129 ⟨1,8,[.v (.pointer none)],.other⟩=true:=by kernel_rfl
theorem Mo:da Go.Proofs.Tryz.prog 130 ⟨1,24,[.aC 1 [] .ex],.slice 172⟩=true:=by kernel_rfl
theorem Mp:da Go.Proofs.Tryz.prog 132 ⟨9,112,[.aC 2 [] .ex,.v (.int .i64 0),.aC 1 [] .ex,.v (.int .i64 0),.v (.bool false),.v (.bool false),.aC 1 [] .ex,.v (.int .i64 0),.v (.int .i64 0)],.struct [(0,24),(2,130),(3,3),(4,4),(5,4),(6,67)]⟩=true:=by kernel_rfl
theorem Mq:da Go.Proofs.Tryz.prog 138 ⟨2,16,[.v (.int .i64 0),.v (.int .i64 0)],.struct [(0,3),(1,3)]⟩=true:=by kernel_rfl
theorem Mr:da Go.Proofs.Tryz.prog 139 ⟨1,24,[.aC 2 [] .ex],.slice 142⟩=true:=by kernel_rfl
theorem Ms:da Go.Proofs.Tryz.prog 140 ⟨1,8,[.v (.int .u64 0)],.other⟩=true:=by kernel_rfl
theorem Mt:da Go.Proofs.Tryz.prog 142 ⟨2,16,[.v (.int .u64 0),.v (.int .u64 0)],.array 2 140⟩=true:=by kernel_rfl
theorem Mu:da Go.Proofs.Tryz.prog 148 ⟨2,48,[.aC 1 [] .ex,.aC 1 [] .ex],.struct [(0,41),(1,41)]⟩=true:=by kernel_rfl
theorem Mw:da Go.Proofs.Tryz.prog 162 ⟨1,8,[.v (.map none)],.map 3 3⟩=true:=by kernel_rfl
theorem Mx:da Go.Proofs.Tryz.prog 166 ⟨2,16,[.v (.int .i64 0),.v (.int .i64 0)],.struct [(0,3),(1,3)]⟩=true:=by kernel_rfl
theorem My:da Go.Proofs.Tryz.prog 167 ⟨1,24,[.aC 2 [] .ex],.slice 166⟩=true:=by kernel_rfl
theorem Mz:da Go.Proofs.Tryz.prog 168 ⟨1,8,[.v (.pointer none)],.other⟩=true:=by kernel_rfl
theorem MA:da Go.Proofs.Tryz.prog 171 ⟨1,24,[.aC 4 [] .ex],.slice 178⟩=true:=by kernel_rfl
theorem MB:da Go.Proofs.Tryz.prog 172 ⟨1,8,[.v (.pointer none)],.other⟩=true:=by kernel_rfl
theorem MC:da Go.Proofs.Tryz.prog 173 ⟨1,8,[.v (.map none)],.map 3 178⟩=true:=by kernel_rfl
theorem MD:da Go.Proofs.Tryz.prog 175 ⟨5,40,[.v (.int .i64 0),.v (.int .i64 0),.v (.int .i64 0),.v (.int .i64 0),.v (.map none)],.struct [(0,3),(1,3),(2,3),(3,3),(4,173)]⟩=true:=by kernel_rfl
theorem ME:da Go.Proofs.Tryz.prog 176 ⟨1,8,[.v (.pointer none)],.other⟩=true:=by kernel_rfl
theorem MF:da Go.Proofs.Tryz.prog 178 ⟨4,48,[.v (.int .i64 0),.v (.int .i64 0),.aC 4 [] .ex,.v (.pointer none)],.struct [(0,3),(1,3),(2,171),(3,176)]⟩=true:=by kernel_rfl
theorem MG:da Go.Proofs.Tryz.prog 187 ⟨1,8,[.v .nilFunc],.other⟩=true:=by kernel_rfl
theorem MH:da Go.Proofs.Tryz.prog 191 ⟨1,8,[.v (.int .u64 0)],.other⟩=true:=by kernel_rfl
theorem MI:da Go.Proofs.Tryz.prog 195 ⟨1,8,[.v (.pointer none)],.other⟩=true:=by kernel_rfl
theorem MJ:da Go.Proofs.Tryz.prog 206 ⟨1,8,[.v .nilFunc],.other⟩=true:=by kernel_rfl
theorem MK:da Go.Proofs.Tryz.prog 211 ⟨1,8,[.v (.pointer none)],.other⟩=true:=by kernel_rfl
set_option maxRecDepth 100000 in
theorem hT:b6 Go.Proofs.Tryz.prog aT:=by
 intro t ti h;unfold aT at h;split at h
 ·cases h;exact a7 Ts
 ·cases h;exact a7 Tt
 ·cases h;exact a7 Tu
 ·cases h;exact a7 Tv
 ·cases h;exact a7 Tw
 ·cases h;exact a7 Tx
 ·cases h;exact a7 P8
 ·cases h;exact a7 P9
 ·cases h;exact a7 P'
 ·cases h;exact a7 Qa
 ·cases h;exact a7 Qb
 ·cases h;exact a7 Qc
 ·cases h;exact a7 Qd
 ·cases h;exact a7 Qe
 ·cases h;exact a7 Qf
 ·cases h;exact a7 Qg
 ·cases h;exact a7 Qh
 ·cases h;exact a7 Qi
 ·cases h;exact a7 Qj
 ·cases h;exact a7 Qk
 ·cases h;exact a7 Ql
 ·cases h;exact a7 Qm
 ·cases h;exact a7 Qn
 ·cases h;exact a7 Qo
 ·cases h;exact a7 Qp
 ·cases h;exact a7 Qq
 ·cases h;exact a7 Qr
 ·cases h;exact a7 Qs
 ·cases h;exact a7 Mc
 ·cases h;exact a7 Me
 ·cases h;exact a7 Mf
 ·cases h;exact a7 Mg
 ·cases h;exact a7 Mh
 ·cases h;exact a7 Mi
 ·cases h;exact a7 Mj
 ·cases h;exact a7 Mk
 ·cases h;exact a7 Ml
 ·cases h;exact a7 Mm
 ·cases h;exact a7 Mn
 ·cases h;exact a7 Mo
 ·cases h;exact a7 Mp
 ·cases h;exact a7 Mq
 ·cases h;exact a7 Mr
 ·cases h;exact a7 Ms
 ·cases h;exact a7 Mt
 ·cases h;exact a7 Mu
 ·cases h;exact a7 Mw
 ·cases h;exact a7 Mx
 ·cases h;exact a7 My
 ·cases h;exact a7 Mz
 ·cases h;exact a7 MA
 ·cases h;exact a7 MB
 ·cases h;exact a7 MC
 ·cases h;exact a7 MD
 ·cases h;exact a7 ME
 ·cases h;exact a7 MF
 ·cases h;exact a7 MG
 ·cases h;exact a7 MH
 ·cases h;exact a7 MI
 ·cases h;exact a7 MJ
 ·cases h;exact a7 MK
 cases h
theorem hm:Go.Proofs.Tryz.prog.follows .mixedOrders=true:=by kernel_rfl
structure Ins where
 to:Int
 op:Int
 n:Int
 args:List Int
structure Edge where
 block:Int
 args:List Int
structure Term where
 kind:Int
 arg:Int
 n:Int
 cases:List Int
 to:List Edge
structure Block where
 params:List Int
 ins:List Ins
 term:Term
structure Func where
 name:Int
 blocks:List Block
structure bY where
 fns:List Func
 main:Int
abbrev aI(n:Int):ae:=.v (.int .i64 n)
abbrev aK(l:List Int):ae:=.aC 1 (l.map aI) .sh
def Ins.enc(i:Ins):ae:=.agg [aI i.to,aI i.op,aI i.n,aK i.args]
abbrev bf(l:List Ins):ae:=.aC 4 (l.map Ins.enc) .sh
def Edge.enc(e:Edge):ae:=.agg [aI e.block,aK e.args]
abbrev aH(l:List Edge):ae:=.aC 2 (l.map Edge.enc) .sh
def Term.enc(t:Term):ae:=.agg [aI t.kind,aI t.arg,aI t.n,aK t.cases,aH t.to]
def Block.enc(b:Block):ae:=.agg [aK b.params,bf b.ins,aI b.term.kind,aI b.term.arg,aI b.term.n,aK b.term.cases,aH b.term.to]
abbrev ay(l:List Block):ae:=.aC 7 (l.map Block.enc) .sh
def Func.enc(f:Func):ae:=.agg [aI f.name,ay f.blocks]
abbrev bn(l:List Func):ae:=.aC 2 (l.map Func.enc) .sh
def bY.enc(u:bY):ae:=.agg [bn u.fns,aI u.main]
theorem az(n:Nat)(l:List Int):aw n (l.map aI):=by
 rw[aV];intro x hx;obtain⟨c,_,rfl⟩:=List.mem_map.1 hx;trivial
theorem Js(l:List Int):(l.map aI).map ae.share=l.map aI:=by
 rw[List.map_map];rfl
theorem Ins.ak(i:Ins):i.enc.cells=[aI i.to,aI i.op,aI i.n,aK i.args]:=rfl
theorem Ins.fold(i:Ins):ae.agg [aI i.to,aI i.op,aI i.n,aK i.args]=i.enc:=rfl
theorem Ins.aQ(n:Nat)(i:Ins):i.enc.upto n:=by
 simp only[Ins.enc,ae.upto,aw,and_true,true_and,az]
theorem Ins.ag(n:Nat)(l:List Ins):aw n (l.map Ins.enc):=by
 rw[aV];intro x hx;obtain⟨c,_,rfl⟩:=List.mem_map.1 hx;exact c.aQ n
theorem Ins.av(i:Ins):i.enc.flat:=trivial
theorem Ins.al(i:Ins):i.enc.share=i.enc:=rfl
theorem Ins.du(l:List Ins):(l.map Ins.enc).map ae.share=l.map Ins.enc:=by
 rw[List.map_map];rfl
theorem Edge.ak(e:Edge):e.enc.cells=[aI e.block,aK e.args]:=rfl
theorem Edge.fold(e:Edge):ae.agg [aI e.block,aK e.args]=e.enc:=rfl
theorem Edge.aQ(n:Nat)(e:Edge):e.enc.upto n:=by
 simp only[Edge.enc,ae.upto,aw,and_true,true_and,az]
theorem Edge.ag(n:Nat)(l:List Edge):aw n (l.map Edge.enc):=by
 rw[aV];intro x hx;obtain⟨c,_,rfl⟩:=List.mem_map.1 hx;exact c.aQ n
theorem Edge.av(e:Edge):e.enc.flat:=trivial
theorem Edge.al(e:Edge):e.enc.share=e.enc:=rfl
theorem Edge.du(l:List Edge):(l.map Edge.enc).map ae.share=l.map Edge.enc:=by
 rw[List.map_map];rfl
theorem Term.ak(t:Term):t.enc.cells=[aI t.kind,aI t.arg,aI t.n,aK t.cases,aH t.to]:=rfl
theorem Term.fold(t:Term):ae.agg [aI t.kind,aI t.arg,aI t.n,aK t.cases,aH t.to]=t.enc:=rfl
theorem Term.aQ(n:Nat)(t:Term):t.enc.upto n:=by
 simp only[Term.enc,ae.upto,aw,and_true,true_and,az,Edge.ag]
theorem Term.ag(n:Nat)(l:List Term):aw n (l.map Term.enc):=by
 rw[aV];intro x hx;obtain⟨c,_,rfl⟩:=List.mem_map.1 hx;exact c.aQ n
theorem Term.av(t:Term):t.enc.flat:=trivial
theorem Term.al(t:Term):t.enc.share=t.enc:=rfl
theorem Term.du(l:List Term):(l.map Term.enc).map ae.share=l.map Term.enc:=by
 rw[List.map_map];rfl
theorem Block.ak(b:Block):b.enc.cells=[aK b.params,bf b.ins,aI b.term.kind,aI b.term.arg,aI b.term.n,aK b.term.cases,aH b.term.to]:=rfl
theorem Block.fold(b:Block):ae.agg [aK b.params,bf b.ins,aI b.term.kind,aI b.term.arg,aI b.term.n,aK b.term.cases,aH b.term.to]=b.enc:=rfl
theorem Block.aQ(n:Nat)(b:Block):b.enc.upto n:=by
 simp only[Block.enc,ae.upto,aw,and_true,true_and,az,Edge.ag,Ins.ag]
theorem Block.ag(n:Nat)(l:List Block):aw n (l.map Block.enc):=by
 rw[aV];intro x hx;obtain⟨c,_,rfl⟩:=List.mem_map.1 hx;exact c.aQ n
theorem Block.av(b:Block):b.enc.flat:=trivial
theorem Block.al(b:Block):b.enc.share=b.enc:=rfl
theorem Block.du(l:List Block):(l.map Block.enc).map ae.share=l.map Block.enc:=by
 rw[List.map_map];rfl
theorem Func.ak(f:Func):f.enc.cells=[aI f.name,ay f.blocks]:=rfl
theorem Func.fold(f:Func):ae.agg [aI f.name,ay f.blocks]=f.enc:=rfl
theorem Func.aQ(n:Nat)(f:Func):f.enc.upto n:=by
 simp only[Func.enc,ae.upto,aw,and_true,true_and,az,Block.ag]
theorem Func.ag(n:Nat)(l:List Func):aw n (l.map Func.enc):=by
 rw[aV];intro x hx;obtain⟨c,_,rfl⟩:=List.mem_map.1 hx;exact c.aQ n
theorem Func.av(f:Func):f.enc.flat:=trivial
theorem Func.al(f:Func):f.enc.share=f.enc:=rfl
theorem Func.du(l:List Func):(l.map Func.enc).map ae.share=l.map Func.enc:=by
 rw[List.map_map];rfl
theorem bY.ak(u:bY):u.enc.cells=[bn u.fns,aI u.main]:=rfl
theorem bY.fold(u:bY):ae.agg [bn u.fns,aI u.main]=u.enc:=rfl
theorem bY.aQ(n:Nat)(u:bY):u.enc.upto n:=by
 simp only[bY.enc,ae.upto,aw,and_true,true_and,az,Func.ag]
theorem bY.ag(n:Nat)(l:List bY):aw n (l.map bY.enc):=by
 rw[aV];intro x hx;obtain⟨c,_,rfl⟩:=List.mem_map.1 hx;exact c.aQ n
theorem bY.av(u:bY):u.enc.flat:=trivial
theorem bY.al(u:bY):u.enc.share=u.enc:=rfl
theorem bY.du(l:List bY):(l.map bY.enc).map ae.share=l.map bY.enc:=by
 rw[List.map_map];rfl
theorem Y4:E6 Tryz.prog 3=some (.int .i64):=by
 unfold E6;rw[Tryz.underlying3]
def cm(n:Int):Prop:=-9223372036854775808<=n∧n<=9223372036854775807
def iX(l:List Int):Prop:=∀n∈l,cm n
def Ins.fit(i:Ins):Prop:=cm i.to∧cm i.op∧cm i.n∧iX i.args∧i.args.length<=2 ^ 47
def Edge.fit(e:Edge):Prop:=cm e.block∧iX e.args∧e.args.length<=2 ^ 47
def Term.fit(t:Term):Prop:=cm t.kind∧cm t.arg∧cm t.n∧iX t.cases∧t.cases.length<=2 ^ 47∧t.to.length<=2 ^ 47∧∀e∈t.to,e.fit
def Block.fit(b:Block):Prop:=iX b.params∧b.params.length<=2 ^ 47∧b.ins.length<=2 ^ 47∧(∀i∈b.ins,i.fit)∧b.term.fit
def Func.fit(f:Func):Prop:=cm f.name∧f.blocks.length<=2 ^ 47∧∀b∈f.blocks,b.fit
def bY.fit(u:bY):Prop:=cm u.main∧u.fns.length<=2 ^ 47∧∀f∈u.fns,f.fit
inductive SV where
 | mk (kind n:Int) (list:List SV) (arr:Option Nat)
def eP:Option Nat->ae
 | none=>.v (.pointer none)
 | some id=>.mp id 0
namespace SV
def kind:SV->Int|mk k _ _ _=>k
def n:SV->Int|mk _ n _ _=>n
def list:SV->List SV|mk _ _ l _=>l
def arr:SV->Option Nat|mk _ _ _ a=>a
mutual
def enc:SV->ae
 | mk k n l a=>.agg [aI k,aI n,.aC 4 (J' l) .sh,eP a]
def J':List SV->List ae
 | []=>[]
 | p::r=>p.enc::J' r
end
theorem BS:∀l:List SV,J' l=l.map enc
 | []=>by simp[J']
 | p::r=>by simp[J',BS r]
theorem gi(p:SV):p.enc=.agg [aI p.kind,aI p.n,.aC 4 (p.list.map enc) .sh,eP p.arr]:=by
 cases p with
 | mk k n l a=>simp[enc,kind,SV.n,list,arr,BS]
theorem fold(p:SV):ae.agg [aI p.kind,aI p.n,.aC 4 (p.list.map enc) .sh,eP p.arr]=p.enc:=(gi p).symm
theorem jN(k n:Int)(l:List SV)(a:Option Nat):(mk k n l a).enc=.agg [aI k,aI n,.aC 4 (l.map enc) .sh,eP a]:=gi _
theorem ak(p:SV):p.enc.cells=[aI p.kind,aI p.n,.aC 4 (p.list.map enc) .sh,eP p.arr]:=by
 rw[gi];rfl
theorem Ha(p:SV):ae.agg p.enc.cells=p.enc:=by
 rw[ak,fold]
theorem _root_.Go.Proofs.YtjdnhamngpafmaaGreat.cn(a:Option Nat):(eP a).bk=eP a:=by cases a<;>rfl
theorem _root_.Go.Proofs.YtjdnhamngpafmaaGreat.Hu(a:Option Nat):(eP a).scalar:=by cases a<;>trivial
theorem al(p:SV):p.enc.share=p.enc:=by
 rw[gi];have:=cn p.arr;unfold ae.bk at this;simp[ae.share,ae.bk,this]
theorem av(p:SV):p.enc.flat:=by
 rw[gi];trivial
theorem du(l:List SV):(l.map enc).map ae.share=l.map enc:=by
 rw[List.map_map];exact List.map_congr_left fun p _=>al p
theorem dc(p:SV):p.enc.cells.length=4:=by
 rw[ak];rfl
inductive bp(n:Nat):SV->Prop
 | mk {k m:Int} {l:List SV} {a:Option Nat} (ha:∀id,a=some id->id<n) (hl:∀v,v∈l->bp n v):bp n (.mk k m l a)
theorem bp.mono{n m:Nat}(h:n<=m){v:SV}(k:bp n v):bp m v:=by
 induction k with
 | mk ha hl ih=>exact .mk (fun id e=>Nat.lt_of_lt_of_le (ha id e) h) ih
theorem NX{n:Nat}{a:Option Nat}(h:∀id,a=some id->id<n):(eP a).upto n:=by
 cases a with
 | none=>trivial
 | some id=>exact h id rfl
theorem bp.aQ{n:Nat}{p:SV}(h:bp n p):p.enc.upto n:=by
 induction h with
 | mk ha hl ih =>
  rw[jN];simp only[ae.upto,aw,true_and,and_true];refine⟨?_,NX ha⟩;rw[aV];intro x hx;obtain⟨v,hv,rfl⟩:=List.mem_map.1 hx;exact ih v hv
theorem ag{n:Nat}{l:List SV}(h:∀v∈l,bp n v):aw n (l.map enc):=by
 rw[aV];intro x hx;obtain⟨v,hv,rfl⟩:=List.mem_map.1 hx;exact(h v hv).aQ
theorem jM{n:Nat}{l:List SV}(h:∀v∈l,bp n v):aw n (au (l.map enc)):=by
 rw[aV];intro c hc;simp only[au,List.mem_flatMap,List.mem_map]at hc;obtain⟨_,⟨p,hp,rfl⟩,hc⟩:=hc;have:=(h p hp).aQ;rw[gi]at this;rw[ak]at hc;simp only[ae.upto,aV]at this;exact this c hc
theorem Pj(l:List SV):(au (l.map enc)).length=l.length*4:=by
 rw[bE (sz:=4) (fun x hx=>by
  obtain⟨p,_,rfl⟩:=List.mem_map.1 hx;exact p.dc)]
 simp
theorem GX:∀{l:List SV} {k:Nat} {p:SV},l[k]?=some p->((au (l.map enc)).drop (k*4)).take 4=p.enc.cells
 | q::r,0,p,h=>by
  simp only[List.getElem?_cons_zero,Option.some.injEq]at h;subst h;simp only[List.map_cons,au,List.flatMap_cons,Nat.zero_mul,List.drop_zero];rw[List.take_append_of_le_length (by rw[dc];exact Nat.le_refl _),List.take_of_length_le (by rw[dc];exact Nat.le_refl _)]
 | q::r,k+1,p,h=>by
  have ih:=GX (l:=r) (k:=k) (p:=p) (by simpa using h);simp only[List.map_cons,au,List.flatMap_cons]at ih ⊢;rw[List.drop_append,List.drop_of_length_le (by rw[dc];omega),dc,show(k+1)*4-4=k*4 by omega];exact ih
theorem Pk{l:List SV}{k:Nat}(h:k<l.length)(q:SV):bo (au (l.map enc)) (k*4) q.enc.cells=au ((l.set k q).map enc):=by
 induction l generalizing k with
 | nil=>simp at h
 | cons p r ih =>
  cases k with
  | zero =>
   simp only[List.set_cons_zero,List.map_cons,au,List.flatMap_cons,bo,Nat.zero_mul,List.take_zero,List.nil_append,Nat.zero_add,dc];rw[List.drop_append_of_le_length (by rw[dc];exact Nat.le_refl _),List.drop_of_length_le (by rw[dc];exact Nat.le_refl _)];rfl
  | succ k =>
   have:=ih (k:=k) (by simpa using h);simp only[List.set_cons_succ,List.map_cons,au,List.flatMap_cons,bo,dc]at this ⊢;rw[List.take_append,List.drop_append,dc,List.take_of_length_le (by rw[dc];omega),List.drop_of_length_le (by rw[dc];omega),show(k+1)*4-4=k*4 by omega,show(k+1)*4+4-4=k*4+4 by omega,List.nil_append,List.append_assoc,this]
def word(n:Int):SV:=mk 0 n [] none
def zero:SV:=mk 0 0 [] none
inductive Wf(f:Nat)(a:Nat->Prop):SV->Prop
 | mk {k m:Int} {l:List SV} {r:Option Nat}
   (h0:0<=k∧k<=4) (h1:k=0∨k=1->-1073741824<=m∧m<=1073741823) (h2:k=2->0<=m∧m<f) (h3:k=3->∃id,r=some id)
   (h4:k=4->∀v,v∈l->v.kind=0) (hl:l.length<=1000) (hr:∀id,r=some id->a id) (h:∀v,v∈l->Wf f a v):Wf f a (.mk k m l r)
theorem Wf.under{f n:Nat}{a:Nat->Prop}(ha:∀id,a id->id<n){v:SV}(h:Wf f a v):bp n v:=by
 induction h with
 | mk h0 h1 h2 h3 h4 hl hr h ih=>exact .mk (fun id e=>ha id (hr id e)) ih
theorem Wf.mono{f:Nat}{a b:Nat->Prop}(Ky:∀id,a id->b id){v:SV}(h:Wf f a v):Wf f b v:=by
 induction h with
 | mk h0 h1 h2 h3 h4 hl hr h ih=>exact .mk h0 h1 h2 h3 h4 hl (fun id e=>Ky id (hr id e)) ih
theorem Wf.word{f:Nat}{a:Nat->Prop}{n:Int}(h:-1073741824<=n∧n<=1073741823):Wf f a (word n) :=
 .mk (by omega) (fun _=>h) (by omega) (by omega) (by omega) (by simp) (by simp) (by simp)
theorem Wf.zero{f:Nat}{a:Nat->Prop}:Wf f a zero:=Wf.word (n:=0) (by omega)
theorem Wf.num{f:Nat}{a:Nat->Prop}{v:SV}(h:Wf f a v):v.kind=0∨v.kind=1->-1073741824<=v.n∧v.n<=1073741823:=by cases h;assumption
theorem Wf.fn{f:Nat}{a:Nat->Prop}{v:SV}(h:Wf f a v):v.kind=2->0<=v.n∧v.n<f:=by cases h;assumption
theorem Wf.array{f:Nat}{a:Nat->Prop}{v:SV}(h:Wf f a v):v.kind=3->∃id,v.arr=some id:=by cases h;assumption
theorem Wf.vec{f:Nat}{a:Nat->Prop}{v:SV}(h:Wf f a v):v.kind=4->∀x∈v.list,x.kind=0:=by cases h;assumption
theorem Wf.len{f:Nat}{a:Nat->Prop}{v:SV}(h:Wf f a v):v.list.length<=1000:=by cases h;assumption
theorem Wf.ref{f:Nat}{a:Nat->Prop}{v:SV}(h:Wf f a v):∀id,v.arr=some id->a id:=by cases h;assumption
theorem Wf.kids{f:Nat}{a:Nat->Prop}{v:SV}(h:Wf f a v):∀x∈v.list,Wf f a x:=by cases h;assumption
end SV
def iu:List (Int×SV)->Int->Option SV
 | [],_=>none
 | (k,v)::r,key=>if k=key then some v else iu r key
def cJ:List (Int×SV)->Int->SV->List (Int×SV)
 | [],key,y=>[(key,y)]
 | (k,x)::r,key,y=>if k=key then(key,y)::r else(k,x)::cJ r key y
def ic(e:Int×SV):Value×ae:=(.int .i64 e.1,e.2.enc)
theorem px(k l:Int):mE (.int .i64 k) (.int .i64 l)=decide (k=l):=by
 simp[mE]
theorem mJ(es:List (Int×SV))(k:Int):fH (es.map ic) (.int .i64 k)=(iu es k).map SV.enc:=by
 induction es with
 | nil=>rfl
 | cons p r ih =>
  obtain⟨a,v⟩:=p;simp only[List.map_cons,ic,fH,iu,px,decide_eq_true_eq];split
  ·rfl
  exact ih
theorem rZ(es:List (Int×SV))(k:Int)(v:SV):gP (es.map ic) (.int .i64 k) v.enc=(cJ es k v).map ic:=by
 induction es with
 | nil=>rfl
 | cons p r ih =>
  obtain⟨a,x⟩:=p;simp only[List.map_cons,ic,gP,cJ,px,decide_eq_true_eq];split
  ·rfl
  simp only[List.map_cons,ic];rw[<-ih]
def fk(es:List (Int×SV))(k:Int):SV:=(iu es k).getD .zero
theorem yX{es:List (Int×SV)}{k:Int}{v:SV}(h:iu es k=some v):∃e∈es,e.2=v:=by
 induction es with
 | nil=>simp[iu]at h
 | cons p r ih =>
  obtain⟨a,x⟩:=p;simp only[iu]at h;split at h
  ·exact⟨(a,x),by simp,by simpa using h⟩
  obtain⟨e,h1,h2⟩:=ih h;exact⟨e,by simp[h1],h2⟩
theorem jU{es:List (Int×SV)}{k:Int}{v:SV}{e:Int×SV}(h:e∈cJ es k v):e∈es∨e=(k,v):=by
 induction es with
 | nil=>simpa[cJ]using h
 | cons p r ih =>
  obtain⟨a,x⟩:=p;simp only[cJ]at h;split at h
  ·rcases List.mem_cons.1 h with h|h
   ·exact .inr h
   exact .inl (by simp[h])
  rcases List.mem_cons.1 h with h|h
  ·exact .inl (by simp[h])
  rcases ih h with h|h
  ·exact .inl (by simp[h])
  exact .inr h
instance:Inhabited Ins:=⟨⟨0,0,0,[]⟩⟩
instance:Inhabited Edge:=⟨⟨0,[]⟩⟩
instance:Inhabited Term:=⟨⟨0,0,0,[],[]⟩⟩
instance:Inhabited Block:=⟨⟨[],[],default⟩⟩
instance:Inhabited Func:=⟨⟨0,[]⟩⟩
instance:Inhabited SV:=⟨.zero⟩
structure Fr where
 bW:Nat
 dx:Nat
 fn:Int
 blk:Int
 pos:Nat
 to:Int
 vals:List (Int×SV)
structure DF where
 l8:Nat
 eg:Nat
 l:List SV
structure Mach where
 sid:Nat
 frames:List Fr
 heap:List DF
 next:Nat
 left:Int
 short:Bool
 over:Bool
 out:List Int
 fin:Int
 val:Int
def aL(u:bY)(k:Int):Func:=u.fns[k.toNat]?.getD default
def ax(f:Func)(k:Int):Block:=f.blocks[k.toNat]?.getD default
def kP(n:Int):Int:=(n+1073741824) % 2147483648-1073741824
def df(op a b:Int):SV×Int :=
 if op=1 then(.word (kP (a+b)),0)
 else if op=2 then(.word (kP (a-b)),0)
 else if op=3 then(.word (kP (a*b)),0)
 else if op=6 then(.word (if a<b then 1 else 0),0)
 else if op=7 then(.word (if a=b then 1 else 0),0)
 else if b=0 then(.zero,1)
 else if op=4 then(.word (kP (a.tdiv b)),0)
 else(.word (a.tmod b),0)
def lf(l:List SV)(k:Int):Bool:=l.all fun v=>decide (v.kind=k)
def b8(l:List SV)(k:Nat):SV:=l[k]?.getD .zero
def cV(i:Ins)(args:List SV):SV×Int :=
 if i.op=11 then
  if((b8 args 0).kind≠1∧(b8 args 0).kind≠2)∨((b8 args 0).list.length:Int)<=i.n then(.zero,5)else(b8 (b8 args 0).list i.n.toNat,0)
 else if(b8 args 0).kind≠1 then(.zero,5)
 else if i.op=10 then(.word (b8 args 0).n,0)
 else if i.op=12 then(.word (b8 args 0).list.length,0)
 else if(b8 args 1).kind≠0 then(.zero,5)
 else if(b8 args 1).n<0∨((b8 args 0).list.length:Int)<=(b8 args 1).n then(.zero,2)
 else(b8 (b8 args 0).list (b8 args 1).n.toNat,0)
def kY(op:Int):List SV->List SV->List SV
 | a::r,b::s=>(df op a.n b.n).1::kY op r s
 | _,_=>[]
def di(i:Ins)(args:List SV):SV×Int :=
 if i.op=22 then
  if lf args 0 then(.mk 4 0 args none,0)else(.zero,5)
 else if i.op=24 then
  if(b8 args 0).kind≠4∨((b8 args 0).list.length:Int)<=i.n then(.zero,5)else(b8 (b8 args 0).list i.n.toNat,0)
 else if !lf args 4∨(b8 args 0).list.length≠(b8 args 1).list.length then(.zero,5)
 else(.mk 4 0 (kY i.n (b8 args 0).list (b8 args 1).list) none,0)
namespace Mach
def cU(m:Mach)(n:Int):Mach:=if m.left<n then { m with short:=true,over:=true }else { m with left:=m.left-n }
def stop(m:Mach)(e n:Int):Mach:={ m with over:=true,fin:=e,val:=n }
def iW:List DF->Option Nat->List SV
 | [],_=>[]
 | a::r,id=>if id=some a.l8 then a.l else iW r id
def kK:List DF->Option Nat->List SV->List DF
 | [],_,_=>[]
 | a::r,id,l=>if id=some a.l8 then⟨a.l8,a.eg,l⟩::r else a::kK r id l
def bA(m:Mach)(size fill:SV):Mach×SV×Int :=
 if size.kind≠0 then(m,.zero,5)
 else if size.n<0∨1024<size.n then(m,.zero,6)
 else if(m.cU size.n).short then(m.cU size.n,.zero,0)
 else({ m.cU size.n with heap:=m.heap++[⟨m.next+8,m.next+7,List.replicate size.n.toNat fill⟩],next:=m.next+9 },.mk 3 0 [] (some (m.next+8)),0)
def effect(m:Mach)(i:Ins)(args:List SV):Mach×SV×Int :=
 if i.op=15 then
  if(b8 args 0).kind≠0 then(m,.zero,5)
  else if m.out.length=1000 then(m,.zero,6)
  else({ m with out:=m.out++[(b8 args 0).n] },.word 0,0)
 else if i.op=16 then m.bA (b8 args 0) (b8 args 1)
 else if i.op=18 then
  if !lf args 0 then(m,.zero,5)
  else if(b8 args 0).n<0∨(b8 args 1).n<=(b8 args 0).n then(m,.zero,2)
  else(m,.word 0,0)
 else if(b8 args 0).kind≠3∨(i.op≠17∧(b8 args 1).kind≠0)then(m,.zero,5)
 else if i.op=17 then(m,.word (iW m.heap (b8 args 0).arr).length,0)
 else if(b8 args 1).n<0∨((iW m.heap (b8 args 0).arr).length:Int)<=(b8 args 1).n then(m,.zero,2)
 else if i.op=19 then(m,b8 (iW m.heap (b8 args 0).arr) (b8 args 1).n.toNat,0)
 else({ m with heap:=kK m.heap (b8 args 0).arr ((iW m.heap (b8 args 0).arr).set (b8 args 1).n.toNat (b8 args 2)) },.word 0,0)
def exec(m:Mach)(i:Ins)(args:List SV):Mach×SV×Int :=
 if i.op=0 then(m,.word i.n,0)
 else if 1<=i.op∧i.op<=7 then
  if !lf args 0 then(m,.zero,5)else(m,df i.op (b8 args 0).n (b8 args 1).n)
 else if i.op=8 then(m,.mk 1 i.n args none,0)
 else if i.op=9 then(m,.mk 2 i.n args none,0)
 else if i.op=10∨i.op=11∨i.op=12∨i.op=21 then(m,cV i args)
 else if i.op=22∨i.op=23∨i.op=24 then(m,di i args)
 else if i.op=100 then(m,b8 args 0,0)
 else m.effect i args
end Mach
def cN:List (Int×SV)->List Int->List SV->List (Int×SV)
 | es,p::ps,a::l=>cN (cJ es p a) ps l
 | es,_,_=>es
def cB(es:List (Int×SV))(l:List Int):List SV:=l.map (fk es)
def gJ(t:Term)(n:Int):Nat :=
 if t.kind=2 then(if n≠0 then 0 else 1)else t.cases.findIdx (· == n)
namespace Mach
def enter(u:bY)(m:Mach)(fn:Int)(args:List SV)(to:Int):Mach :=
 { m with sid:=m.next+2,next:=m.next+3,frames:=⟨m.next+1,m.next,fn,0,0,to,cN [] (ax (aL u fn) 0).params args⟩::m.frames }
def bu(m:Mach)(f:Fr):Mach:={ m with frames:=f::m.frames.tail }
def follow(u:bY)(m:Mach)(f:Fr)(e:Edge):Mach :=
 m.bu { f with blk:=e.block,pos:=0,vals:=cN f.vals (ax (aL u f.fn) e.block).params (cB f.vals e.args) }
def leave(m:Mach)(f:Fr)(v:SV):Mach :=
 match m.frames.tail with
 | []=>{ m with frames:=[] }.stop 0 (if v.kind=0∨v.kind=1 then v.n else 0)
 | g::r=>{ m with frames:={ g with vals:=cJ g.vals f.to v }::r }
def finish(u:bY)(m:Mach)(f:Fr)(t:Term):Mach :=
 if t.kind=4 then m.stop t.n 0
 else if t.kind=1 then m.follow u f (t.to[0]?.getD default)
 else if t.kind=0 then m.leave f (fk f.vals t.arg)
 else if(fk f.vals t.arg).kind≠0 then m.stop 5 0
 else m.follow u f (t.to[gJ t (fk f.vals t.arg).n]?.getD default)
def settle(f:Fr)(to:Int)(r:Mach×SV×Int):Mach :=
 (if r.2.2≠0 then r.1.stop r.2.2 0 else r.1).bu { f with vals:=cJ f.vals to r.2.1 }
def act(u:bY)(m:Mach)(f:Fr)(i:Ins)(args:List SV):Mach :=
 if i.op=13 then m.enter u i.n args i.to
 else if i.op=14 then
  if(b8 args 0).kind=2∧(ax (aL u (b8 args 0).n) 0).params.length=args.length then m.enter u (b8 args 0).n args i.to else m.stop 5 0
 else settle f i.to (m.exec i args)
def step(u:bY)(m:Mach):Mach :=
 match m.frames with
 | []=>m
 | f::_ =>
  match (ax (aL u f.fn) f.blk).ins[f.pos]? with
  | none=>m.finish u f (ax (aL u f.fn) f.blk).term
  | some i=>(m.bu { f with pos:=f.pos+1 }).act u { f with pos:=f.pos+1 } i (cB f.vals i.args)
def start(fuel:Int):Mach:=⟨0,[],[],4,fuel,false,false,[],0,0⟩
def run(u:bY):Nat->Mach->Mach
 | 0,m=>m
 | k+1,m=>if m.over then m else if(m.cU 1).short then m.cU 1 else run u k (step u (m.cU 1))
end Mach
structure Nr where
 out:List Int
 fin:Int
 val:Int
 n:Int
 e:Int
def bI(u:bY)(fuel:Int):Nr :=
 let m:=Mach.run u (fuel.toNat+2) ((Mach.start fuel).enter u u.main [] 0)
 if m.short then⟨[],0,0,0,13⟩else⟨m.out,m.fin,m.val,fuel-m.left,0⟩
def fU(n:Int):Prop:=-1073741824<=n∧n<=1073741823
structure Jp(u:bY)(i:Ins):Prop where
 op:(0<=i.op∧i.op<=24)∨i.op=100
 len:i.args.length<=4096
 fits:cm i.to∧cm i.n
 c0:i.op=0->fU i.n
 c2:(1<=i.op∧i.op<=7)∨i.op=16∨i.op=18∨i.op=19∨i.op=21∨i.op=23->i.args.length=2
 c1:i.op=10∨i.op=11∨i.op=12∨i.op=15∨i.op=17∨i.op=24∨i.op=100->i.args.length=1
 c3:i.op=20->i.args.length=3
 Un:i.op=8->fU i.n∧i.args.length<=16
 Xn:i.op=9->0<=i.n∧i.n<u.fns.length∧i.args.length<=16
 call:i.op=13->0<=i.n∧i.n<u.fns.length∧(ax (aL u i.n) 0).params.length=i.args.length
 app:i.op=14->1<=i.args.length
 Wq:i.op=11∨i.op=24->0<=i.n
 pack:i.op=22->i.args.length<=16
 vec:i.op=23->i.n=1∨i.n=2∨i.n=3
structure zz(f:Func)(e:Edge):Prop where
 lo:0<=e.block
 hi:e.block<f.blocks.length
 args:e.args.length=(ax f e.block).params.length
 len:e.args.length<=4096
structure zA(f:Func)(t:Term):Prop where
 kind:0<=t.kind∧t.kind<=4
 n:0<=t.n∧t.n<=6
 jump:t.kind=1->t.to.length=1
 cond:t.kind=2->t.to.length=2
 switch:t.kind=3->t.to.length=t.cases.length+1
 fZ:∀e∈t.to,zz f e
 cl:t.cases.length<=2 ^ 40
structure Nv(u:bY)(f:Func)(b:Block):Prop where
 ins:∀i∈b.ins,Jp u i
 term:zA f b.term
 len:b.ins.length<=2 ^ 40
structure gd(u:bY):Prop where
 main:0<=u.main∧u.main<u.fns.length
 few:u.fns.length<=256
 none:(ax (aL u u.main) 0).params=[]
 ne:∀f∈u.fns,f.blocks≠[]∧f.blocks.length<=2 ^ 40
 blocks:∀f∈u.fns,∀b∈f.blocks,Nv u f b
def gH(u:bY)(m:Mach)(v:SV):Prop:=SV.Wf u.fns.length (fun id=>∃a∈m.heap,a.l8=id) v
structure mX(u:bY)(m:Mach)(f:Fr):Prop where
 fn:0<=f.fn∧f.fn<u.fns.length
 blk:0<=f.blk∧f.blk<(aL u f.fn).blocks.length
 pos:f.pos<=(ax (aL u f.fn) f.blk).ins.length
 vals:∀e∈f.vals,gH u m e.2
structure bR(u:bY)(m:Mach):Prop where
 frames:∀f∈m.frames,mX u m f
 ig:∀a∈m.heap,a.l.length<=1024∧∀v∈a.l,gH u m v
 left:0<=m.left
 depth:m.frames.length+m.left<=2 ^ 40
 out:m.out.length<=1000
 words:∀n∈m.out,fU n
 fin:0<=m.fin∧m.fin<=6
 val:fU m.val
 done:m.fin≠0->m.val=0
 over:m.over=false->m.frames≠[]∧m.short=false
def eB(b:Bool):ae:=.v (.bool b)
def aE(u:bY)(m:Mach):List ae:=[bn u.fns,aI u.main,.os m.sid m.frames.length 1,aI m.left,.v (.bool m.short),.v (.bool m.over),.aC 1 (m.out.map aI) (.tok 3),aI m.fin,aI m.val]
def aX(f:Fr):List ae:=[aI f.fn,aI f.blk,aI f.pos,aI f.to,.mm f.dx]
def fp(l:List Fr):List ae:=l.reverse.map fun f=>.mp f.bW 0
theorem Lb(v:Int):KT.ok (.int .i64) (.int .i64 v)=True:=by simp[KT.ok]
theorem bz{O:List aj}{n k:Nat}{x:aj}(h:∀o∈O,o.upto n)(hx:x.upto n):∀o∈O.set k x,o.upto n:=fun o ho=>by
 rcases List.mem_or_eq_of_mem_set ho with q|q
 ·exact h o q
 subst q;exact hx
theorem j0{O:List aj}{n:Nat}{x:aj}(h:∀o∈O,o.upto n)(hx:x.upto n):∀o∈O++[x],o.upto n:=fun o ho=>by
 rcases List.mem_append.1 ho with q|q
 ·exact h o q
 simp only[List.mem_singleton]at q;subst q;exact hx
theorem cA{O:List aj}{k:Nat}{x:aj}:(O.set k x).take O.length=O.set k x:=List.take_of_length_le (by simp)
theorem cw{O X:List aj}{k:Nat}{x:aj}(h:O[k]?=some x):(O++X)[k]?=some x:=by
 rw[List.getElem?_append_left (I h),h]
theorem bx{O:List aj}{k j:Nat}{x y:aj}(h:O[k]?=some x)(hj:j≠k):(O.set j y)[k]?=some x:=by
 rw[List.getElem?_set_ne hj,h]
theorem ox{O:List aj}{k:Nat}{x y:aj}(h:O[k]?=some x):(O.set k y)[k]?=some y:=List.getElem?_set_self (I h)
theorem lQ{O X:List aj}{k:Nat}:(O++X)[O.length+k]?=X[k]?:=by
 rw[List.getElem?_append_right (by omega)];simp
theorem Gc{O X:List aj}:(O++X)[O.length]?=X[0]?:=lQ (k:=0)
theorem Db{O X:List aj}{k:Nat}{y:aj}:(O++X).set (O.length+k) y=O++X.set k y:=by
 rw[List.set_append_right _ _ (by omega)];simp
theorem LP{O X:List aj}{y:aj}:(O++X).set O.length y=O++X.set 0 y:=Db (k:=0)
theorem LS{a y:aj}{X:List aj}:(a::X).set 0 y=y::X:=rfl
theorem LR{a y:aj}{k:Nat}{X:List aj}:(a::X).set (k+1) y=a::X.set k y:=rfl
theorem Mb{O X:List aj}:(O++X).take O.length=O:=by simp
end Go.Proofs.YtjdnhamngpafmaaGreat
namespace Go.Av
theorem NI{P:Program}{kb:Nat}{c:Code}{Q:dE->St->Prop}{σ:St}{F:Prop}(hf:∀base a g,Rel base σ a g->F)(h:F->cc P kb c Q σ):cc P kb c Q σ:=fun base a g hb hr=>h (hf base a g hr) base a g hb hr
theorem gg{P:Program}{kb:Nat}{c:Code}{Q:dE->St->Prop}{n:Nat}{br:List (Nat×ae)}{O:List aj}(s:Nat){sz:Nat}{xs:List ae}{o:nR}(hs:look br s=some (.aC sz xs o))
  (h:xs.length<=2 ^ 62->cc P kb c Q ⟨n,br,O⟩):cc P kb c Q ⟨n,br,O⟩ :=
 NI (fun _ _ _ hr=>by
  obtain⟨u,_,h2⟩:=hr.slot s _ hs;exact h2.GP) h
theorem rR:∀{l:List (Nat×ae)} {s:Nat} {x:ae},look l s=some x->(s,x)∈l
 | (k,y)::r,s,x,h=>by
  simp only[look]at h;split at h
  ·rename_i e;subst e;simp only[Option.some.injEq]at h;subst h;exact List.mem_cons_self
  exact List.mem_cons_of_mem _ (rR h)
theorem bt{P:Program}{kb:Nat}{c:Code}{Q:dE->St->Prop}{n:Nat}{br:List (Nat×ae)}{O:List aj}(k:Nat)(cF:List (Nat×ae))(hk:k<=O.length)(HQ:kb<=k)(O':List aj)(RZ:O.take k=O')(hb:∀o∈O',o.upto k)
  (hs:fj ⟨n,br,O⟩ cF) (mW:∀p∈cF,p.2.upto k) (h:cc P kb c Q ⟨n,cF,O'⟩):cc P kb c Q ⟨n,br,O⟩ :=
 sy k hk HQ cF (by rw[RZ];exact hb) hs (fun s x hx=>mW _ (rR hx)) (by rw[RZ];exact h)
theorem lA{α:Type}(l:List α)(x:α):(l++[x])[l.length]?=some x:=by simp
theorem wZ{α:Type}(l:List α)(x y:α):(l++[x]).set l.length y=l++[y]:=by simp
theorem zo{α:Type}(l m:List α):(l++m).take l.length=l:=by simp
theorem FQ(cs:List ae):bo cs 0 []=cs:=by simp[bo]
theorem Dg(c x:ae)(cs xs:List ae):bo (c::cs) 0 (x::xs)=x::bo cs 0 xs:=by simp[bo]
theorem Dh(c:ae)(cs xs:List ae)(k:Nat):bo (c::cs) (k+1) xs=c::bo cs k xs:=by
 simp only[bo,List.take_succ_cons,List.cons_append,List.cons.injEq,true_and];rw[show k+1+xs.length=(k+xs.length)+1 by omega,List.drop_succ_cons]
theorem A2{α β:Type}(f:α->β)(l:List α):(l.map f).take l.length=l.map f:=List.take_of_length_le (by simp)
mutual
theorem ae.cj{n m:Nat}(h:n<=m):∀x:ae,x.upto n->x.upto m
 | .v _,_=>trivial
 | .agg cs,hx=>dC h cs hx
 | .aC _ xs o,hx=>by
  refine⟨dC h xs hx.1,?_⟩;have:=hx.2;cases o<;>first|trivial|exact Nat.lt_of_lt_of_le this h
 | .ip _ cs,hx=>dC h cs hx
 | .mp _ _,hx=>Nat.lt_of_lt_of_le hx h
 | .ms _ _ _ _,hx=>Nat.lt_of_lt_of_le hx h
 | .os _ _ _,hx=>Nat.lt_of_lt_of_le hx h
 | .raw _ _ _,hx=>Nat.lt_of_lt_of_le hx h
 | .mm _,hx=>Nat.lt_of_lt_of_le hx h
 | .im _ es,hx=>qW h es hx
 | .fn _ fs cs,hx=>⟨dC h fs hx.1,dC h cs hx.2⟩
 | .cD cs,hx=>dC h cs hx
theorem dC{n m:Nat}(h:n<=m):∀l:List ae,aw n l->aw m l
 | [],_=>trivial
 | x::r,hx=>⟨ae.cj h x hx.1,dC h r hx.2⟩
theorem qW{n m:Nat}(h:n<=m):∀l:List (Value×ae),lD n l->lD m l
 | [],_=>trivial
 | (k,x)::r,hx=>⟨ae.cj h x hx.1,qW h r hx.2⟩
end
theorem aj.cj{n m:Nat}(h:n<=m){o:aj}(ho:o.upto n):o.upto m:=by
 cases o with
 | cells cs=>exact dC h cs ho
 | map kt es=>exact qW h es ho
 | _=>trivial
theorem sub_self(O:List aj)(x:ae):Sub O x x=True:=by simp[Sub.refl]
theorem Sub.int{O:List aj}{k:IntKind}{a b:Int}(h:a=b):Sub O (.v (.int k a)) (.v (.int k b)):=.of_eq (by rw[h])
theorem ao{p:Unit->Prop}{t:Tag p}(h:p ()):yb p t:=h
theorem NT(x:Value):ae.cells (.v x)=[.v x]:=rfl
theorem RT(x:Value):ae.flat (.v x)=True:=rfl
theorem uY(x:Value):ae.share (.v x)=.v x:=rfl
theorem cK(x:Value):ae.bk (.v x)=.v x:=rfl
theorem Hm(sz:Nat)(xs:List ae)(o:nR):ae.cells (.aC sz xs o)=[.aC sz xs o]:=rfl
theorem Kl(sz:Nat)(xs:List ae)(o:nR):ae.flat (.aC sz xs o)=True:=rfl
theorem IK(sz:Nat)(xs:List ae)(o:nR):ae.share (.aC sz xs o)=.aC sz xs .sh:=rfl
theorem b9(sz:Nat)(xs:List ae)(o:nR):ae.bk (.aC sz xs o)=.aC sz xs .sh:=rfl
theorem JJ(oa:Option Addr)(cs:List ae):ae.cells (.ip oa cs)=[.ip oa cs]:=rfl
theorem N2(oa:Option Addr)(cs:List ae):ae.flat (.ip oa cs)=True:=rfl
theorem LW(oa:Option Addr)(cs:List ae):ae.share (.ip oa cs)=.ip oa cs:=rfl
theorem dM(oa:Option Addr)(cs:List ae):ae.bk (.ip oa cs)=.ip oa cs:=rfl
theorem JL(id off:Nat):ae.cells (.mp id off)=[.mp id off]:=rfl
theorem N4(id off:Nat):ae.flat (.mp id off)=True:=rfl
theorem LY(id off:Nat):ae.share (.mp id off)=.mp id off:=rfl
theorem dO(id off:Nat):ae.bk (.mp id off)=.mp id off:=rfl
theorem Hn(sz n id:Nat):ae.cells (.raw sz n id)=[.raw sz n id]:=rfl
theorem Km(sz n id:Nat):ae.flat (.raw sz n id)=True:=rfl
theorem IL(sz n id:Nat):ae.share (.raw sz n id)=.raw sz n id:=rfl
theorem x7(sz n id:Nat):ae.bk (.raw sz n id)=.raw sz n id:=rfl
theorem JM(id off len cap:Nat):ae.cells (.ms id off len cap)=[.ms id off len cap]:=rfl
theorem N5(id off len cap:Nat):ae.flat (.ms id off len cap)=True:=rfl
theorem LZ(id off len cap:Nat):ae.share (.ms id off len cap)=.ms id off len cap:=rfl
theorem AS(id off len cap:Nat):ae.bk (.ms id off len cap)=.ms id off len cap:=rfl
theorem JK(id:Nat):ae.cells (.mm id)=[.mm id]:=rfl
theorem N3(id:Nat):ae.flat (.mm id)=True:=rfl
theorem LX(id:Nat):ae.share (.mm id)=.mm id:=rfl
theorem dN(id:Nat):ae.bk (.mm id)=.mm id:=rfl
theorem JI(kt:KT)(es:List (Value×ae)):ae.cells (.im kt es)=[.im kt es]:=rfl
theorem N1(kt:KT)(es:List (Value×ae)):ae.flat (.im kt es)=True:=rfl
theorem LV(kt:KT)(es:List (Value×ae)):ae.share (.im kt es)=.im kt es:=rfl
theorem dL(kt:KT)(es:List (Value×ae)):ae.bk (.im kt es)=.im kt es:=rfl
theorem JH(f:Fn)(fs cs:List ae):ae.cells (.fn f fs cs)=[.fn f fs cs]:=rfl
theorem N0(f:Fn)(fs cs:List ae):ae.flat (.fn f fs cs)=True:=rfl
theorem LU(f:Fn)(fs cs:List ae):ae.share (.fn f fs cs)=.fn f fs cs:=rfl
theorem dK(f:Fn)(fs cs:List ae):ae.bk (.fn f fs cs)=.fn f fs cs:=rfl
theorem Hl(cs:List ae):ae.cells (.agg cs)=cs:=rfl
theorem flat_agg(cs:List ae):ae.flat (.agg cs)=True:=rfl
theorem IJ(cs:List ae):ae.share (.agg cs)=.agg (cs.map ae.bk):=rfl
theorem IM(cs:List ae):ae.share (.cD cs)=.cD cs:=rfl
def aa:=And.intro @eA.eq_1 <|
 And.intro @eA.eq_2 <|
 And.intro @MS.eq_1 <|
 And.intro @xe.eq_1 <|
 And.intro @Az <|
 And.intro @BO <|
 And.intro @Eg <|
 And.intro @dX <|
 And.intro @dr <|
 And.intro @F3.eq_1 <|
 And.intro @pj.eq_1 <|
 And.intro @A7.eq_1 <|
 And.intro @F2.eq_1 <|
 And.intro @Ba.eq_1 <|
 And.intro @pk.eq_1 <|
 And.intro @qp.eq_1 <|
 And.intro @qp.eq_2 <|
 And.intro @qp.eq_3 <|
 And.intro @qp.eq_4 <|
 And.intro @qp.eq_5 <|
 And.intro @qp.eq_6 <|
 And.intro @qp.eq_7 <|
 And.intro @Rr.eq_1 <|
 And.intro @IA.eq_1 <|
 And.intro @IA.eq_2 <|
 And.intro @IA.eq_3 <|
 And.intro @G4.eq_1 <|
 And.intro @MU.eq_1 <|
 And.intro @MU.eq_2 <|
 And.intro @MU.eq_3 <|
 And.intro @I7.eq_1 <|
 And.intro @I7.eq_2 <|
 And.intro @A9.eq_1 <|
 And.intro @Dk.eq_1 <|
 And.intro @Dk.eq_2 <|
 And.intro @A3.eq_1 <|
 And.intro @nP.eq_1 <|
 And.intro @pn.eq_1 <|
 And.intro @xd.eq_1 <|
 And.intro @kA.eq_1 <|
 And.intro @tl.eq_1 <|
 And.intro @A8.eq_1 <|
 And.intro @A6.eq_1 <|
 And.intro @NF.eq_1 <|
 And.intro @ND.eq_1 <|
 And.intro @TD.maps.eq_1 <|
 And.intro @uQ.eq_1 <|
 And.intro @MP.eq_1 <|
 And.intro @xa.eq_1 <|
 And.intro @MR.eq_1 <|
 And.intro @MO.eq_1 <|
 And.intro @A5.eq_1 <|
 And.intro @A4.eq_1 <|
 And.intro @A4.eq_2 <|
 And.intro @ez.eq_1 <|
 And.intro @ez.eq_2 <|
 And.intro @ez.eq_3 <|
 And.intro @ez.eq_4 <|
 And.intro @ez.eq_5 <|
 And.intro @ez.eq_6 <|
 And.intro @ez.eq_7 <|
 And.intro @ez.eq_8 <|
 And.intro @ez.eq_9 <|
 And.intro @ez.eq_10 <|
 And.intro @ez.eq_11 <|
 And.intro @ez.eq_12 <|
 And.intro @ez.eq_13 <|
 And.intro @ez.eq_14 <|
 And.intro @MT.eq_1 <|
 And.intro @MQ.eq_1 <|
 And.intro @lF.eq_1 <|
 And.intro @lF.eq_2 <|
 @lF.eq_3
def Zb:=And.intro @SW <|
 And.intro @rV.eq_1 <|
 And.intro @rV.eq_2 <|
 And.intro @rV.eq_3 <|
 And.intro @rV.eq_4 <|
 And.intro @rV.eq_5 <|
 And.intro @ru.eq_1 <|
 And.intro @ru.eq_2 <|
 And.intro @isNil.eq_1 <|
 And.intro @isNil.eq_2 <|
 And.intro @St.ev.eq_1 <|
 And.intro @St.ev.eq_2 <|
 And.intro @St.ev.eq_3 <|
 And.intro @St.ev.eq_4 <|
 And.intro @St.get.eq_1 <|
 And.intro @jw.eq_1 <|
 And.intro @jw.eq_2 <|
 And.intro @lP.eq_1 <|
 And.intro @lP.eq_2 <|
 And.intro @look.eq_1 <|
 And.intro @look.eq_2 <|
 And.intro @slotsOf.eq_1 <|
 And.intro @slotsOf.eq_2 <|
 And.intro @J3.eq_1 <|
 And.intro @J3.eq_2 <|
 And.intro @p9.eq_1 <|
 And.intro @p9.eq_2 <|
 And.intro @bF.eq_1 <|
 And.intro @bh.eq_1 <|
 And.intro @bh.eq_2 <|
 And.intro @rC.eq_1 <|
 And.intro @rC.eq_2 <|
 And.intro @Mode.post.eq_1 <|
 And.intro @Mode.post.eq_2 <|
 And.intro @Mode.post.eq_3 <|
 And.intro @Mode.post.eq_4 <|
 And.intro @Mode.kind.eq_1 <|
 And.intro @Mode.kind.eq_2 <|
 And.intro @Mode.kind.eq_3 <|
 And.intro @Mode.kind.eq_4 <|
 And.intro @Mode.kind.eq_5 <|
 And.intro @Mode.kind.eq_6 <|
 And.intro @NT <|
 And.intro @RT <|
 And.intro @uY <|
 And.intro @cK <|
 And.intro @Hm <|
 And.intro @Kl <|
 And.intro @IK <|
 And.intro @b9 <|
 And.intro @JJ <|
 And.intro @N2 <|
 And.intro @LW <|
 And.intro @dM <|
 And.intro @JL <|
 And.intro @N4 <|
 And.intro @LY <|
 And.intro @dO <|
 And.intro @Hn <|
 And.intro @Km <|
 And.intro @IL <|
 And.intro @x7 <|
 And.intro @JM <|
 And.intro @N5 <|
 And.intro @LZ <|
 And.intro @AS <|
 And.intro @JK <|
 And.intro @N3 <|
 And.intro @LX <|
 And.intro @dN <|
 And.intro @JI <|
 And.intro @N1 <|
 And.intro @LV <|
 And.intro @dL <|
 And.intro @JH <|
 And.intro @N0 <|
 And.intro @LU <|
 And.intro @dK <|
 And.intro @Hl <|
 And.intro @flat_agg <|
 And.intro @IJ <|
 And.intro @IM <|
 And.intro @sw.eq_1 <|
 And.intro @sw.eq_2 <|
 And.intro @sw.eq_3 <|
 And.intro @sw.eq_4 <|
 And.intro @lj.eq_1 <|
 And.intro @lj.eq_2 <|
 And.intro @lj.eq_3 <|
 And.intro @lj.eq_4 <|
 And.intro @lj.eq_5 <|
 And.intro @lj.eq_6 <|
 And.intro @lj.eq_7 <|
 And.intro @fa.eq_1 <|
 And.intro @fa.eq_2 <|
 And.intro @fa.eq_3 <|
 And.intro @fa.eq_4 <|
 And.intro @fa.eq_5 <|
 And.intro @fa.eq_6 <|
 And.intro @fa.eq_7 <|
 And.intro @fa.eq_8 <|
 And.intro @fa.eq_9 <|
 And.intro @fD.eq_1 <|
 And.intro @dI.eq_1 <|
 And.intro @dI.eq_2 <|
 And.intro @dI.eq_3 <|
 And.intro @dI.eq_4 <|
 And.intro @dI.eq_5 <|
 And.intro @dI.eq_6 <|
 And.intro @dI.eq_7 <|
 And.intro @dI.eq_8 <|
 And.intro @dI.eq_9 <|
 And.intro @dI.eq_10 <|
 And.intro @dI.eq_11 <|
 And.intro @dI.eq_12 <|
 And.intro @dI.eq_13 <|
 And.intro @dI.eq_14 <|
 And.intro @dI.eq_15 <|
 And.intro @dI.eq_16 <|
 And.intro @dI.eq_17 <|
 And.intro @vE.eq_1 <|
 And.intro @vE.eq_2 <|
 And.intro @vE.eq_3 <|
 And.intro @ry.eq_1 <|
 And.intro @ry.eq_2 <|
 And.intro @ry.eq_3 <|
 And.intro @Bool.and_true <|
 And.intro @Bool.true_and <|
 And.intro @Bool.and_false <|
 And.intro @Bool.false_and <|
 And.intro @Bool.and_self <|
 And.intro @Fh.eq_1 <|
 And.intro @Fh.eq_2 <|
 And.intro @Fh.eq_3 <|
 And.intro @Fh.eq_4 <|
 And.intro @kd.eq_1 <|
 And.intro @kd.eq_2 <|
 And.intro @kd.eq_3 <|
 And.intro @JE.eq_1 <|
 And.intro @JE.eq_2 <|
 And.intro @St.BY.eq_1 <|
 And.intro @St.BY.eq_2 <|
 And.intro @St.fA.eq_1 <|
 And.intro @St.fA.eq_2 <|
 And.intro @mZ.eq_1 <|
 And.intro @mZ.eq_2 <|
 And.intro @rb.eq_1 <|
 And.intro @rb.eq_2 <|
 And.intro @jo.eq_1 <|
 And.intro @jo.eq_2 <|
 And.intro @FQ <|
 And.intro @Dg <|
 And.intro @Dh <|
 And.intro @hU.eq_1 <|
 And.intro @hU.eq_2 <|
 And.intro @ju.eq_1 <|
 And.intro @ju.eq_2 <|
 And.intro @TD.agg.eq_1 <|
 And.intro @TD.agg.eq_2 <|
 And.intro @TD.agg.eq_3 <|
 And.intro @TD.elem.eq_1 <|
 And.intro @TD.elem.eq_2 <|
 And.intro @qJ.eq_1 <|
 And.intro @qJ.eq_2 <|
 And.intro @qJ.eq_3 <|
 And.intro @lX.eq_1 <|
 And.intro @zeroOf.eq_1 <|
 And.intro @No.eq_1 <|
 And.intro @No.eq_2 <|
 And.intro @No.eq_3 <|
 And.intro @No.eq_4 <|
 And.intro @No.eq_5 <|
 And.intro @HP.eq_1 <|
 And.intro @HP.eq_2 <|
 And.intro @HP.eq_3 <|
 And.intro @HP.eq_4 <|
 And.intro @HP.eq_5 <|
 And.intro @HP.eq_6 <|
 And.intro @HP.eq_7 <|
 And.intro @HP.eq_8 <|
 And.intro @and_self <|
 And.intro @true_and <|
 And.intro @and_true <|
 And.intro @not_false_eq_true <|
 And.intro @List.nil_append.{0} <|
 And.intro @List.cons_append.{0} <|
 And.intro @List.append_nil.{0} <|
 And.intro @List.length_nil.{0} <|
 And.intro @List.length_cons.{0} <|
 And.intro @List.getElem?_cons_zero.{0} <|
 And.intro @List.getElem?_cons_succ.{0} <|
 And.intro @List.getElem?_nil.{0} <|
 And.intro @List.take_succ_cons.{0} <|
 And.intro @List.take_zero.{0} <|
 And.intro @List.take_nil.{0} <|
 And.intro @List.drop_succ_cons.{0} <|
 And.intro @List.drop_zero.{0} <|
 And.intro @List.drop_nil.{0} <|
 And.intro @List.set_cons_zero.{0} <|
 And.intro @List.set_cons_succ.{0} <|
 And.intro @List.map_cons.{0,0} <|
 And.intro @List.map_nil.{0,0} <|
 And.intro @Option.map_none.{0,0} <|
 And.intro @Option.map_some.{0,0} <|
 And.intro @Option.isSome_some.{0} <|
 And.intro @Option.isSome_none.{0} <|
 And.intro @Option.bind_some.{0,0} <|
 And.intro @Bool.false_eq_true <|
 And.intro @Bool.not_true <|
 And.intro @Bool.not_false <|
 And.intro @beq_self_eq_true.{0} <|
 And.intro @List.getElem?_toArray.{0} <|
 And.intro @Nat.zero_add <|
 And.intro @Nat.add_zero <|
 And.intro @decide_true <|
 And.intro @decide_false <|
 And.intro @beq_true <|
 And.intro @beq_false <|
 And.intro @Bool.true_beq <|
 And.intro @Bool.false_beq <|
 And.intro @Bool.not_not <|
 And.intro @decide_eq_true_eq <|
 And.intro @decide_eq_false_iff_not <|
 And.intro @Bool.not_eq_true' <|
 And.intro @Bool.not_eq_false' <|
 And.intro @Bool.not_eq_true <|
 And.intro @Bool.not_eq_false <|
 And.intro @Int.toNat_natCast <|
 And.intro @Int.natCast_zero <|
 And.intro @Int.sub_zero <|
 And.intro @Int.add_zero <|
 And.intro @Int.zero_add <|
 And.intro @Int.toNat_zero <|
 And.intro @List.getElem?_map.{0,0} <|
 And.intro @Int.natCast_nonneg <|
 And.intro @List.length_map.{0,0} <|
 And.intro @List.not_mem_nil.{0} <|
 And.intro @false_implies <|
 And.intro @List.length_append.{0} <|
 And.intro @or_false <|
 And.intro @or_true <|
 And.intro @true_or <|
 And.intro @false_or <|
 And.intro @or_self <|
 And.intro @lA <|
 And.intro @wZ <|
 And.intro @A2 <|
 @Nat.le_refl
def bS:=And.intro @AQ <|
 And.intro @AP <|
 And.intro @l6 <|
 And.intro @vm <|
 And.intro @j7 <|
 And.intro @vn <|
 And.intro @ub <|
 And.intro @xV <|
 And.intro @kV <|
 And.intro @xU <|
 @not_false_eq_true
def G.cut(g:G)(n:Nat):G:=⟨g.w,fun b off=>g.fr b off∨∃(id:Nat) (l:Loc) (o:aj),n<=id∧g.env[id]?=some (some l)∧g.objs[id]?=some o∧o.live∧l.block=b∧l.lo<=off,g.env.take n,g.objs.take n⟩
theorem bC{α:Type}{l:List α}{n i:Nat}{x:α}:(l.take n)[i]?=some x↔i<n∧l[i]?=some x:=by
 rw[List.getElem?_take];split
 ·rename_i h;simp[h]
 rename_i h;simp[h]
theorem uF{g:G}{n b off:Nat}:jy (g.cut n) b off↔jy g b off:=by
 constructor
 ·rintro((h|⟨id,l,o,_,h1,h2,h3,h4,h5⟩)|⟨id,l,o,h1,h2,h3,h4,h5⟩)
  ·exact .inl h
  ·exact .inr ⟨id,l,o,h1,h2,h3,h4,h5⟩
  exact .inr ⟨id,l,o,(bC.1 h1).2,(bC.1 h2).2,h3,h4,h5⟩
 rintro(h|⟨id,l,o,h1,h2,h3,h4,h5⟩)
 ·exact .inl (.inl h)
 rcases Nat.lt_or_ge id n with bg|qj
 ·exact .inr ⟨id,l,o,bC.2 ⟨bg,h1⟩,bC.2 ⟨bg,h2⟩,h3,h4,h5⟩
 exact .inl (.inr ⟨id,l,o,qj,h1,h2,h3,h4,h5⟩)
theorem RV.cut{g:G}{n:Nat}(vX:n<=g.objs.length){x:ae}{u:Value}(h:RV g x u)(hb:x.upto n):RV (g.cut n) x u:=by
 induction h with
 | v hx=>exact .v hx
 | agg hl dv _ ih =>
  simp only[ae.upto,aV]at hb;exact .agg hl dv fun i c u a b=>ih i c u a b (hb c (List.mem_of_getElem? a))
 | nil ho Ai =>
  simp only[ae.upto]at hb;refine .nil (fun id e=>?_) Ai;subst e;have:=hb.2;simp only at this;simp only[G.cut,List.length_take];omega
 | aC cP dv cY cE hs f hm hr ho ih =>
  rename_i sz xs o a cap;simp only[ae.upto,aV]at hb;refine .aC cP dv cY cE hs f (fun j c hj=>⟨(hm j c hj).1,fun q=>(hm j c hj).2 (uF.1 q)⟩) (fun j c hj=>ih j c hj ?_) ?_
  ·have hc:=List.mem_of_getElem? hj;simp only[au,List.mem_flatMap]at hc;obtain⟨x,hx,hc⟩:=hc;have:=hb.1 x hx;cases x with
   | agg cs =>
    simp only[ae.upto,aV]at this;exact this c hc
   | _=>simp only[ae.cells,List.mem_singleton]at hc;subst hc;exact this
  cases o with
  | sh=>trivial
  | nn=>trivial
  | ex=>exact ho
  | loc a=>exact ho
  | tok id =>
   have gp:=hb.2;simp only at gp;refine⟨by simp only[G.cut,List.length_take];omega,fun m eF=>?_⟩;obtain⟨h1,h2⟩:=ho.2 m (bC.1 eF).2;refine⟨h1,fun e=>?_⟩;rcases h2 e with q|⟨l,arr,t,q1,q2⟩
   ·exact .inl q
   exact .inr ⟨l,arr,t,bC.2 ⟨gp,q1⟩,q2⟩
 | ip ha dv f hm hr ih =>
  simp only[ae.upto,aV]at hb;exact .ip ha dv f (fun j c hj=>⟨(hm j c hj).1,fun q=>(hm j c hj).2 (uF.1 q)⟩) fun j c hj=>ih j c hj (hb c (List.mem_of_getElem? hj))
 | mp he ho jQ =>
  simp only[ae.upto]at hb;exact .mp (bC.2 ⟨hb,he⟩) (bC.2 ⟨hb,ho⟩) jQ
 | ms he ho jQ hc qZ cE =>
  simp only[ae.upto]at hb;exact .ms (bC.2 ⟨hb,he⟩) (bC.2 ⟨hb,ho⟩) jQ hc qZ cE
 | os he ho jQ hc qZ cE =>
  simp only[ae.upto]at hb;exact .os (bC.2 ⟨hb,he⟩) (bC.2 ⟨hb,ho⟩) jQ hc qZ cE
 | raw Ai ho =>
  rename_i sz n0 id a cap;have gp:id<n:=hb;refine .raw Ai ⟨by simp only[G.cut,List.length_take];omega,fun m eF=>?_⟩;obtain⟨h1,h2⟩:=ho.2 m (bC.1 eF).2;refine⟨h1,fun e=>?_⟩;rcases h2 e with q|⟨l,arr,t,q1,q2⟩
  ·exact .inl q
  exact .inr ⟨l,arr,t,bC.2 ⟨gp,q1⟩,q2⟩
 | mm he ho jQ =>
  simp only[ae.upto]at hb;exact .mm (bC.2 ⟨hb,he⟩) (bC.2 ⟨hb,ho⟩) jQ
 | im hh jQ hl hk vW KA _ ih =>
  simp only[ae.upto,k9]at hb;exact .im hh (fun off q=>jQ off (uF.1 q)) hl hk vW KA fun i e kx a b=>ih i e kx a b (hb kx (List.mem_of_getElem? b))
 | fn hl Bh _ _ ih GL =>
  simp only[ae.upto,aV]at hb;exact .fn hl Bh (fun i c u a b=>ih i c u a b (hb.1 c (List.mem_of_getElem? a))) fun i c u a b=>GL i c u a b (hb.2 c (List.mem_of_getElem? a))
 | cD hl _ ih =>
  simp only[ae.upto,aV]at hb;exact .cD hl fun i c u a b=>ih i c u a b (hb c (List.mem_of_getElem? a))
theorem Good.cut{g:G}(hg:Good g){n:Nat}(hn:n<=g.objs.length)(hb:∀o∈g.objs.take n,o.upto n):Good (g.cut n) where
 frlt:=fun b off h=>by
  rcases h with h|⟨id,l,o,_,h1,h2,h3,h4,_⟩
  ·exact hg.frlt b off h
  exact h4 ▸ hg.loc id l o h1 h2 h3
 fQ:=fun id l o h1 h2 h3 off h=>by
  obtain⟨q1,h1⟩:=bC.1 h1;obtain⟨_,h2⟩:=bC.1 h2;rcases h with h|⟨mh,l',o',k0,k1,k2,k3,k4,_⟩
  ·exact hg.fQ id l o h1 h2 h3 off h
  have:=hg.apart id mh l l' o o' h1 h2 h3 k1 k2 k3 k4.symm;omega
 len:=by simp[G.cut,hg.len]
 loc:=fun id l o h1 h2 h3=>hg.loc id l o (bC.1 h1).2 (bC.1 h2).2 h3
 apart:=fun id mh l l' o o' h1 h2 h3 k1 k2 k3=>hg.apart id mh l l' o o' (bC.1 h1).2 (bC.1 h2).2 h3 (bC.1 k1).2 (bC.1 k2).2 k3
 cells:=fun id cs h1=>by
  have EC:=hb _ (List.mem_of_getElem? h1);obtain⟨q,h1⟩:=bC.1 h1;obtain⟨l,arr,t,e1,e0,e2,e3,e4,e5⟩:=hg.cells id cs h1;simp only[aj.upto,aV]at EC;exact⟨l,arr,t,bC.2 ⟨q,e1⟩,e0,e2,e3,fun j c u a b=>(e4 j c u a b).cut hn (EC c (List.mem_of_getElem? a)),e5⟩
 spare:=fun id m l h1 h2=>hg.spare id m l (bC.1 h1).2 (bC.1 h2).2
 map:=fun id kt es h1=>by
  have EC:=hb _ (List.mem_of_getElem? h1);obtain⟨q,h1⟩:=bC.1 h1;obtain⟨l,ob,e1,e0,e2,e3⟩:=hg.map id kt es h1;simp only[aj.upto,k9]at EC;exact⟨l,ob,bC.2 ⟨q,e1⟩,e0,e2,e3.imp (fun p hp u r=>r.cut hn (EC p hp)) fun m clk arr q1 q2=>⟨q1,fun off q=>q2 off (uF.1 q)⟩⟩
def G.gF(g:G)(n:Nat)(g':G):G:=⟨g'.w,g.fr,g'.env++g.env.drop n,g'.objs++g.objs.drop n⟩
theorem aN{α:Type}{a l:List α}{n i:Nat}{x:α}(ha:a.length=n):(a++l.drop n)[i]?=some x↔(i<n∧a[i]?=some x)∨(n<=i∧l[i]?=some x):=by
 rw[List.getElem?_append];split
 ·rename_i h;constructor
  ·intro e;exact .inl ⟨by omega,e⟩
  rintro(⟨_,e⟩|⟨q,_⟩)
  ·exact e
  omega
 rename_i h;rw[List.getElem?_drop,show n+(i-a.length)=i by omega];constructor
 ·intro e;exact .inr ⟨by omega,e⟩
 rintro(⟨q,_⟩|⟨_,e⟩)
 ·omega
 exact e
structure q8(g:G)(n:Nat)(g':G):Prop where
 good:Good g
 le:Le (g.cut n) g'
 rG:Good g'
 lt:n<=g.objs.length
 same:g'.objs.length=n
theorem q8.env{g g':G}{n:Nat}(h:q8 g n g'):g'.env.length=n:=h.rG.len.trans h.same
theorem q8.Y7{g g':G}{n b:Nat}(h:q8 g n g')(hn:gm (g.gF n g') b):gm g' b∨∃(id:Nat) (l:Loc) (o:aj),n<=id∧g.env[id]?=some (some l)∧g.objs[id]?=some o∧o.live∧l.block=b:=by
 obtain⟨id,l,o,h1,h2,h3,h4⟩:=hn;rcases(aN h.env).1 h1 with⟨q1,h1⟩|⟨q1,h1⟩
 ·rcases(aN h.same).1 h2 with⟨q2,h2⟩|⟨q2,h2⟩
  ·exact .inl ⟨id,l,o,h1,h2,h3,h4⟩
  omega
 rcases(aN h.same).1 h2 with⟨q2,h2⟩|⟨q2,h2⟩
 ·omega
 exact .inr ⟨id,l,o,q1,h1,h2,h3,h4⟩
theorem q8.own{g g':G}{n b off:Nat}(h:q8 g n g'):jy (g.gF n g') b off->jy g' b off:=by
 rintro(hf|⟨id,l,o,h1,h2,h3,h4,h5⟩)
 ·refine .inl ?_;rw[h.le.fr];exact .inl hf
 rcases(aN h.env).1 h1 with⟨q1,h1⟩|⟨q1,h1⟩
 ·rcases(aN h.same).1 h2 with⟨q2,h2⟩|⟨q2,h2⟩
  ·exact .inr ⟨id,l,o,h1,h2,h3,h4,h5⟩
  omega
 rcases(aN h.same).1 h2 with⟨q2,h2⟩|⟨q2,h2⟩
 ·omega
 refine .inl ?_;rw[h.le.fr];exact .inr ⟨id,l,o,q1,h1,h2,h3,h4,h5⟩
theorem JW{g:G}{n b:Nat}(h:gm (g.cut n) b):gm g b:=by
 obtain⟨id,l,o,h1,h2,h3,h4⟩:=h;exact⟨id,l,o,(bC.1 h1).2,(bC.1 h2).2,h3,h4⟩
theorem JX{g:G}{n b off:Nat}(h:ke (g.cut n) b off):ke g b off:=by
 obtain⟨id,l,o,h1,h2,h3,h4,h5⟩:=h;exact⟨id,l,o,(bC.1 h1).2,(bC.1 h2).2,h3,h4,h5⟩
theorem q8.block{g g':G}{n:Nat}(h:q8 g n g'){id:Nat}{l:Loc}{o:aj}(gp:n<=id)(h1:g.env[id]?=some (some l))(h2:g.objs[id]?=some o)(h3:o.live):g'.w.heap[l.block]?=g.w.heap[l.block]?:=by
 refine(h.le.block l.block (h.good.loc id l o h1 h2 h3) ?_).1;rintro⟨mh,l',o',k1,k2,k3,k4⟩;obtain⟨q,k1⟩:=bC.1 k1;have:=h.good.apart mh id l' l o' o k1 (bC.1 k2).2 k3 h1 h2 h3 k4;omega
theorem q8.Y6{g g':G}{n:Nat}(h:q8 g n g'):Le g (g.gF n g') where
 os:=h.le.os
 tape:=h.le.tape
 output:=h.le.output
 fr:=rfl
 size:=h.le.size
 block:=fun k hk hh=>by
  obtain⟨q1,q2⟩:=h.le.block k hk (fun q=>hh (JW q));refine⟨q1,fun q=>?_⟩;rcases h.Y7 q with q|⟨id,l,o,_,q⟩
  ·exact q2 q
  exact hh ⟨id,l,o,q⟩
 cell:=fun b off x hx hh=>by
  obtain⟨q1,q2⟩:=h.le.cell b off x hx (fun q=>hh (JX q));refine⟨q1,fun q=>?_⟩;obtain⟨id,l,o,h1,h2,h3,h4,h5⟩:=q;rcases(aN h.env).1 h1 with⟨e1,h1⟩|⟨e1,h1⟩
  ·rcases(aN h.same).1 h2 with⟨e2,h2⟩|⟨e2,h2⟩
   ·exact q2 ⟨id,l,o,h1,h2,h3,h4,h5⟩
   omega
  rcases(aN h.same).1 h2 with⟨e2,h2⟩|⟨e2,h2⟩
  ·omega
  exact hh ⟨id,l,o,h1,h2,h3,h4,h5⟩
 len:=by
  simp only[G.gF,List.length_append,List.length_drop,h.same];omega
 spare:=fun id m hm=>by
  rcases Nat.lt_or_ge id n with q|q
  ·rcases h.le.spare id m (bC.2 ⟨q,hm⟩)with⟨m',k1,k2⟩|⟨o',k1,k2⟩
   ·exact .inl ⟨m',(aN h.same).2 (.inl ⟨q,k1⟩),k2⟩
   exact .inr ⟨o',(aN h.same).2 (.inl ⟨q,k1⟩),k2⟩
  exact .inl ⟨m,(aN h.same).2 (.inr ⟨q,hm⟩),Nat.le_refl _⟩
 plain:=fun id o ho hs=>by
  have bg:=I ho;have he:g.env[id]?=some (g.env[id]'(by rw[h.good.len];exact bg)):=List.getElem?_eq_getElem _;rcases Nat.lt_or_ge id n with q|q
  ·obtain⟨⟨o',k1,k2⟩,k3⟩:=h.le.plain id o (bC.2 ⟨q,ho⟩) hs;refine⟨⟨o',(aN h.same).2 (.inl ⟨q,k1⟩),k2⟩,?_⟩;rw[he];refine(aN h.env).2 (.inl ⟨q,?_⟩);rw[k3];exact bC.2 ⟨q,he⟩
  refine⟨⟨o,(aN h.same).2 (.inr ⟨q,ho⟩),hs⟩,?_⟩;rw[he];exact(aN h.env).2 (.inr ⟨q,he⟩)
 gone:=fun id ho=>by
  rcases Nat.lt_or_ge id n with q|q
  ·exact(aN h.same).2 (.inl ⟨q,h.le.gone id (bC.2 ⟨q,ho⟩)⟩)
  exact(aN h.same).2 (.inr ⟨q,ho⟩)
 tok:=fun id m hm eF=>by
  have bg:=I hm;have he:g.env[id]?=some (g.env[id]'(by rw[h.good.len];exact bg)):=List.getElem?_eq_getElem _;rcases(aN h.same).1 eF with⟨q,eF⟩|⟨q,eF⟩
  ·obtain⟨k1,k2⟩:=h.le.tok id m (bC.2 ⟨q,hm⟩) eF;refine⟨?_,fun l hl=>k2 l (bC.2 ⟨q,hl⟩)⟩;rw[he];refine(aN h.env).2 (.inl ⟨q,?_⟩);rw[k1];exact bC.2 ⟨q,he⟩
  refine⟨?_,fun l hl=>h.block q hl hm trivial⟩;rw[he];exact(aN h.env).2 (.inr ⟨q,he⟩)
theorem RV.gF{g g':G}{n:Nat}(hc:q8 g n g'){x:ae}{u:Value}(h:RV g' x u):RV (g.gF n g') x u:=by
 have bg:∀{id:Nat} {o:aj},g'.objs[id]?=some o->id<n:=fun ho=>by
  have:=I ho;rw[hc.same]at this;exact this
 induction h with
 | v hx=>exact .v hx
 | agg hl dv _ ih=>exact .agg hl dv ih
 | nil ho Ai =>
  refine .nil (fun id e=>?_) Ai;have:=ho id e;simp only[G.gF,List.length_append];omega
 | aC cP dv cY cE hs f hm hr ho ih =>
  rename_i sz xs o a cap;refine .aC cP dv cY cE hs f (fun j c hj=>⟨(hm j c hj).1,fun q=>(hm j c hj).2 (hc.own q)⟩) ih ?_;cases o with
  | sh=>trivial
  | nn=>trivial
  | ex=>exact ho
  | loc a=>exact ho
  | tok id =>
   have gp:=ho.1;rw[hc.same]at gp;refine⟨by simp only[G.gF,List.length_append,hc.same];omega,fun m eF=>?_⟩;rcases(aN hc.same).1 eF with⟨q,eF⟩|⟨q,_⟩
   ·obtain⟨h1,h2⟩:=ho.2 m eF;refine⟨h1,fun e=>?_⟩;rcases h2 e with k|⟨l,arr,t,k1,k2⟩
    ·exact .inl k
    exact .inr ⟨l,arr,t,(aN hc.env).2 (.inl ⟨q,k1⟩),k2⟩
   omega
 | ip ha dv f hm hr ih=>exact .ip ha dv f (fun j c hj=>⟨(hm j c hj).1,fun q=>(hm j c hj).2 (hc.own q)⟩) ih
 | mp he ho jQ=>exact .mp ((aN hc.env).2 (.inl ⟨bg ho,he⟩)) ((aN hc.same).2 (.inl ⟨bg ho,ho⟩)) jQ
 | ms he ho jQ lL qZ cE=>exact .ms ((aN hc.env).2 (.inl ⟨bg ho,he⟩)) ((aN hc.same).2 (.inl ⟨bg ho,ho⟩)) jQ lL qZ cE
 | os he ho jQ lL qZ cE=>exact .os ((aN hc.env).2 (.inl ⟨bg ho,he⟩)) ((aN hc.same).2 (.inl ⟨bg ho,ho⟩)) jQ lL qZ cE
 | raw Ai ho =>
  rename_i sz n0 id a cap;have gp:=ho.1;rw[hc.same]at gp;refine .raw Ai ⟨by simp only[G.gF,List.length_append,hc.same];omega,fun m eF=>?_⟩;rcases(aN hc.same).1 eF with⟨q,eF⟩|⟨q,_⟩
  ·obtain⟨h1,h2⟩:=ho.2 m eF;refine⟨h1,fun e=>?_⟩;rcases h2 e with k|⟨l,arr,t,k1,k2⟩
   ·exact .inl k
   exact .inr ⟨l,arr,t,(aN hc.env).2 (.inl ⟨q,k1⟩),k2⟩
  omega
 | mm he ho jQ=>exact .mm ((aN hc.env).2 (.inl ⟨bg ho,he⟩)) ((aN hc.same).2 (.inl ⟨bg ho,ho⟩)) jQ
 | im hh jQ hl hk vW KA _ ih=>exact .im hh (fun off q=>jQ off (hc.own q)) hl hk vW KA ih
 | fn hl Bh _ _ ih GL=>exact .fn hl Bh ih GL
 | cD hl _ ih=>exact .cD hl ih
theorem q8.RY{g g':G}{n:Nat}(h:q8 g n g'):Good (g.gF n g') where
 frlt:=fun b off hf=>Nat.lt_of_lt_of_le (h.good.frlt b off hf) h.le.size
 fQ:=fun id l o h1 h2 h3 off hf=>by
  rcases(aN h.env).1 h1 with⟨q,h1⟩|⟨q,h1⟩
  ·rcases(aN h.same).1 h2 with⟨_,h2⟩|⟨q2,_⟩
   ·refine h.rG.fQ id l o h1 h2 h3 off ?_;rw[h.le.fr];exact .inl hf
   omega
  rcases(aN h.same).1 h2 with⟨q2,_⟩|⟨_,h2⟩
  ·omega
  exact h.good.fQ id l o h1 h2 h3 off hf
 len:=by simp[G.gF,h.env,h.same,h.good.len]
 loc:=fun id l o h1 h2 h3=>by
  rcases(aN h.env).1 h1 with⟨q,h1⟩|⟨q,h1⟩
  ·rcases(aN h.same).1 h2 with⟨_,h2⟩|⟨q2,_⟩
   ·exact h.rG.loc id l o h1 h2 h3
   omega
  rcases(aN h.same).1 h2 with⟨q2,_⟩|⟨_,h2⟩
  ·omega
  exact Nat.lt_of_lt_of_le (h.good.loc id l o h1 h2 h3) h.le.size
 apart:=fun id mh l l' o o' h1 h2 h3 k1 k2 k3 pW=>by
  have hx:∀{i:Nat} {l:Loc} {o:aj},(g.gF n g').env[i]?=some (some l)->(g.gF n g').objs[i]?=some o->(i<n∧g'.env[i]?=some (some l)∧g'.objs[i]?=some o)∨(n<=i∧g.env[i]?=some (some l)∧g.objs[i]?=some o):=by
   intro i l o h1 h2;rcases(aN h.env).1 h1 with⟨q,h1⟩|⟨q,h1⟩
   ·rcases(aN h.same).1 h2 with⟨_,h2⟩|⟨q2,_⟩
    ·exact .inl ⟨q,h1,h2⟩
    omega
   rcases(aN h.same).1 h2 with⟨q2,_⟩|⟨_,h2⟩
   ·omega
   exact .inr ⟨q,h1,h2⟩
  rcases hx h1 h2 with⟨q,e1,e2⟩|⟨q,e1,e2⟩
  ·rcases hx k1 k2 with⟨q',f1,f2⟩|⟨q',f1,f2⟩
   ·exact h.rG.apart id mh l l' o o' e1 e2 h3 f1 f2 k3 pW
   refine absurd ?_ (h.rG.fQ id l o e1 e2 h3 l'.lo);rw[h.le.fr];exact .inr ⟨mh,l',o',q',f1,f2,k3,pW.symm,Nat.le_refl _⟩
  rcases hx k1 k2 with⟨q',f1,f2⟩|⟨q',f1,f2⟩
  ·refine absurd ?_ (h.rG.fQ mh l' o' f1 f2 k3 l.lo);rw[h.le.fr];exact .inr ⟨id,l,o,q,e1,e2,h3,pW,Nat.le_refl _⟩
  exact h.good.apart id mh l l' o o' e1 e2 h3 f1 f2 k3 pW
 cells:=fun id cs h1=>by
  rcases(aN h.same).1 h1 with⟨q,h1⟩|⟨q,h1⟩
  ·obtain⟨l,arr,t,e1,e0,e2,e3,e4,e5⟩:=h.rG.cells id cs h1;exact⟨l,arr,t,(aN h.env).2 (.inl ⟨q,e1⟩),e0,e2,e3,fun j c u a b=>(e4 j c u a b).gF h,e5⟩
  obtain⟨l,arr,t,e1,e0,e2,e3,e4,e5⟩:=h.good.cells id cs h1;exact⟨l,arr,t,(aN h.env).2 (.inr ⟨q,e1⟩),e0,(h.block q e1 h1 trivial).trans e2,e3,fun j c u a b=>(e4 j c u a b).mono h.Y6,e5⟩
 spare:=fun id m l h1 h2=>by
  rcases(aN h.same).1 h1 with⟨q,h1⟩|⟨q,h1⟩
  ·rcases(aN h.env).1 h2 with⟨_,h2⟩|⟨q2,_⟩
   ·exact h.rG.spare id m l h1 h2
   omega
  rcases(aN h.env).1 h2 with⟨q2,_⟩|⟨_,h2⟩
  ·omega
  obtain⟨arr,t,e⟩:=h.good.spare id m l h1 h2;exact⟨arr,t,(h.block q h2 h1 trivial).trans e⟩
 map:=fun id kt es h1=>by
  rcases(aN h.same).1 h1 with⟨q,h1⟩|⟨q,h1⟩
  ·obtain⟨l,ob,e1,e0,e2,e3⟩:=h.rG.map id kt es h1;exact⟨l,ob,(aN h.env).2 (.inl ⟨q,e1⟩),e0,e2,e3.imp (fun p hp u r=>r.gF h) fun m clk arr q1 q2=>⟨q1,fun off q=>q2 off (h.own q)⟩⟩
  obtain⟨l,ob,e1,e0,e2,e3⟩:=h.good.map id kt es h1;exact⟨l,ob,(aN h.env).2 (.inr ⟨q,e1⟩),e0,(h.block q e1 h1 trivial).trans e2,e3.mono h.Y6⟩
theorem bd.frame{P:Program}{f:FuncId}{O O':List aj}{args:List ae}{r:ae}(h:bd P f O args fun r' O1=>r'=r∧O1=O')(hlen:O'.length=O.length)(hb:aw O.length args)(hO:∀o∈O,o.upto O.length)(X:List aj) :
  bd P f (O++X) args fun r' O1=>r'=r∧O1=O'++X:=by
 refine⟨h.1,?_⟩;intro g vs hg ho ha;have hn:O.length<=g.objs.length:=by simp[ho]
 have ir:g.objs.take O.length=O:=by simp[ho]
 have Ja:jI (g.cut O.length) args vs:=⟨ha.1,fun j c u a b=>(ha.2 j c u a b).cut hn (aV.1 hb c (List.mem_of_getElem? a))⟩
 refine(h.2 (g.cut O.length) vs (hg.cut hn (by rw[ir];exact hO)) ir Ja).mono ?_;rintro e w' ⟨g',v,r',h1,h2,h3,h4,h5,h6,h7⟩;subst h6;have hc:q8 g O.length g':=⟨hg,h3,h4,hn,by rw[h7,hlen]⟩
 exact⟨g.gF O.length g',v,r',h1,h2,hc.Y6,hc.RY,h5.gF hc,rfl,by simp[G.gF,h7,ho]⟩
end Go.Av
namespace Go.Av
open Go.ChangeShapes Go.WideShapes Go.RowKit
def g0(w:World):G:=⟨w,fun _ _=>False,[],[]⟩
theorem RW{w:World}{b off:Nat}:¬jy (g0 w) b off:=by
 rintro(h|⟨id,l,o,h1,_⟩)
 ·exact h
 simp[g0]at h1
theorem Ko{w:World}{b:Nat}:¬gm (g0 w) b:=by
 rintro⟨id,l,o,h1,_⟩;simp[g0]at h1
theorem N6(w:World):Good (g0 w) where
 frlt:=fun _ _ h=>h.elim
 fQ:=fun _ _ _ h=>by simp[g0]at h
 len:=rfl
 loc:=fun _ _ _ h=>by simp[g0]at h
 apart:=fun _ _ _ _ _ _ h=>by simp[g0]at h
 cells:=fun _ _ h=>by simp[g0]at h
 spare:=fun _ _ _ h=>by simp[g0]at h
 map:=fun _ _ _ h=>by simp[g0]at h
def Bn(P:Program)(t:TypeId):Bool :=
 match P.underlying t with
 | some (.struct _)=>true
 | some (.array _ _)=>true
 | _=>false
def GS(P:Program)(e:TypeId)(cs:List ae):ae:=if Bn P e then .agg cs else cs.getD 0 (.v (.bool false))
def MZ(S:TypeId->List ae->Prop):List TypeId->List ae->Prop
 | [],cs=>cs=[]
 | t::ts,cs=>∃a b,cs=a++b∧S t a∧MZ S ts b
def oq(P:Program):Nat->TypeId->List ae->Prop
 | 0,_,_=>False
 | n+1,t,cs=>match P.underlying t with
  | some .bool=>∃b,cs=[.v (.bool b)]
  | some (.int k)=>∃m:Int,cs=[.v (.int k m)]∧k.min<=m∧m<=k.max
  | some .string=>∃s:ByteArray,cs=[.v (.string s)]∧s.size<=reachBytes
  | some (.slice e)=>∃xs:List (List ae),cs=[.aC (P.cellsOf e) (xs.map (GS P e)) .sh]∧(∀x∈xs,oq P n e x)∧xs.length*P.bytesOf e<=reachBytes
  | some (.struct fs)=>MZ (oq P n) (fs.toList.map (·.type)) cs
  | _=>False
def RH(P:Program)(ts:List TypeId):Bool :=
 ts.all fun t=>decide (t<P.types.size)&&match P.underlying t with
  | some .bool=>true
  | some (.int _)=>true
  | some .string=>true
  | some (.slice e)=>ts.contains e&&decide (0<P.bytesOf e)&&decide (0<P.cellsOf e)&&(Bn P e || decide (P.cellsOf e=1))
  | some (.struct fs)=>fs.toList.all fun f=>ts.contains f.type
  | _=>false
def I6(g:G)(dP:List ae)(us:List Value):Prop:=dP.length=us.length∧(∀c∈dP,c.scalar)∧∀(i:Nat) c u,dP[i]?=some c->us[i]?=some u->RV g c u
theorem I6.append{g:G}{dP bs:List ae}{us vs:List Value}(h:I6 g dP us)(k:I6 g bs vs):I6 g (dP++bs) (us++vs):=by
 obtain⟨h1,h2,h3⟩:=h;obtain⟨k1,k2,k3⟩:=k;refine⟨by simp[h1,k1],fun c hc=>(List.mem_append.1 hc).elim (h2 c) (k2 c),fun i c u hc hu=>?_⟩;rw[List.getElem?_append]at hc hu;by_cases hi:i<dP.length
 ·rw[if_pos hi]at hc;rw[if_pos (by omega)]at hu;exact h3 i c u hc hu
 rw[if_neg hi]at hc;rw[if_neg (by omega),<-h1]at hu;exact k3 _ c u hc hu
theorem I6.one{g:G}{a:ae}{u:Value}(hs:a.scalar)(h:RV g a u):I6 g [a] [u]:=by
 refine⟨rfl,by simpa using hs,fun i c u' hc hu=>?_⟩;cases i with
 | zero =>
  simp at hc hu;subst hc;subst hu;exact h
 | succ i=>simp at hc
section
variable {H:Type} {enc:TypeId×Value->H} {P:Program} {w:World} {sp:Nat->Bool} {held:Bool}
theorem tZ{e:TypeId}:∀{ds:List (DataW H)} {d:DataW H},d∈ds->∀n∈d.weights P e,n∈DataW.weightsAll P e ds
 | d0::ds,d,hd,n,hn=>by
  simp only[DataW.weightsAll,List.mem_append];rcases List.mem_cons.1 hd with rfl|hd
  ·exact .inl hn
  exact .inr (tZ hd n hn)
theorem CD{α β:Type}{f:α->Option β}:∀{l:List α} {r:List β},l.mapM f=some r->r.length=l.length∧∀(i:Nat) x y,l[i]?=some x->r[i]?=some y->f x=some y
 | [],r,h=>by
  simp at h;subst h;exact⟨rfl,fun i x y hx=>by simp at hx⟩
 | a::l,r,h=>by
  rw[List.mapM_cons]at h;obtain⟨b,hb,h⟩:=Option.bind_eq_some_iff.1 h;obtain⟨r',hr,h⟩:=Option.bind_eq_some_iff.1 h;cases h;obtain⟨h1,h2⟩:=CD hr;refine⟨by simp[h1],fun i x y hx hy=>?_⟩;cases i with
  | zero =>
   simp at hx hy;subst hx;subst hy;exact hb
  | succ i=>exact h2 i x y (by simpa using hx) (by simpa using hy)
theorem sB{base:Nat}{a:Addr}{n:Nat}{cs:List Value}(h:w.cells? base a n=some cs):cs.length=n∧∀(i:Nat) u,cs[i]?=some u->w.cell? (a.add i)=some u:=by
 unfold World.cells? at h;split at h
 ·obtain⟨h1,h2⟩:=CD h;have hl:cs.length=n:=by simpa using h1
  refine⟨hl,fun i u hu=>?_⟩;have hi:=I hu;exact h2 i i u (by simp[List.getElem?_range (show i<n by omega)]) hu
 cases h
theorem tL{α β:Type}{p:α->β->Prop}:∀n:Nat,∀f:Nat->α,(∀i,i<n->∃b,p (f i) b)->∃bs:List β,bs.length=n∧∀i b,bs[i]?=some b->p (f i) b
 | 0,_,_=>⟨[],rfl,fun i b h=>by simp at h⟩
 | n+1,f,h=>by
  obtain⟨bs,h1,h2⟩:=tL n f (fun i hi=>h i (by omega));obtain⟨b,hb⟩:=h n (by omega);refine⟨bs++[b],by simp[h1],fun i c hc=>?_⟩;rcases aR hc with hc|⟨rfl,rfl⟩
  ·exact h2 i c hc
  rw[h1];exact hb
theorem BD{e:TypeId}(fu:Bn P e=true∨P.cellsOf e=1){xs:List (List ae)}(hx:∀x∈xs,x.length=P.cellsOf e∧∀c∈x,c.scalar):au (xs.map (GS P e))=xs.flatten∧∀x∈xs,(GS P e x).cells=x:=by
 have key:∀x∈xs,(GS P e x).cells=x:=fun x Nk=>by
  unfold GS;split
  ·rfl
  rename_i hn;rcases fu with h|h
  ·exact absurd h hn
  obtain⟨h1,h2⟩:=hx x Nk;rw[h]at h1
  match x,h1 with
  | [c],_ =>
   have:=h2 c (by simp);cases c<;>first|rfl|exact this.elim
 refine⟨?_,key⟩;clear hx;induction xs with
 | nil=>rfl
 | cons x xs ih =>
  simp only[List.map_cons,au,List.flatMap_cons,List.flatten_cons];rw[key x (by simp)];congr 1;exact ih fun y hy=>key y (by simp[hy])
theorem tB{n:Nat}:∀{xs:List (List ae)} (_:∀x∈xs,x.length=n) {j:Nat} {c:ae},xs.flatten[j]?=some c->∃i k x,j=i*n+k∧k<n∧xs[i]?=some x∧x[k]?=some c
 | [],_,j,c,h=>by simp at h
 | x::xs,hx,j,c,h=>by
  have hl:=hx x (by simp);rw[List.flatten_cons,List.getElem?_append]at h;split at h
  ·rename_i hj;exact⟨0,j,x,by omega,by omega,by simp,h⟩
  rename_i hj;obtain⟨i,k,y,h1,h2,h3,h4⟩:=tB (fun y hy=>hx y (by simp[hy])) h;refine⟨i+1,k,y,?_,h2,by simpa using h3,h4⟩;rw[Nat.add_mul,Nat.one_mul];omega
theorem wU{n:Nat}{cs:List Value}{S:TypeId->List ae->Prop}{ts:List TypeId}
  (ih:∀t cs' (x:DataW H×List MemPlace),t∈ts->DataW.trod enc P w 0 sp held n t cs'=some x->(∀m∈x.1.weights P t,m<=reachBytes)->∃dP,S t dP∧I6 (g0 w) dP cs') :
  ∀(fl:List Field) (o:Nat) (xs:List (DataW H×List MemPlace)),(∀f∈fl,f.type∈ts)->(∀(j:Nat) f,fl[j]?=some f->f.offset=o+((fl.take j).map fun f=>P.cellsOf f.type).sum) ->
   o+(fl.map fun f=>P.cellsOf f.type).sum<=cs.length->xs.length=fl.length ->
   (∀(i:Nat) f,fl[i]?=some f->DataW.trod enc P w 0 sp held n f.type ((cs.drop f.offset).take (P.cellsOf f.type))=xs[i]?) ->
   (∀m∈DataW.weightsEach P (fl.map (·.type)) (xs.map (·.1)),m<=reachBytes) ->
   ∃dP,MZ S (fl.map (·.type)) dP∧I6 (g0 w) dP ((cs.drop o).take (fl.map fun f=>P.cellsOf f.type).sum)
 | [],o,xs,_,_,_,_,_,_=>⟨[],rfl,by simp[I6]⟩
 | f::fl,o,[],_,_,_,hx,_,_=>by simp at hx
 | f::fl,o,y::ys,V9,VH,hlen,hx,hm,hw=>by
  have ho:f.offset=o:=by simpa using VH 0 f rfl
  simp only[List.map_cons,DataW.weightsEach,List.mem_append]at hw;simp only[List.map_cons,List.sum_cons]at hlen ⊢;obtain⟨dP,h1,h2⟩:=ih f.type _ y (V9 f (by simp)) (by simpa using hm 0 f rfl) (fun m hm=>hw m (.inl hm));obtain⟨bs,k1,k2⟩:=wU ih fl (o+P.cellsOf f.type) ys (fun g hg=>V9 g (by simp[hg])) (fun j g hg=>by
   have:=VH (j+1) g (by simpa using hg);simp only[List.take_succ_cons,List.map_cons,List.sum_cons]at this;omega) (cs:=cs) (by omega) (by simpa using hx) (fun i g hg=>by simpa using hm (i+1) g (by simpa using hg)) (fun m hm=>hw m (.inr hm))
  refine⟨dP++bs,⟨dP,bs,rfl,h1,k1⟩,?_⟩;rw[List.take_add,List.drop_drop];rw[ho]at h2;exact h2.append k2
theorem add_add{a:Addr}(hs:a.spot=none)(m k:Nat):(a.add m).add k=⟨a.block,a.off+(m+k),none⟩:=by
 cases a with
 | mk b off spot =>
  subst hs;unfold Addr.add;by_cases hm:m=0<;>by_cases hk:k=0<;>simp[hm,hk,Nat.add_assoc]
theorem AZ{a:Addr}{u:Value}(h:w.cell? a=some u):a.spot=none:=by
 unfold World.cell? at h;split at h
 ·split at h
  ·cases h
  rename_i hs;simpa using hs
 cases h
theorem C8(hl:laidOutB P=true){ts:List TypeId}(hc:RH P ts=true)(n:Nat):∀(t:TypeId) (cs:List Value) (x:DataW H×List MemPlace),t∈ts ->
  DataW.trod enc P w 0 sp held n t cs=some x->(∀m∈x.1.weights P t,m<=reachBytes)->∃dP,oq P n t dP∧I6 (g0 w) dP cs:=by
 induction n with
 | zero=>intro _ _ _ _ h;simp[DataW.trod]at h
 | succ n ih =>
  intro t cs x ht h hw;have KB:=List.all_eq_true.1 hc t ht;simp only[Bool.and_eq_true,decide_eq_true_eq]at KB;obtain⟨cP,KB⟩:=KB;cases hu:P.underlying t with
  | none=>rw[hu]at KB;cases KB
  | some d =>
   rw[hu]at KB;cases d with
   | bool =>
    obtain⟨b,rfl,rfl⟩:=DataW.trod_bool hu h;exact⟨[.v (.bool b)],by simp only[oq,hu];exact⟨b,rfl⟩,.one trivial (.v trivial)⟩
   | int k =>
    obtain⟨m,rfl,rfl,Wc⟩:=DataW.trod_int hu h;simp only[Lit.wf,Bool.and_eq_true,decide_eq_true_eq]at Wc;exact⟨[.v (.int k m)],by simp only[oq,hu];exact⟨m,rfl,Wc⟩,.one trivial (.v Wc)⟩
   | string =>
    obtain⟨s,rfl,rfl,hs⟩:=DataW.trod_string hu h;have hb:s.size<=reachBytes:=by
     have:=hw s.data.toList.length (by simp[DataW.weights]);simpa using this
    exact⟨[.v (.string s)],by simp only[oq,hu];exact⟨s,rfl,hb⟩,.one trivial (.v trivial)⟩
   | slice e =>
    simp only[Bool.and_eq_true,decide_eq_true_eq,Bool.or_eq_true,List.contains_iff_mem]at KB;obtain⟨⟨⟨he,hb⟩,EG⟩,fu⟩:=KB;rcases DataW.trod_slice hu h with⟨rfl,rfl⟩|⟨a,len,cap,elems,rest,n',jQ,rfl,rfl,_,Jd,uq,Oy,cz,_,_⟩
    ·exact⟨[.aC (P.cellsOf e) [] .sh],by simp only[oq,hu];exact⟨[],rfl,by simp,by simp[reachBytes]⟩,.one trivial (.nil (fun id h=>by cases h) (by simp))⟩
    cases jQ;simp only[DataW.weights,hu,List.mem_cons,List.mem_append]at hw;have hlen:(len+rest.length)*P.bytesOf e<=reachBytes:=by
     have:=hw _ (.inl rfl);simpa[Oy]using this
    have Q1:len*P.bytesOf e<=reachBytes:=Nat.le_trans (Nat.mul_le_mul_right _ (by omega)) hlen;have hle:len<=reachBytes:=Nat.le_trans (Nat.le_mul_of_pos_right _ hb) Q1;have KZ:∀i,i<len->∃dP:List ae,oq P n e dP∧∃us,I6 (g0 w) dP us∧w.cells? 0 (a.add (i*P.cellsOf e)) (P.cellsOf e)=some us:=fun i hi=>by
     have hy:elems[i]?=some elems[i]:=List.getElem?_eq_getElem (by omega);have h2:=cz i hi;rw[hy]at h2;obtain⟨us,h3,h4⟩:=Option.bind_eq_some_iff.1 h2;obtain⟨dP,k1,k2⟩:=ih e us elems[i] he h4 (fun m hm=>hw m (.inr (.inl (tZ (List.mem_map.2 ⟨elems[i],List.getElem_mem _,rfl⟩) m hm))));exact⟨dP,k1,us,k2,h3⟩
    obtain⟨xs,Bk,wq⟩:=tL (p:=fun(i:Nat) (dP:List ae)=>oq P n e dP∧∃us,I6 (g0 w) dP us∧w.cells? 0 (a.add (i*P.cellsOf e)) (P.cellsOf e)=some us) len id KZ;have TY:∀y∈xs,y.length=P.cellsOf e∧∀c∈y,c.scalar:=fun y hy=>by
     obtain⟨i,hi⟩:=List.mem_iff_getElem?.1 hy;obtain⟨_,us,h2,h3⟩:=wq i y hi;exact⟨h2.1.trans (sB h3).1,h2.2.1⟩
    obtain⟨UX,ZT⟩:=BD (P:=P) (by simpa using fu) TY;have Cl:xs≠[]->a.spot=none:=fun ct=>by
     match xs,ct,wq,TY with
     | y::ys,_,wq,TY =>
      obtain⟨_,us,h2,h3⟩:=wq 0 y rfl;obtain⟨h4,h5⟩:=sB h3;have h6:=h5 0 (us[0]'(by omega)) (List.getElem?_eq_getElem _);have:=AZ h6;simpa[Addr.add]using this
    refine⟨[.aC (P.cellsOf e) (xs.map (GS P e)) .sh],?_,.one trivial ?_⟩
    ·simp only[oq,hu];refine⟨xs,rfl,fun y hy=>?_,by rw[Bk];exact Q1⟩;obtain⟨i,hi⟩:=List.mem_iff_getElem?.1 hy;exact(wq i y hi).1
    have fm:∀(j:Nat) (c:ae),xs.flatten[j]?=some c->∃u,w.cell? ⟨a.block,a.off+j,none⟩=some u∧RV (g0 w) c u:=fun j c hj=>by
     obtain⟨i,k,y,h1,h2,h3,h4⟩:=tB (n:=P.cellsOf e) (fun y hy=>(TY y hy).1) hj;obtain⟨_,us,h5,h6⟩:=wq i y h3;obtain⟨h7,h8⟩:=sB h6;have hk:us[k]?=some (us[k]'(by omega)):=List.getElem?_eq_getElem _;have h9:=h8 k _ hk;have ct:xs≠[]:=fun e=>by rw[e]at h3;simp at h3
     have R0:(a.add (id i*P.cellsOf e)).add k=⟨a.block,a.off+(i*P.cellsOf e+k),none⟩:=add_add (Cl ct) _ _;rw[R0,<-h1]at h9;exact⟨_,h9,h5.2.2 k c _ h4 hk⟩
    have key:=@RV.aC (g0 w) (P.cellsOf e) (xs.map (GS P e)) .sh a cap (fun x hx=>by
     obtain⟨y,hy,rfl⟩:=List.mem_map.1 hx;rw[ZT y hy];exact(TY y hy).1) (fun x hx c hc=>by
     obtain⟨y,hy,rfl⟩:=List.mem_map.1 hx;rw[ZT y hy]at hc;exact(TY y hy).2 c hc) (by simp[Bk];exact Jd) (by simp[Bk];unfold reachBytes at hle;omega) (fun ct=>Cl (fun e=>ct (by rw[e];rfl)))
     (fun j=>(w.cell? ⟨a.block,a.off+j,none⟩).getD (.bool false)) (fun j c hj=>by
      rw[UX]at hj;obtain⟨u,h1,_⟩:=fm j c hj;refine⟨?_,RW⟩;show w.cell? _=_;rw[h1];rfl) (fun j c hj=>by
      rw[UX]at hj;obtain⟨u,h1,h2⟩:=fm j c hj;rw[h1];exact h2) trivial
    rw[List.length_map,Bk]at key;exact key
   | struct fs =>
    simp only[List.all_eq_true,List.contains_iff_mem]at KB;obtain⟨xs,n',jQ,rfl,gK,Bk,cz⟩:=DataW.trod_struct hu h;cases jQ;obtain⟨k1,k2,k3⟩:=kid_struct hl cP hu;simp only[DataW.weights,hu]at hw;obtain⟨dP,h1,h2⟩:=wU ih fs.toList 0 xs KB (fun j f hj=>by rw[k3 j f hj];omega) (by rw[gK,k2];omega) (by simpa using Bk) (fun i f hf=>cz i f (by simpa using hf)) hw;refine⟨dP,by simp only[oq,hu];exact h1,?_⟩;rw[List.drop_zero,<-k2,<-gK,List.take_length]at h2;exact h2
   | _=>cases KB
theorem qo(hl:laidOutB P=true){W W':World}{sp':Nat->Bool}:∀{ts:List TypeId} {vs:List Value} {ds:List (DataW H)} {ps:List MemPlace},(∀t∈ts,P.readableRec t=true∧t<P.types.size) ->
  DataW.TrodAll enc P W 0 (fun _=>true) true ts vs ds ps->(∀p∈ps,W.sameAt W' p)->(∀p∈ps,sp' p.block=true)->DataW.TrodAll enc P W' 0 sp' true ts vs ds ps
 | [],vs,ds,ps,_,h,_,_=>by
  obtain⟨rfl,rfl,rfl⟩:=trodAll_nil h;rfl
 | t::ts,vs,ds,ps,V9,h,h1,h2=>by
  obtain⟨v,vs',d,ds',p,q,rfl,rfl,rfl,hd,hr⟩:=trodAll_cons h;obtain⟨k1,k2⟩:=V9 t (by simp);exact⟨p,q,WideElems.Trod_stays hl k1 k2 hd (fun x hx=>h1 x (List.mem_append.2 (.inl hx))) (fun x hx=>h2 x (List.mem_append.2 (.inl hx))),
   qo hl (fun t ht=>V9 t (by simp[ht])) hr (fun x hx=>h1 x (List.mem_append.2 (.inr hx))) (fun x hx=>h2 x (List.mem_append.2 (.inr hx))),rfl⟩
theorem AG(hl:laidOutB P=true){fn:Func}{s:ChangeSpec}{apart fresh handsOn again:Bool}{W:World}{args:Array Value}{ds gs:List (DataW H)}{before:List MemPlace}{f:FuncId}{xs:List ae}{tb:TypeId}
  (xO:∀t∈fn.params.toList,P.readableRec t=true∧t<P.types.size) (Cp:s.vars=[]) (eX:fn.resultTypes = #[tb]) (htb:P.underlying tb=some .bool)
  (hW:DataW.Whole enc P fn.params.toList s.vars apart W args.toList ds gs before)
  (mV:s.fn H (ds++gs) = { results:=[.lit (.bool true)],args:=ds })
  (TP:bD P f xs (.v (.bool true))) (hRV:jI (g0 W) xs args) :
  Calls P f args W fun e W'=>∃v,e=.returned v∧s.post enc P fn apart fresh handsOn again W args v W':=by
 refine(TP.2 (g0 W) args (N6 W) rfl hRV).mono fun e W' ⟨g',v,r,h1,h2,h3,_,h5,h6,_⟩=>?_;subst h6;cases h5;subst h2;have ED:Below W.heap.size W g'.w:=⟨h3.os,h3.tape,h3.output,h3.size,fun k hk=>(h3.block k hk Ko).1⟩
 have bg:=hW.lt;obtain⟨p,q,hA,hV,rfl,Z1,uM⟩:=id hW;have hq:gs=[]∧q=[]:=trodVars_none (by rw[Cp]at hV;exact hV);obtain⟨rfl,rfl⟩:=hq;simp only[List.append_nil]at bg Z1 uM mV;have ew:∀x∈p,W.sameAt g'.w x:=fun x hx=>ED.same (bg x hx);have fG:∀sp:Nat->Bool,(∀x∈p,sp x.block=true)->DataW.TrodAll enc P g'.w 0 sp true fn.params.toList args.toList ds p:=fun sp nW=>qo hl xO hA ew nW;have hR:∀(b:Nat) (sp:Nat->Bool) (hd:Bool),DataW.TrodAll enc P g'.w b sp hd fn.resultTypes.toList ((Value.bool true).resultList fn.resultTypes.size) [.lit (.bool true)] []:=fun b sp hd=>by
  rw[eX];exact trodAll_mk1 (shut_bool htb true)
 have hvn:∀sp:Nat->Bool,DataW.TrodVars enc P g'.w sp s.vars [] []:=fun sp=>by
  rw[Cp];rfl
 refine⟨_,h1,ds,[],p++[],[],p,[],hW,?_,?_,?_,ED.frame _,fun _=>⟨?_,[.lit (.bool true)]++ds,[],([]++p)++[],⟨[]++p,[],?_,hvn _,rfl,?_,?_⟩,?_⟩⟩
 ·rw[List.append_nil,mV];exact hR _ _ _
 ·rw[List.append_nil,mV];exact fG _ fun x hx=>by simpa using bg x hx
 ·rw[List.append_nil,mV];exact hvn _
 ·exact ok_one eX rfl (okWide_bool_mk htb true)
 ·exact trodAll_append (fG (fun _=>true) fun _ _=>rfl) (hR _ _ _)
 ·intro b off hx;simp only[List.nil_append,List.append_nil]at hx;rw[ED.frozen (p:=⟨b,off,none⟩) (bg _ hx)];exact Z1 b off hx
 ·intro ha;simpa using uM ha
 intro x hx _;simpa using hx
end
section
variable {P:Program} {n:Nat} {t:TypeId} {cs:List ae}
theorem oq.int{k:IntKind}(hu:P.underlying t=some (.int k))(h:oq P n t cs):∃m:Int,cs=[.v (.int k m)]∧k.min<=m∧m<=k.max:=by
 cases n with
 | zero=>exact h.elim
 | succ n =>
  simp only[oq,hu]at h;exact h
theorem oq.struct{fs:Array Field}(hu:P.underlying t=some (.struct fs))(h:oq P n t cs):∃m,n=m+1∧MZ (oq P m) (fs.toList.map (·.type)) cs:=by
 cases n with
 | zero=>exact h.elim
 | succ n =>
  simp only[oq,hu]at h;exact⟨n,rfl,h⟩
theorem oq.slice{e:TypeId}(hu:P.underlying t=some (.slice e))(h:oq P n t cs):∃m,n=m+1∧∃xs:List (List ae),cs=[.aC (P.cellsOf e) (xs.map (GS P e)) .sh]∧(∀x∈xs,oq P m e x)∧xs.length*P.bytesOf e<=reachBytes:=by
 cases n with
 | zero=>exact h.elim
 | succ n =>
  simp only[oq,hu]at h;exact⟨n,rfl,h⟩
theorem CE{α:Type}{f:α->ae}{Q:α->Prop}{g:List ae->ae}:∀{xs:List (List ae)},(∀x∈xs,∃a,g x=f a∧Q a)->∃l:List α,xs.map g=l.map f∧∀a∈l,Q a
 | [],_=>⟨[],rfl,by simp⟩
 | x::xs,h=>by
  obtain⟨a,ha,hq⟩:=h x (by simp);obtain⟨l,hl,hql⟩:=CE (xs:=xs) fun y hy=>h y (by simp[hy]);exact⟨a::l,by simp[ha,hl],by simpa using⟨hq,hql⟩⟩
theorem oq.Cw{α:Type}{f:α->ae}{Q:α->Prop}{e:TypeId}(hu:P.underlying t=some (.slice e))(h:oq P n t cs)(hd:∀m,m<n->∀x,oq P m e x->∃a,GS P e x=f a∧Q a) :
  ∃l:List α,cs=[.aC (P.cellsOf e) (l.map f) .sh]∧l.length*P.bytesOf e<=reachBytes∧∀a∈l,Q a:=by
 obtain⟨m,rfl,xs,rfl,h1,h2⟩:=h.slice hu;obtain⟨l,hl,hq⟩:=CE (f:=f) (Q:=Q) fun x hx=>hd m (by omega) x (h1 x hx);refine⟨l,by rw[hl],?_,hq⟩;have:xs.length=l.length:=by
  have:=congrArg List.length hl;simpa using this
 rw[<-this];exact h2
end
end Go.Av
namespace Go.Av
theorem db{P:Program}{kb:Nat}{c:Code}{Q:dE->St->Prop}{n:Nat}{br:List (Nat×ae)}{O:List aj}(k off:Nat){sz:Nat}{cs xs:List ae}(lM:O[k]?=some (.cells cs))(ON:cs[off]?=some (.aC sz xs .ex))
  (h:cc P kb c Q ⟨n,br,(O++[aj.spare xs.length]).set k (.cells (cs.set off (.aC sz xs (.tok O.length))))⟩):cc P kb c Q ⟨n,br,O⟩ :=
 h.weaken fun base a g hb hr=>by
  have hO:g.objs=O:=hr.objs;have Vs:=Le.mark hr.good (aj.spare xs.length);have Vi:=Good.mark hr.good xs.length;have hkO:g.objs[k]?=some (.cells cs):=by rw[hO];exact lM
  have OO:(g.mark (aj.spare xs.length)).objs[k]?=some (.cells cs):=dd hkO;obtain⟨l,arr,t,e1,e2,e3,e4,e5,e6⟩:=Vi.cells k cs OO;have V5:ld (g.mark (aj.spare xs.length)) k (.cells cs) (some l) (.cells (cs.set off (.aC sz xs (.tok O.length)))) g.w:={
   obj:=OO
   os:=rfl
   tape:=rfl
   output:=rfl
   size:=Nat.le_refl _
   block:=fun _ _ _=>rfl
   cell:=fun b off x hx _=>hx
   place:=fun l1 h1 _=>by
    simp only[Option.some.injEq]at h1;subst h1;exact .inr ⟨l,e1,trivial,rfl,Nat.le_refl _⟩
   spare:=fun m h=>by cases h
   plain:=fun _=>⟨by simp[aj.aF],e1⟩
   gone:=by simp }
  have Cg:=Le.bB Vi V5;have EM:=Good.bB Vi V5 ⟨l,arr,t,rfl,e2,e3,by simpa using e4,fun j d u hd hu=>by
   rw[List.getElem?_set]at hd;split at hd
   ·rename_i hj;subst hj;split at hd
    ·simp only[Option.some.injEq]at hd;subst hd;have hv:=(e5 off _ u ON hu).mono Cg;cases hv with
     | nil=>exact .nil (fun id e=>by
      simp only[nR.tok.injEq]at e;subst e;simp[G.bB,G.mark,hO]) (by simp)
     | aC cP dv cY cE hs f hm hr ho =>
      refine .aC cP dv cY cE hs f hm hr ⟨by simp[G.bB,G.mark,hO],fun m eF=>?_⟩;have ct:k≠O.length:=by
       have:=I lM;omega
      have:((g.mark (aj.spare xs.length)).bB k (some l) (.cells (cs.set off (.aC sz xs (.tok O.length)))) g.w).objs[O.length]?=some (.spare xs.length):=by
       simp only[G.bB];rw[List.getElem?_set_ne ct,<-hO];exact ff
      rw[this]at eF;simp only[Option.some.injEq,aj.spare.injEq]at eF;exact⟨by omega,fun _=>.inl ho⟩
    cases hd
   ·exact(e5 j d u hd hu).mono Cg,fun d hd=>by
   rcases List.mem_or_eq_of_mem_set hd with q|q
   ·exact e6.1 d q
   subst q;trivial,e6.2⟩ (fun l1 h1 _=>by
   simp only[Option.some.injEq]at h1;subst h1;exact aW e3)
  exact⟨(g.mark (aj.spare xs.length)).bB k (some l) (.cells (cs.set off (.aC sz xs (.tok O.length)))) g.w,rfl,{ le:=(hr.le.trans Vs).trans Cg,good:=EM,objs:=by simp[G.mark,G.bB,hO],size:=hr.size,defers:=hr.defers,slot:=fun s y hy=>(hr.slot s y hy).imp fun u hu=>⟨hu.1,(hu.2.mono Vs).mono Cg⟩ }⟩
def Au(τ:St)(Q:dE->St->Prop):dE->St->Prop
 | .norm,σ=>bc σ τ
 | e,σ=>Q e σ
theorem gI{P:Program}{kb:Nat}{x y:Code}{Q:dE->St->Prop}{σ:St}(τ:St)(h1:cc P kb x (Au τ Q) σ)(h2:cc P kb y Q τ):cc P kb (.seq x y) Q σ :=
 aJ (h1.mono fun e fY h=>by cases e<;>first|exact h2.cover h|exact h)
theorem Ul{P:Program}{kb:Nat}{x y z:Code}{Q:dE->St->Prop}{σ:St}(τ:St)(h1:cc P kb x (Au τ (bK P kb z Q)) σ)(h2:cc P kb y (bK P kb z Q) τ):cc P kb (.seq (.seq x y) z) Q σ :=
 aJ (gI τ h1 h2)
theorem kg{P:Program}{kb:Nat}{x y:Code}{Q:dE->St->Prop}{σ:St}(τ:St)(h1:cc P kb x (Au τ Q) σ)(h2:cc P kb y Q τ):cc P kb x (bK P kb y Q) σ :=
 h1.mono fun e fY h=>by cases e<;>first|exact h2.cover h|exact h

def r8(A:List Nat)(N k:Nat):Nat:=if k<A.length then A.getD k 0 else N+(k-A.length)
def Kind.nH(A:List Nat)(N:Nat):Kind->Kind
 | .rd id=>.rd (r8 A N id)
 | .wr n l=>.wr (r8 A N n) (l.map (r8 A N))
 | .new id=>.new (r8 A N id)
 | k=>k
def Kind.fresh(m:Nat):Kind->Bool
 | .wr n _=>decide (m<=n)
 | _=>true
theorem C1{A:List Nat}{N:Nat}(hn:A.Nodup)(hA:∀a∈A,a<N){i j:Nat}(h:r8 A N i=r8 A N j):i=j:=by
 unfold r8 at h;have fm:∀k,k<A.length->A.getD k 0∈A:=fun k hk=>by
  rw[List.getD_eq_getElem?_getD,List.getElem?_eq_getElem hk];exact List.getElem_mem hk
 split at h<;>split at h
 ·rename_i h1 h2;rw[List.getD_eq_getElem?_getD,List.getElem?_eq_getElem h1,List.getD_eq_getElem?_getD,List.getElem?_eq_getElem h2]at h;exact(List.getElem_inj hn).1 h
 ·rename_i h1 h2;have:=hA _ (fm i h1);omega
 ·rename_i h1 h2;have:=hA _ (fm j h2);omega
 omega
theorem Ph{A:List Nat}{N:Nat}(hA:∀a∈A,a<N){i n:Nat}(hn:A.length<=n)(h:i<n):r8 A N i<r8 A N n:=by
 unfold r8;have fm:∀k,k<A.length->A.getD k 0∈A:=fun k hk=>by
  rw[List.getD_eq_getElem?_getD,List.getElem?_eq_getElem hk];exact List.getElem_mem hk
 rw[if_neg (show ¬n<A.length by omega)];split
 ·rename_i h1;have:=hA _ (fm i h1);omega
 omega
theorem wx{A:List Nat}{N:Nat}(hn:A.Nodup)(hA:∀a∈A,a<N){k l:Kind}(hk:k.fresh A.length=true)(hl:l.fresh A.length=true)(h:bU k l=true):bU (k.nH A N) (l.nH A N)=true:=by
 have key:∀{id n:Nat} {L:List Nat},A.length<=n->id<n->id ∉ L->r8 A N id<r8 A N n∧r8 A N id ∉ L.map (r8 A N):=fun h1 h2 h3 =>
  ⟨Ph hA h1 h2,fun hm=>by
   obtain⟨x,hx,e⟩:=List.mem_map.1 hm;have:=C1 hn hA e;subst this;exact h3 hx⟩
 cases k<;>cases l<;>first
  | exact h
  | (simp only[bU]at h;cases h)
  | (simp only[Kind.nH,bU,Bool.not_eq_true',decide_eq_false_iff_not]at h ⊢;exact fun e=>h (C1 hn hA e))
  | (simp only[Kind.fresh,decide_eq_true_eq]at hk hl
     simp only[Kind.nH,bU,Bool.and_eq_true,decide_eq_true_eq,Bool.not_eq_true',List.contains_eq_mem,decide_eq_false_iff_not]at h ⊢;exact key (by assumption) h.1 h.2)
theorem cg{ops:Array Oper}{ks:List Kind}(A:List Nat)(N:Nat)(tK:List Kind)(hn:A.Nodup)(hA:∀a∈A,a<N)(e:tK.map (Kind.nH A N)=ks)(hf:tK.all (Kind.fresh A.length)=true)(h:o6 ops tK=true):o6 ops ks=true:=by
 subst e;simp only[o6,Bool.and_eq_true,List.all_eq_true,Bool.or_eq_true,List.length_map]at h ⊢;refine⟨h.1,fun i hi j hj=>?_⟩;rcases h.2 i hi j hj with q|q
 ·exact .inl q
 refine .inr ?_;have oc:∀i,(tK.map (Kind.nH A N)).getD i .write=(tK.getD i .write).nH A N:=fun i=>by
  rw[List.getD_eq_getElem?_getD,List.getD_eq_getElem?_getD,List.getElem?_map];cases tK[i]?<;>rfl
 have eh:∀i,(tK.getD i .write).fresh A.length=true:=fun i=>by
  rw[List.getD_eq_getElem?_getD];cases hi:tK[i]? with
  | none=>rfl
  | some x=>exact List.all_eq_true.1 hf x (List.mem_of_getElem? hi)
 rw[oc,oc];unfold indep at q ⊢;split at q
 ·rename_i oj oi h1 h2;simp only[Bool.and_eq_true]at q ⊢;exact⟨q.1,wx hn hA (eh j) (eh i) q.2⟩
 cases q
theorem AO{σ:St}:∀{l:List (Nat×ae)},(∀p∈l,∃x,σ.get p.1=some x∧Sub σ.objs x p.2)->fj σ l
 | [],_=>trivial
 | (s,y)::r,h=>⟨h (s,y) (by simp),AO fun p hp=>h p (by simp[hp])⟩
theorem vg{P:Program}{kb:Nat}{c:Code}{Q:dE->St->Prop}{n:Nat}{br:List (Nat×ae)}{O:List aj}{o:aj}(s:Nat){x:ae}(y:ae)(cF:List (Nat×ae))(hx:look br s=some x)
  (hp:¬o.aF) (hl:o.live) (hf:bQ (O++[o]) O.length x y) (HQ:kb<=O.length) (hs:∀p∈cF,look (bF s y br) p.1=some p.2) (bG:∀o∈O,o.upto O.length) (mW:∀p∈cF,p.2.upto O.length)
  (h:cc P kb c Q ⟨n,cF,O⟩):cc P kb c Q ⟨n,br,O++[o]⟩:=by
 refine aD s O.length (o:=o) y (lA _ _) hp hl hx hf ?_;rw[wZ];have fX:∀s x,look cF s=some x->(s,x)∈cF:=fun s x hl=>rR hl;exact sy O.length (by simp) HQ cF (by rw[zo];exact bG) (AO fun p hp=>⟨p.2,hs p hp,Sub.refl _⟩) (fun k x hk=>mW (k,x) (fX k x hk)) (by rw[zo];exact h)
theorem aY{P:Program}{kb:Nat}{c:Code}{Q:dE->St->Prop}{n:Nat}{br:List (Nat×ae)}{O:List aj}{cs:List ae}(s:Nat)(ds:List ae)(cF:List (Nat×ae))(hx:look br s=some (.mp O.length 0))
  (uK:cs.map ae.bk=ds) (HQ:kb<=O.length) (hs:∀p∈cF,look (bF s (.ip none ds) br) p.1=some p.2) (bG:∀o∈O,o.upto O.length) (mW:∀p∈cF,p.2.upto O.length)
  (h:cc P kb c Q ⟨n,cF,O⟩):cc P kb c Q ⟨n,br,O++[.cells cs]⟩ :=
 vg s (.ip none ds) cF hx (by simp[aj.aF]) trivial (bQ.mp (cs:=cs) (lA _ _) (by rw[List.drop_zero,uK])) HQ hs bG mW h
theorem DT{P:Program}{kb:Nat}{c:Code}{Q:dE->St->Prop}{n:Nat}{br:List (Nat×ae)}{O:List aj}{cs:List ae}(s:Nat){len cap sz:Nat}(xs:List ae)(cF:List (Nat×ae))(hx:look br s=some (.ms O.length 0 len cap))
  (cP:∀x∈xs,x.cells.length=sz) (hlen:xs.length=len) (hd:(cs.take (len*sz)).map ae.bk=au xs) (HQ:kb<=O.length) (hs:∀p∈cF,look (bF s (.aC sz xs .sh) br) p.1=some p.2) (bG:∀o∈O,o.upto O.length) (mW:∀p∈cF,p.2.upto O.length)
  (h:cc P kb c Q ⟨n,cF,O⟩):cc P kb c Q ⟨n,br,O++[.cells cs]⟩ :=
 vg s (.aC sz xs .sh) cF hx (by simp[aj.aF]) trivial (bQ.ms (cs:=cs) (lA _ _) cP hlen (by rw[List.drop_zero,hd])) HQ hs bG mW h
theorem b7{P:Program}{kb:Nat}{c:Code}{Q:dE->St->Prop}{n:Nat}{br:List (Nat×ae)}{O X:List aj}{cs:List ae}(s k:Nat)(ds:List ae)(hX:X[k]?=some (.cells cs))(hx:look br s=some (.mp (O.length+k) 0))
  (uK:cs.map ae.bk=ds) (h:cc P kb c Q ⟨n,bF s (.ip none ds) br,O++X.set k .gone⟩):cc P kb c Q ⟨n,br,O++X⟩:=by
 have gp:(O++X)[O.length+k]?=some (.cells cs):=by
  rw[List.getElem?_append_right (by omega),Nat.add_sub_cancel_left,hX]
 refine aD s (O.length+k) (o:=.cells cs) (.ip none ds) gp (by simp[aj.aF]) trivial hx (bQ.mp (cs:=cs) gp (by rw[List.drop_zero,uK])) ?_;rw[List.set_append_right _ _ (by omega),Nat.add_sub_cancel_left];exact h
theorem NG{P:Program}{kb:Nat}{c:Code}{Q:dE->St->Prop}{n:Nat}{br:List (Nat×ae)}{O X:List aj}(j:Nat)(Y:List aj)(cF:List (Nat×ae))(hY:X.take j=Y)(hj:j<=X.length)(HQ:kb<=O.length)(hs:∀p∈cF,look br p.1=some p.2)
  (hO:∀o∈O,o.upto (O.length+j)) (hX:∀o∈Y,o.upto (O.length+j)) (mW:∀p∈cF,p.2.upto (O.length+j)) (h:cc P kb c Q ⟨n,cF,O++Y⟩):cc P kb c Q ⟨n,br,O++X⟩:=by
 have e:(O++X).take (O.length+j)=O++Y:=by
  rw[List.take_append,List.take_of_length_le (by omega),Nat.add_sub_cancel_left,hY]
 refine sy (O.length+j) (by simp;omega) (by omega) cF ?_ (AO fun p hp=>⟨p.2,hs p hp,Sub.refl _⟩) (fun k x hk=>mW (k,x) (rR hk)) (by rw[e];exact h);rw[e];intro o ho;rcases List.mem_append.1 ho with q|q
 ·exact hO o q
 exact hX o q
end Go.Av
namespace Go.Proofs.YtjdnhamngpafmaaGreat
open Go.Av
def Zc:=And.intro @Wt <|
 And.intro @Wu <|
 And.intro @Wv <|
 And.intro @Ww <|
 And.intro @Wx <|
 And.intro @Wy <|
 And.intro @S7 <|
 And.intro @S8 <|
 And.intro @S9 <|
 And.intro @FU <|
 And.intro @S' <|
 And.intro @Ta <|
 And.intro @Tb <|
 And.intro @Tc <|
 And.intro @Td <|
 And.intro @Te <|
 And.intro @Tf <|
 And.intro @Tg <|
 And.intro @FV <|
 And.intro @Th <|
 And.intro @Ti <|
 And.intro @Tj <|
 And.intro @Tk <|
 And.intro @Tm <|
 And.intro @Tn <|
 And.intro @To <|
 And.intro @Tp <|
 And.intro @Tq <|
 And.intro @PC <|
 And.intro @PD <|
 And.intro @PE <|
 And.intro @PF <|
 And.intro @PG <|
 And.intro @GZ <|
 And.intro @PH <|
 And.intro @PI <|
 And.intro @G0 <|
 And.intro @PJ <|
 And.intro @PK <|
 And.intro @PL <|
 And.intro @PM <|
 And.intro @PN <|
 And.intro @PQ <|
 And.intro @G1 <|
 And.intro @PR <|
 And.intro @PS <|
 And.intro @G2 <|
 And.intro @PT <|
 And.intro @PU <|
 And.intro @PV <|
 And.intro @PW <|
 And.intro @PX <|
 And.intro @PY <|
 And.intro @PZ <|
 And.intro @P0 <|
 And.intro @P1 <|
 And.intro @P3 <|
 And.intro @P4 <|
 And.intro @P5 <|
 And.intro @P6 <|
 And.intro @P7 <|
 And.intro @Ins.ak <|
 And.intro @Ins.fold <|
 And.intro @Ins.al <|
 And.intro @Ins.du <|
 And.intro @Ins.aQ <|
 And.intro @Ins.ag <|
 And.intro @Ins.av <|
 And.intro @Edge.ak <|
 And.intro @Edge.fold <|
 And.intro @Edge.al <|
 And.intro @Edge.du <|
 And.intro @Edge.aQ <|
 And.intro @Edge.ag <|
 And.intro @Edge.av <|
 And.intro @Term.ak <|
 And.intro @Term.fold <|
 And.intro @Term.al <|
 And.intro @Term.du <|
 And.intro @Term.aQ <|
 And.intro @Term.ag <|
 And.intro @Term.av <|
 And.intro @Block.ak <|
 And.intro @Block.fold <|
 And.intro @Block.al <|
 And.intro @Block.du <|
 And.intro @Block.aQ <|
 And.intro @Block.ag <|
 And.intro @Block.av <|
 And.intro @Func.ak <|
 And.intro @Func.fold <|
 And.intro @Func.al <|
 And.intro @Func.du <|
 And.intro @Func.aQ <|
 And.intro @Func.ag <|
 And.intro @Func.av <|
 And.intro @bY.ak <|
 And.intro @bY.fold <|
 And.intro @bY.al <|
 And.intro @bY.du <|
 And.intro @bY.aQ <|
 And.intro @bY.ag <|
 And.intro @bY.av <|
 And.intro @SV.jN <|
 And.intro @SV.ak <|
 And.intro @SV.fold <|
 And.intro @SV.al <|
 And.intro @SV.du <|
 And.intro @SV.av <|
 And.intro @SV.Ha <|
 And.intro @cn <|
 And.intro @Hu <|
 And.intro @Js <|
 And.intro @az <|
 And.intro @Y4 <|
 And.intro @Lb <|
 And.intro @lQ <|
 And.intro @Gc <|
 And.intro @Db <|
 And.intro @LP <|
 And.intro @LS <|
 And.intro @LR <|
 And.intro @Mb <|
 And.intro @List.take_length.{0} <|
 And.intro @List.append_assoc.{0} <|
 And.intro @List.cons_append.{0} <|
 @List.nil_append.{0}
def zp:=And.intro Zb <|And.intro @ne_eq.{1} <|And.intro @implies_true.{0} <|And.intro @implies_true.{1} <|Zc
def zt:=And.intro and_true <|And.intro true_and and_self
def zu:=And.intro @Ins.aQ <|And.intro @Ins.ag <|And.intro @Edge.aQ <|And.intro @Edge.ag <|And.intro @Term.aQ <|And.intro @Term.ag <|And.intro @Block.aQ <|And.intro @Block.ag <|And.intro @Func.aQ <|And.intro @Func.ag <|And.intro @bY.aQ <|And.intro @bY.ag <| @az
theorem kC{kb:Nat}{id:Nat}{l:List Oper}{draw:Bool}{Q:dE->St->Prop}{σ:St}(h:eA Tryz.prog aT ⟨false,false⟩ l 0 [] σ [] fun τ ks=>gG draw (fun _=>dF l.toArray ks.reverse)∧At τ (Q .norm)):cc Tryz.prog kb (.region id l.toArray draw) Q σ:=gR _ hT hm h
theorem aS{kb:Nat}{id:Nat}{l:List Oper}{draw:Bool}{Q:dE->St->Prop}{σ:St}{x:Code}(h:eA Tryz.prog aT ⟨false,false⟩ l 0 [] σ [] fun τ ks=>gG draw (fun _=>dF l.toArray ks.reverse)∧At τ (bK Tryz.prog kb x Q .norm)):cc Tryz.prog kb (.seq (.region id l.toArray draw) x) Q σ:=aJ (kC h)
theorem c9{kb:Nat}{id:Nat}{l:List Oper}{draw:Bool}{Q:dE->St->Prop}{σ:St}{x y:Code}(h:eA Tryz.prog aT ⟨false,false⟩ l 0 [] σ [] fun τ ks=>gG draw (fun _=>dF l.toArray ks.reverse)∧At τ (bK Tryz.prog kb x (bK Tryz.prog kb y Q) .norm)):cc Tryz.prog kb (.seq (.seq (.region id l.toArray draw) x) y) Q σ:=aJ (aS h)
theorem zg3{kb:Nat}{id:Nat}{l:List Oper}{draw:Bool}{Q:dE->St->Prop}{σ:St}{x y z:Code}(h:eA Tryz.prog aT ⟨false,false⟩ l 0 [] σ [] fun τ ks=>gG draw (fun _=>dF l.toArray ks.reverse)∧At τ (bK Tryz.prog kb x (bK Tryz.prog kb y (bK Tryz.prog kb z Q)) .norm)):cc Tryz.prog kb (.seq (.seq (.seq (.region id l.toArray draw) x) y) z) Q σ:=aJ (c9 h)
theorem zm0{kb:Nat}{id:Nat}{l:List Oper}{draw:Bool}{Q:dE->St->Prop}{σ:St}(h:eA Tryz.prog aT ⟨true,false⟩ l 0 [] σ [] fun τ ks=>gG draw (fun _=>dF l.toArray ks.reverse)∧At τ (Q .norm)):cc Tryz.prog kb (.region id l.toArray draw) Q σ:=gR _ hT hm h
theorem zm1{kb:Nat}{id:Nat}{l:List Oper}{draw:Bool}{Q:dE->St->Prop}{σ:St}{x:Code}(h:eA Tryz.prog aT ⟨true,false⟩ l 0 [] σ [] fun τ ks=>gG draw (fun _=>dF l.toArray ks.reverse)∧At τ (bK Tryz.prog kb x Q .norm)):cc Tryz.prog kb (.seq (.region id l.toArray draw) x) Q σ:=aJ (zm0 h)
theorem zm2{kb:Nat}{id:Nat}{l:List Oper}{draw:Bool}{Q:dE->St->Prop}{σ:St}{x y:Code}(h:eA Tryz.prog aT ⟨true,false⟩ l 0 [] σ [] fun τ ks=>gG draw (fun _=>dF l.toArray ks.reverse)∧At τ (bK Tryz.prog kb x (bK Tryz.prog kb y Q) .norm)):cc Tryz.prog kb (.seq (.seq (.region id l.toArray draw) x) y) Q σ:=aJ (zm1 h)
theorem Qw{kb:Nat}{id:Nat}{l:List Oper}{draw:Bool}{Q:dE->St->Prop}{σ:St}(h:eA Tryz.prog aT ⟨true,true⟩ l 0 [] σ [] fun τ ks=>gG draw (fun _=>dF l.toArray ks.reverse)∧At τ (Q .norm)):cc Tryz.prog kb (.region id l.toArray draw) Q σ:=gR _ hT hm h
theorem zs1{kb:Nat}{id:Nat}{l:List Oper}{draw:Bool}{Q:dE->St->Prop}{σ:St}{x:Code}(h:eA Tryz.prog aT ⟨true,true⟩ l 0 [] σ [] fun τ ks=>gG draw (fun _=>dF l.toArray ks.reverse)∧At τ (bK Tryz.prog kb x Q .norm)):cc Tryz.prog kb (.seq (.region id l.toArray draw) x) Q σ:=aJ (Qw h)
theorem zs2{kb:Nat}{id:Nat}{l:List Oper}{draw:Bool}{Q:dE->St->Prop}{σ:St}{x y:Code}(h:eA Tryz.prog aT ⟨true,true⟩ l 0 [] σ [] fun τ ks=>gG draw (fun _=>dF l.toArray ks.reverse)∧At τ (bK Tryz.prog kb x (bK Tryz.prog kb y Q) .norm)):cc Tryz.prog kb (.seq (.seq (.region id l.toArray draw) x) y) Q σ:=aJ (zs1 h)
theorem zv0{kb:Nat}{id:Nat}{l:List Oper}{draw:Bool}{Q:dE->St->Prop}{σ:St}(h:eA Tryz.prog aT ⟨false,true⟩ l 0 [] σ [] fun τ ks=>gG draw (fun _=>dF l.toArray ks.reverse)∧At τ (Q .norm)):cc Tryz.prog kb (.region id l.toArray draw) Q σ:=gR _ hT hm h
theorem zv1{kb:Nat}{id:Nat}{l:List Oper}{draw:Bool}{Q:dE->St->Prop}{σ:St}{x:Code}(h:eA Tryz.prog aT ⟨false,true⟩ l 0 [] σ [] fun τ ks=>gG draw (fun _=>dF l.toArray ks.reverse)∧At τ (bK Tryz.prog kb x Q .norm)):cc Tryz.prog kb (.seq (.region id l.toArray draw) x) Q σ:=aJ (zv0 h)
theorem zv2{kb:Nat}{id:Nat}{l:List Oper}{draw:Bool}{Q:dE->St->Prop}{σ:St}{x y:Code}(h:eA Tryz.prog aT ⟨false,true⟩ l 0 [] σ [] fun τ ks=>gG draw (fun _=>dF l.toArray ks.reverse)∧At τ (bK Tryz.prog kb x (bK Tryz.prog kb y Q) .norm)):cc Tryz.prog kb (.seq (.seq (.region id l.toArray draw) x) y) Q σ:=aJ (zv1 h)
theorem aP{kb:Nat}{c:Operand}{x y:Code}{Q:dE->St->Prop}{σ:St}{b:Bool}(hc:σ.ev c=some (.v (.bool b)))(ht:b=true->cc Tryz.prog kb x Q σ)(hf:b=false->cc Tryz.prog kb y Q σ):cc Tryz.prog kb (.cond c x y) Q σ:=oy hc ht hf
theorem iz{kb:Nat}{c:Operand}{x y z:Code}{Q:dE->St->Prop}{σ:St}{b:Bool}(hc:σ.ev c=some (.v (.bool b)))(ht:b=true->cc Tryz.prog kb x (bK Tryz.prog kb z Q) σ)(hf:b=false->cc Tryz.prog kb y (bK Tryz.prog kb z Q) σ):cc Tryz.prog kb (.seq (.cond c x y) z) Q σ:=aJ (oy hc ht hf)
theorem zk2{kb:Nat}{c:Operand}{x y z w:Code}{Q:dE->St->Prop}{σ:St}{b:Bool}(hc:σ.ev c=some (.v (.bool b)))(ht:b=true->cc Tryz.prog kb x (bK Tryz.prog kb z (bK Tryz.prog kb w Q)) σ)(hf:b=false->cc Tryz.prog kb y (bK Tryz.prog kb z (bK Tryz.prog kb w Q)) σ) :
  cc Tryz.prog kb (.seq (.seq (.cond c x y) z) w) Q σ:=aJ (aJ (oy hc ht hf))
theorem ah{kb:Nat}{c:Code}{Q:dE->St->Prop}{σ:St}(h:cc Tryz.prog kb c Q σ):At σ (bK Tryz.prog kb c Q .norm):=h
theorem cd{kb:Nat}{c:Code}{Q:dE->St->Prop}{σ:St}{E5:Nat}(h:cc Tryz.prog kb c Q σ):cc Tryz.prog E5 .skip (bK Tryz.prog kb c Q) σ:=a6 h
theorem za1{kb:Nat}{c:Code}{Q:dE->St->Prop}{σ:St}{b0:Nat}(h:cc Tryz.prog kb c Q σ):At σ (bO b0 (bK Tryz.prog kb c Q) .norm):=h
theorem la{kb:Nat}{c:Code}{Q:dE->St->Prop}{σ:St}{b0:Nat}{E5:Nat}(h:cc Tryz.prog kb c Q σ):cc Tryz.prog E5 .skip (bO b0 (bK Tryz.prog kb c Q)) σ:=a6 h
theorem za2{kb:Nat}{c:Code}{Q:dE->St->Prop}{σ:St}{b0:Nat}{b1:Nat}(h:cc Tryz.prog kb c Q σ):At σ (bO b1 (bO b0 (bK Tryz.prog kb c Q)) .norm):=h
theorem Ze{kb:Nat}{c:Code}{Q:dE->St->Prop}{σ:St}{b0:Nat}{b1:Nat}{E5:Nat}(h:cc Tryz.prog kb c Q σ):cc Tryz.prog E5 .skip (bO b1 (bO b0 (bK Tryz.prog kb c Q))) σ:=a6 h
theorem za3{kb:Nat}{c:Code}{Q:dE->St->Prop}{σ:St}{b0:Nat}{b1:Nat}{b2:Nat}(h:cc Tryz.prog kb c Q σ):At σ (bO b2 (bO b1 (bO b0 (bK Tryz.prog kb c Q))) .norm):=h
theorem zb3{kb:Nat}{c:Code}{Q:dE->St->Prop}{σ:St}{b0:Nat}{b1:Nat}{b2:Nat}{E5:Nat}(h:cc Tryz.prog kb c Q σ):cc Tryz.prog E5 .skip (bO b2 (bO b1 (bO b0 (bK Tryz.prog kb c Q)))) σ:=a6 h
theorem fK{ι:Type}{L:ι->St}{μ:ι->Nat}{i:ι}{Q:dE->St->Prop}{σ:St}(h:∃j,μ j<μ i∧bc σ (L j)):At σ (gq L μ i Q .norm):=h
theorem zn0{ι:Type}{L:ι->St}{μ:ι->Nat}{i:ι}{Q:dE->St->Prop}{σ:St}{E5:Nat}(h:∃j,μ j<μ i∧bc σ (L j)):cc Tryz.prog E5 .skip (gq L μ i Q) σ:=a6 h
theorem Zf{ι:Type}{L:ι->St}{μ:ι->Nat}{i:ι}{Q:dE->St->Prop}{σ:St}{b0:Nat}(h:∃j,μ j<μ i∧bc σ (L j)):At σ (bO b0 (gq L μ i Q) .norm):=h
theorem zn1{ι:Type}{L:ι->St}{μ:ι->Nat}{i:ι}{Q:dE->St->Prop}{σ:St}{b0:Nat}{E5:Nat}(h:∃j,μ j<μ i∧bc σ (L j)):cc Tryz.prog E5 .skip (bO b0 (gq L μ i Q)) σ:=a6 h
theorem zl2{ι:Type}{L:ι->St}{μ:ι->Nat}{i:ι}{Q:dE->St->Prop}{σ:St}{b0:Nat}{b1:Nat}(h:∃j,μ j<μ i∧bc σ (L j)):At σ (bO b1 (bO b0 (gq L μ i Q)) .norm):=h
theorem zn2{ι:Type}{L:ι->St}{μ:ι->Nat}{i:ι}{Q:dE->St->Prop}{σ:St}{b0:Nat}{b1:Nat}{E5:Nat}(h:∃j,μ j<μ i∧bc σ (L j)):cc Tryz.prog E5 .skip (bO b1 (bO b0 (gq L μ i Q))) σ:=a6 h
theorem zl3{ι:Type}{L:ι->St}{μ:ι->Nat}{i:ι}{Q:dE->St->Prop}{σ:St}{b0:Nat}{b1:Nat}{b2:Nat}(h:∃j,μ j<μ i∧bc σ (L j)):At σ (bO b2 (bO b1 (bO b0 (gq L μ i Q))) .norm):=h
theorem zn3{ι:Type}{L:ι->St}{μ:ι->Nat}{i:ι}{Q:dE->St->Prop}{σ:St}{b0:Nat}{b1:Nat}{b2:Nat}{E5:Nat}(h:∃j,μ j<μ i∧bc σ (L j)):cc Tryz.prog E5 .skip (bO b2 (bO b1 (bO b0 (gq L μ i Q)))) σ:=a6 h
end Go.Proofs.YtjdnhamngpafmaaGreat
section
/-
  Short forms of steps that occur often; the packed texts of a claim use them (squeeze.py).
-/
namespace Go.Proofs.YtjdnhamngpafmaaGreat
open Go.Av

theorem IE (aT : eZ) (rv : List ResultVar) (sh : Bool) (k : Nat) (R : ae -> List aj -> Prop) (σ : St) : F8 aT rv sh k R .ret σ = on (gj aT σ rv) fun rs => k <= σ.objs.length ∧ (∀ o ∈ σ.objs.take k, o.upto k) ∧ (jq (if sh then rs.map ae.share else rs)).upto k ∧ R (jq (if sh then rs.map ae.share else rs)) (σ.objs.take k) := rfl
theorem FD (aT : eZ) (rv : List ResultVar) (sh : Bool) (k : Nat) (R : ae -> List aj -> Prop) (σ : St) : F8 aT rv sh k R .norm σ = on (gj aT σ rv) fun rs => k <= σ.objs.length ∧ (∀ o ∈ σ.objs.take k, o.upto k) ∧ (jq (if sh then rs.map ae.share else rs)).upto k ∧ R (jq (if sh then rs.map ae.share else rs)) (σ.objs.take k) := rfl
theorem Ij : jq [] = .cD [] := rfl
theorem Ik (x y : ae) (r : List ae) : jq (x :: y :: r) = .cD (x :: y :: r) := rfl
theorem Za (n : Nat) (x : Value) : ae.upto n (.v x) = True := rfl
def zr := And.intro @IE <|And.intro @FD <|And.intro @gj.eq_1 <|And.intro @gj.eq_2 <|And.intro @o9.eq_1 <|And.intro @o9.eq_2 <|And.intro @jq.eq_1 <|And.intro @Ij <|And.intro @Ik <|
  And.intro @ae.upto.eq_1 <|And.intro @ae.upto.eq_2 <|And.intro @ae.upto.eq_3 <|And.intro @ae.upto.eq_4 <|And.intro @ae.upto.eq_5 <|And.intro @ae.upto.eq_6 <|And.intro @ae.upto.eq_7 <|And.intro @ae.upto.eq_8 <|And.intro @ae.upto.eq_9 <|And.intro @ae.upto.eq_10 <|And.intro @ae.upto.eq_11 <|And.intro @ae.upto.eq_12 <|And.intro @ae.upto.eq_13 <|
  And.intro @Nat.zero_le <|And.intro @Nat.le_refl <|And.intro @Nat.le_add_right <|And.intro @l6 <|And.intro @j7 @kV
def zc := And.intro @fj.eq_1 <|And.intro @fj.eq_2 <|And.intro @exists_eq_left'.{1} <|And.intro @Option.some.injEq.{0} <|And.intro @sub_self <|And.intro @and_assoc <|And.intro true_and and_true

theorem ab {p q : Prop} [Decidable p] (h : decide p = true) (n : ¬p) : q := absurd (of_decide_eq_true h) n
theorem af {p q : Prop} [Decidable p] (h : decide p = false) (n : p) : q := absurd n (of_decide_eq_false h)
theorem ob {a : Array Oper} {k : List Kind} (h : o6 a k = true) : dF a k := h
theorem zf {f : FuncId} {fn : Go.Func} {c : Code} {O : List aj} {args : List ae} {R : ae -> List aj -> Prop} {m : Nat} (sh : Bool) (k : Nat) (hf : Tryz.prog.funcs[f]? = some fn) (hm : fn.ntmps = m) (h : cc Tryz.prog O.length c (F8 aT fn.results.toList sh k R) ⟨m, slotsOf 0 args, O⟩) (hb : fn.body = some c := by rfl)
    (vY : (fn.name == "runtime.NumGoroutine") = false := by kernel_rfl) (hn : args.length <= m := by simp) (hk : O.length <= k := by simp) : bd Tryz.prog f O args R := by
  subst hm;exact dy hT sh k hf hb vY hn hk h
theorem zq {σ τ : St} (h1 : σ.n = τ.n) (h3 : fj σ τ.br) (h2 : σ.objs = τ.objs) : bc σ τ := ⟨h1, h2, h3⟩

theorem cT {kb : Nat} {id : Nat} {l : List Oper} {draw : Bool} {Q : dE -> St -> Prop} {σ : St} {q : Prop} (h : q) (e : (eA Tryz.prog aT ⟨false, false⟩ l 0 [] σ [] fun τ ks => gG draw (fun _ => dF l.toArray ks.reverse) ∧ At τ (Q .norm)) = q := by simp -dsimp only[simprocAttr, ↓aa, zp]; rfl) : cc Tryz.prog kb (.region id l.toArray draw) Q σ := kC (e ▸ h)
theorem aA {kb : Nat} {id : Nat} {l : List Oper} {draw : Bool} {Q : dE -> St -> Prop} {σ : St} {x : Code} {q : Prop} (h : q) (e : (eA Tryz.prog aT ⟨false, false⟩ l 0 [] σ [] fun τ ks => gG draw (fun _ => dF l.toArray ks.reverse) ∧ At τ (bK Tryz.prog kb x Q .norm)) = q := by simp -dsimp only[simprocAttr, ↓aa, zp]; rfl) : cc Tryz.prog kb (.seq (.region id l.toArray draw) x) Q σ := aS (e ▸ h)
theorem bX {kb : Nat} {id : Nat} {l : List Oper} {draw : Bool} {Q : dE -> St -> Prop} {σ : St} {x y : Code} {q : Prop} (h : q) (e : (eA Tryz.prog aT ⟨false, false⟩ l 0 [] σ [] fun τ ks => gG draw (fun _ => dF l.toArray ks.reverse) ∧ At τ (bK Tryz.prog kb x (bK Tryz.prog kb y Q) .norm)) = q := by simp -dsimp only[simprocAttr, ↓aa, zp]; rfl) : cc Tryz.prog kb (.seq (.seq (.region id l.toArray draw) x) y) Q σ := c9 (e ▸ h)
theorem zh3 {kb : Nat} {id : Nat} {l : List Oper} {draw : Bool} {Q : dE -> St -> Prop} {σ : St} {x y z : Code} {q : Prop} (h : q) (e : (eA Tryz.prog aT ⟨false, false⟩ l 0 [] σ [] fun τ ks => gG draw (fun _ => dF l.toArray ks.reverse) ∧ At τ (bK Tryz.prog kb x (bK Tryz.prog kb y (bK Tryz.prog kb z Q)) .norm)) = q := by simp -dsimp only[simprocAttr, ↓aa, zp]; rfl) : cc Tryz.prog kb (.seq (.seq (.seq (.region id l.toArray draw) x) y) z) Q σ := zg3 (e ▸ h)
theorem cr {kb : Nat} {c : Operand} {x y : Code} {Q : dE -> St -> Prop} {σ : St} (hc : σ.ev c = some (.v (.bool false))) (hf : cc Tryz.prog kb y Q σ) : cc Tryz.prog kb (.cond c x y) Q σ := oy hc (fun h => by cases h) fun _ => hf
theorem Zg {kb : Nat} {c : Operand} {x y z : Code} {Q : dE -> St -> Prop} {σ : St} (hc : σ.ev c = some (.v (.bool false))) (hf : cc Tryz.prog kb y (bK Tryz.prog kb z Q) σ) : cc Tryz.prog kb (.seq (.cond c x y) z) Q σ := aJ (cr hc hf)
theorem zu2 {kb : Nat} {c : Operand} {x y z w : Code} {Q : dE -> St -> Prop} {σ : St} (hc : σ.ev c = some (.v (.bool false))) (hf : cc Tryz.prog kb y (bK Tryz.prog kb z (bK Tryz.prog kb w Q)) σ) : cc Tryz.prog kb (.seq (.seq (.cond c x y) z) w) Q σ := aJ (Zg hc hf)
theorem cH {kb : Nat} {c : Operand} {x y : Code} {Q : dE -> St -> Prop} {σ : St} (hc : σ.ev c = some (.v (.bool true))) (ht : cc Tryz.prog kb x Q σ) : cc Tryz.prog kb (.cond c x y) Q σ := oy hc (fun _ => ht) fun h => by cases h
theorem zw1 {kb : Nat} {c : Operand} {x y z : Code} {Q : dE -> St -> Prop} {σ : St} (hc : σ.ev c = some (.v (.bool true))) (ht : cc Tryz.prog kb x (bK Tryz.prog kb z Q) σ) : cc Tryz.prog kb (.seq (.cond c x y) z) Q σ := aJ (cH hc ht)
theorem zw2 {kb : Nat} {c : Operand} {x y z w : Code} {Q : dE -> St -> Prop} {σ : St} (hc : σ.ev c = some (.v (.bool true))) (ht : cc Tryz.prog kb x (bK Tryz.prog kb z (bK Tryz.prog kb w Q)) σ) : cc Tryz.prog kb (.seq (.seq (.cond c x y) z) w) Q σ := aJ (zw1 hc ht)
theorem zi {id : FuncId} {args : List ae} {r : ae} {K : ae -> Prop} {B q : Prop} (hc : bD Tryz.prog id args r) (h : q) (hu : aw 0 args := by simp only[aw, ae.upto, zt, zu]) (e : K r = q := by simp -dsimp only[simprocAttr, ↓aa, zp]; rfl) : (∃ r, bD Tryz.prog id args r ∧ aw 0 args ∧ yb fun _ => K r) ∨ B := .inl ⟨r, hc, hu, ao (e ▸ h)⟩
theorem zj {p q : Prop} (h : q) (e : p = q := by simp -dsimp only[simprocAttr, ↓aa, zp]; rfl) : p := e ▸ h
end Go.Proofs.YtjdnhamngpafmaaGreat
end
namespace Go.Av
section
variable {P:Program} {w:World} {H:Type} {enc:TypeId×Value->H} {sp:Nat->Bool} {held:Bool}
theorem Bo(hl:laidOutB P=true){ts:List TypeId}(hc:RH P ts=true){t:TypeId}(ht:t∈ts){v:Value}{d:DataW H}{ps:List MemPlace}(h:DataW.Trod enc P w 0 sp held t v d ps)
  (hv:∃vs,v=.agg vs) (hw:∀m∈d.weights P t,m<=reachBytes):∃n dP,oq P n t dP∧RV (g0 w) (.agg dP) v:=by
 obtain⟨vs,rfl⟩:=hv;obtain⟨n,h⟩:=h;obtain⟨dP,h1,h3,h4,h5⟩:=C8 hl hc n t _ (d,ps) ht h hw;exact⟨n,dP,h1,.agg (by simpa[Value.cells]using h3.symm) h4 fun i c u hc hu=>h5 i c u hc (by simpa[Value.cells]using hu)⟩
theorem Fk{t:TypeId}{fs:Array Field}{r:Reach}{b:Nat}{v:Value}(hu:P.underlying t=some (.struct fs))(h:Value.okWide P w r b t v):∃vs,v=.agg vs:=by
 cases v<;>first|exact⟨_,rfl⟩|simp[Value.okWide,hu,Cell.okWide,Cell.ok]at h
end
end Go.Av
namespace Go.Proofs.YtjdnhamngpafmaaGreat
open Go.Av
theorem RF:Tryz.prog.cellsOf 3=1:=by kernel_rfl
theorem NR:Tryz.prog.cellsOf 65=4:=by kernel_rfl
theorem NS:Tryz.prog.cellsOf 82=2:=by kernel_rfl
theorem NQ:Tryz.prog.cellsOf 50=7:=by kernel_rfl
theorem NP:Tryz.prog.cellsOf 34=2:=by kernel_rfl
theorem RE:Tryz.prog.bytesOf 3=8:=by kernel_rfl
theorem NN:Tryz.prog.bytesOf 65=48:=by kernel_rfl
theorem NO:Tryz.prog.bytesOf 82=32:=by kernel_rfl
theorem NM:Tryz.prog.bytesOf 50=120:=by kernel_rfl
theorem NL:Tryz.prog.bytesOf 34=32:=by kernel_rfl
theorem Xi:Bn Tryz.prog 3=false:=by kernel_rfl
theorem Uj:Bn Tryz.prog 65=true:=by kernel_rfl
theorem Uk:Bn Tryz.prog 82=true:=by kernel_rfl
theorem Ui:Bn Tryz.prog 50=true:=by kernel_rfl
theorem Uh:Bn Tryz.prog 34=true:=by kernel_rfl
theorem iF{n:Nat}{x:List ae}(h:oq Tryz.prog n 3 x):∃m:Int,x=[aI m]∧cm m:=by
 obtain⟨m,e,h1⟩:=h.int Tryz.underlying3;exact⟨m,e,h1⟩
theorem pH{n:Nat}{x:List ae}(h:oq Tryz.prog n 41 x):∃l:List Int,x=[aK l]∧iX l∧l.length<=2 ^ 47:=by
 obtain⟨l,e,hb,hq⟩:=h.Cw (f:=aI) (Q:=cm) Tryz.underlying41 fun j hj y hy=>by
  obtain⟨m,rfl,hm⟩:=iF hy;exact⟨m,by rw[GS,Xi];rfl,hm⟩
 rw[RE,reachBytes]at hb;exact⟨l,by rw[e,RF],hq,by omega⟩
theorem La{n:Nat}{x:List ae}(h:oq Tryz.prog n 65 x):∃i:Ins,x=i.enc.cells∧i.fit:=by
 obtain⟨m,rfl,hc⟩:=h.struct Tryz.underlying65;simp only[List.map_cons,List.map_nil,MZ]at hc;obtain⟨a,b,rfl,h1,c,d,rfl,h2,e,f,rfl,h3,g,k,rfl,h4,rfl⟩:=hc;obtain⟨x1,rfl,q1⟩:=iF h1;obtain⟨x2,rfl,q2⟩:=iF h2;obtain⟨x3,rfl,q3⟩:=iF h3;obtain⟨x4,rfl,q4,q5⟩:=pH h4;exact⟨⟨x1,x2,x3,x4⟩,rfl,q1,q2,q3,q4,q5⟩
theorem H5{n:Nat}{x:List ae}(h:oq Tryz.prog n 48 x):∃l:List Ins,x=[bf l]∧(∀i∈l,i.fit)∧l.length<=2 ^ 47:=by
 obtain⟨l,e,hb,hq⟩:=h.Cw (f:=Ins.enc) (Q:=Ins.fit) Tryz.underlying48 fun j hj y hy=>by
  obtain⟨m,rfl,hm⟩:=La hy;exact⟨m,by rw[GS,Uj];rfl,hm⟩
 rw[NN,reachBytes]at hb;exact⟨l,by rw[e,NR],hq,by omega⟩
theorem Hx{n:Nat}{x:List ae}(h:oq Tryz.prog n 82 x):∃i:Edge,x=i.enc.cells∧i.fit:=by
 obtain⟨m,rfl,hc⟩:=h.struct Tryz.underlying82;simp only[List.map_cons,List.map_nil,MZ]at hc;obtain⟨a,b,rfl,h1,g,k,rfl,h4,rfl⟩:=hc;obtain⟨x1,rfl,q1⟩:=iF h1;obtain⟨x4,rfl,q4,q5⟩:=pH h4;exact⟨⟨x1,x4⟩,rfl,q1,q4,q5⟩
theorem Ei{n:Nat}{x:List ae}(h:oq Tryz.prog n 45 x):∃l:List Edge,x=[aH l]∧(∀i∈l,i.fit)∧l.length<=2 ^ 47:=by
 obtain⟨l,e,hb,hq⟩:=h.Cw (f:=Edge.enc) (Q:=Edge.fit) Tryz.underlying45 fun j hj y hy=>by
  obtain⟨m,rfl,hm⟩:=Hx hy;exact⟨m,by rw[GS,Uk];rfl,hm⟩
 rw[NO,reachBytes]at hb;exact⟨l,by rw[e,NS],hq,by omega⟩
theorem IY{n:Nat}{x:List ae}(h:oq Tryz.prog n 47 x):∃t:Term,x=t.enc.cells∧t.fit:=by
 obtain⟨m,rfl,hc⟩:=h.struct Tryz.underlying47;simp only[List.map_cons,List.map_nil,MZ]at hc;obtain⟨a,b,rfl,h1,c,d,rfl,h2,e,f,rfl,h3,g,k,rfl,h4,g',k',rfl,h5,rfl⟩:=hc;obtain⟨x1,rfl,q1⟩:=iF h1;obtain⟨x2,rfl,q2⟩:=iF h2;obtain⟨x3,rfl,q3⟩:=iF h3;obtain⟨x4,rfl,q4,q5⟩:=pH h4;obtain⟨x5,rfl,q6,q7⟩:=Ei h5;exact⟨⟨x1,x2,x3,x4,x5⟩,rfl,q1,q2,q3,q4,q5,q7,q6⟩
theorem DZ{n:Nat}{x:List ae}(h:oq Tryz.prog n 50 x):∃b:Block,x=b.enc.cells∧b.fit:=by
 obtain⟨m,rfl,hc⟩:=h.struct Tryz.underlying50;simp only[List.map_cons,List.map_nil,MZ]at hc;obtain⟨a,b,rfl,h1,c,d,rfl,h2,e,f,rfl,h3,rfl⟩:=hc;obtain⟨x1,rfl,q1,q2⟩:=pH h1;obtain⟨x2,rfl,q3,q4⟩:=H5 h2;obtain⟨x3,rfl,q5⟩:=IY h3;exact⟨⟨x1,x2,x3⟩,rfl,q1,q2,q4,q3,q5⟩
theorem HE{n:Nat}{x:List ae}(h:oq Tryz.prog n 34 x):∃f:Func,x=f.enc.cells∧f.fit:=by
 obtain⟨m,rfl,hc⟩:=h.struct Tryz.underlying34;simp only[List.map_cons,List.map_nil,MZ]at hc;obtain⟨a,b,rfl,h1,c,d,rfl,h2,rfl⟩:=hc;obtain⟨x1,rfl,q1⟩:=iF h1;obtain⟨l,rfl,hb,hq⟩:=h2.Cw (f:=Block.enc) (Q:=Block.fit) Tryz.underlying32 fun j hj y hy=>by
  obtain⟨m,rfl,hm⟩:=DZ hy;exact⟨m,by rw[GS,Ui];rfl,hm⟩
 rw[NM,reachBytes]at hb;exact⟨⟨x1,l⟩,by rw[NQ];rfl,q1,by show l.length<=_;omega,hq⟩
theorem IZ{n:Nat}{x:List ae}(h:oq Tryz.prog n 24 x):∃u:bY,.agg x=u.enc∧u.fit:=by
 obtain⟨m,rfl,hc⟩:=h.struct Tryz.underlying24;simp only[List.map_cons,List.map_nil,MZ]at hc;obtain⟨a,b,rfl,h1,c,d,rfl,h2,rfl⟩:=hc;obtain⟨l,rfl,hb,hq⟩:=h1.Cw (f:=Func.enc) (Q:=Func.fit) Tryz.underlying22 fun j hj y hy=>by
  obtain⟨m,rfl,hm⟩:=HE hy;exact⟨m,by rw[GS,Uh];rfl,hm⟩
 obtain⟨x1,rfl,q1⟩:=iF h2;rw[NL,reachBytes]at hb;exact⟨⟨l,x1⟩,by rw[NP];rfl,q1,by show l.length<=_;omega,hq⟩
def Uo:List TypeId:=[3,22,24,32,34,41,45,47,48,50,65,82]
theorem cov:RH Tryz.prog Uo=true:=by kernel_rfl
theorem laid:laidOutB Tryz.prog=true:=by kernel_rfl
end Go.Proofs.YtjdnhamngpafmaaGreat
namespace Go.Av
theorem kl{P:Program}{ops all:Array Oper}{k:Nat}(hk:∀i o,ops[i]?=some o->all[k+i]?=some o)(hg:∀o∈all.toList,o.guard=none):∀{l:List (Nat×Kind)} {σ τ:St},fw P ops l σ τ->fw P all (l.map fun p=>(k+p.1,p.2)) σ τ
 | [],_,_,h=>h
 | (i,q)::r,_,_,h=>by
  obtain⟨fY,⟨o,ho,h1⟩,h2⟩:=h;refine⟨fY,⟨o,hk i o ho,?_⟩,kl hk hg h2⟩;have je:=hk i o ho;have Gt:o.guard=none:=hg o (by
   rw[<-Array.getElem?_toList]at je;exact List.mem_of_getElem? je)
  have w1:∀(a:Array Oper) (σ:St),c7 a o σ=some true:=fun a σ=>by simp[c7,Gt]
  rcases h1 with⟨_,h1⟩|⟨h1,_⟩
  ·exact .inl ⟨w1 _ _,h1⟩
  rw[w1]at h1;cases h1
def Jq(P:Program)(aT:eZ)(md:Md)(o:Oper)(l2:List Oper)(Q:dE->St->Prop)(τ:St):Prop:=∃x m,Cert P o τ x m∧eA P aT md l2 0 [] ⟨τ.n,p9 o.dst x τ.br,m.post τ.objs⟩ [] fun ρ _=>At ρ (Q .norm)
theorem m6{P:Program}{kb:Nat}{aT:eZ}(md:Md)(hT:b6 P aT){id:Nat}{l l1 l2:List Oper}{o:Oper}{Q:dE->St->Prop}{σ:St}(k:Nat)(h1:l.take k=l1)(h2:l[k]?=some o)(h3:l.drop (k+1)=l2)(hg:∀o∈l,o.guard=none)
  (h:eA P aT md l1 0 [] σ [] fun τ _=>Jq P aT md o l2 Q τ):cc P kb (.region id l.toArray false) Q σ:=by
 have bg:=I h2;obtain⟨τ,yO,c1,n1,x,m,hc,h⟩:=eV (all:=l1.toArray) hT l1 0 [] σ [] (fun j=>by simp) (fun j t hj=>by simp[jw]at hj) h;obtain⟨ρ,Rk,c2,n2,hQ⟩:=eV (all:=l2.toArray) hT l2 0 [] _ [] (fun j=>by simp) (fun j t hj=>by simp[jw]at hj) h;intro base a g hb hr;have Gt:o.guard=none:=hg o (List.mem_of_getElem? h2);have Y5:l1.length=k:=by rw[<-h1,List.length_take];omega
 have l2n:l2.length=l.length-(k+1):=by rw[<-h3,List.length_drop]
 have d1:=kl (all:=l.toArray) (k:=0) (fun i o' hi=>by
  have ga:l1[i]?=some o':=by simpa using hi
  have:=I ga;rw[<-h1,List.getElem?_take]at ga;split at ga
  ·simpa using ga
  cases ga) (by simpa using hg) c1
 have d2:=kl (all:=l.toArray) (k:=k+1) (fun i o' hi=>by
  have ga:l2[i]?=some o':=by simpa using hi
  rw[<-h3,List.getElem?_drop]at ga;simpa using ga) (by simpa using hg) c2
 have dm:fw P l.toArray [(k,m.kind)] τ ⟨τ.n,p9 o.dst x τ.br,m.post τ.objs⟩:=⟨_,⟨o,by simpa using h2,.inl ⟨by simp[c7,Gt],x,m,hc,rfl,rfl⟩⟩,iA.refl _⟩
 have pD:=nc d1 (nc dm d2);obtain⟨ks,hks⟩:∃ks,ks=yO++m.kind::Rk:=⟨_,rfl⟩
 have e:(List.range l.toArray.size).map (fun i=>(i,ks.getD i .write))=(List.map (fun p=>(0+p.1,p.2)) (List.map (fun p=>(p.2,p.1)) (yO.zipIdx 0))++([(k,m.kind)]++List.map (fun p=>(k+1+p.1,p.2)) (List.map (fun p=>(p.2,p.1)) (Rk.zipIdx 0)))):=by
  have cP:l.toArray.size=ks.length:=by
   rw[hks];simp only[List.size_toArray,List.length_append,List.length_cons];omega
  rw[cP];apply List.ext_getElem?;intro i;rw[hks];simp only[List.getElem?_map];by_cases q1:i<yO.length
  ·rw[List.getElem?_append_left (by simpa using q1),List.getElem?_range (by simp;omega)];simp[q1,List.getElem?_append_left]
  rw[List.getElem?_append_right (by simp;omega)];simp only[List.length_map,List.length_zipIdx];by_cases q2:i=yO.length
  ·subst q2;rw[List.getElem?_range (by simp)];simp[n1,Y5]
  rw[List.getElem?_append_right (by simp;omega)];obtain⟨j,hj⟩:∃j,i=yO.length+1+j:=⟨i-yO.length-1,by omega⟩
  subst hj;simp only[List.length_cons,List.length_nil,show yO.length+1+j-yO.length-(0+1)=j by omega,List.getElem?_map,List.getElem?_zipIdx];by_cases q3:j<Rk.length
  ·rw[List.getElem?_range (by simp;omega)];simp only[Option.map_some,List.getElem?_eq_getElem q3,Option.some.injEq,Prod.mk.injEq];refine⟨by omega,?_⟩;rw[List.getD_eq_getElem?_getD,List.getElem?_append_right (by omega),show yO.length+1+j-yO.length=j+1 by omega,List.getElem?_cons_succ,List.getElem?_eq_getElem q3];rfl
  rw[List.getElem?_eq_none (l:=List.range _) (by simp;omega),List.getElem?_eq_none (l:=Rk) (by omega)];rfl
 rw[<-e]at pD;exact mo pD hr fun a g EX=>⟨g,ρ,rfl,EX,hQ⟩
theorem zK{P:Program}{o:Oper}{σ:St}{t t':TypeId}{x y:Operand}{k:IntKind}{m n:Int}
  (ho:o.op=.binOp .add t x y t') (hd:∀d,o.dst=some d->d<σ.n) (hx:σ.ev x=some (.v (.int k m))) (hy:σ.ev y=some (.v (.int k n))) :
  Cert P o σ (.v (.int k (k.wrap (m+n)))) .pure :=
 Cert.bT .pure (.inl rfl) hd fun a g _ h _=>by
  have ex:=(h x (by simp[ho,Op.operands]) _ hx).cb.1;have ey:=(h y (by simp[ho,Op.operands]) _ hy).cb.1;have hg:=cS (P:=P) .add t x y (.int k m) (.int k n) g.w (by simp) (by simp);refine⟨.int k (k.wrap (m+n)),?_,.v (wrap_within k _)⟩;have hb:(binOp .add t (.int k m) (.int k n)).run P g.w=.ok (.int k (k.wrap (m+n))) g.w:=by
   simp[binOp,Op.intArith]
  simp[execOp,ho,ex,ey,hg,hb]
theorem sY{P:Program}{aT:eZ}{md:Md}{o:Oper}{l2:List Oper}{Q:dE->St->Prop}{τ:St}{t t':TypeId}{x y:Operand}{k:IntKind}{m n:Int}{d:Nat}
  (ho:o.op=.binOp .add t x y t') (jA:o.dst=some d) (hd:d<τ.n) (hx:τ.ev x=some (.v (.int k m))) (hy:τ.ev y=some (.v (.int k n)))
  (h:eA P aT md l2 0 [] ⟨τ.n,p9 o.dst (.v (.int k (k.wrap (m+n)))) τ.br,τ.objs⟩ [] fun ρ _=>At ρ (Q .norm)):Jq P aT md o l2 Q τ :=
 ⟨_,.pure,zK ho (fun d' e=>by rw[jA]at e;cases e;exact hd) hx hy,h⟩
def Jl(P:Program)(o:Oper)(qb:St)(R:ae->List aj->Prop):Prop :=
 ∀(base:G) (σ:St) (a:Act) (g:G),Rel base σ a g->σ.n=qb.n->(∀x∈o.op.operands,∀y,qb.ev x=some y->σ.ev x=some y)->σ.objs=qb.objs ->
  ∀(K:Act->World->Prop) (Q:Exit->Act->World->Prop),(∀r u g',R r g'.objs->Rel base ⟨σ.n,p9 o.dst r σ.br,g'.objs⟩ (a.put o.dst u) g'->K (a.put o.dst u) g'.w)->o.wp P a g.w K Q
theorem lT{P:Program}{o:Oper}{σ:St}{x:Operand}{args:Array Operand}{su:Array TypeId}{f:FuncId}{fs cs dP:List ae}{R:ae->List aj->Prop}
  (ho:o.op=.call ⟨.value x,args,su⟩) (hd:∀d,o.dst=some d->d<σ.n) (hx:σ.ev x=some (.fn (.func f) fs cs)) (ha:σ.BY args.toList=some dP)
  (dD:bd P f σ.objs (fs++dP++cs) R):Jl P o σ R:=by
 intro base τ a g bN hn mU hm K Q hK;have Wd:σ.ev x=some (.fn (.func f) fs cs):=hx;have h1:=bN.eval (mU x (by simp[ho,Op.operands,Call.operands]) _ hx);obtain⟨us,vs,e1,l1,l2,r1,r2⟩:=h1.Kn;have h2:=rD (σ:=σ) (a:=a) (g:=g) (xs:=args.toList) (fun z hz y hy=>bN.eval (mU z (by
  rw[ho];simp only[Op.operands,Call.operands,Array.mem_append];exact .inr (Array.mem_toList_iff.1 hz)) y hy)) ha
 have Kr:jI g dP (args.map a.eval):=by
  have e:args.map a.eval=(args.toList.map a.eval).toArray:=Array.ext' (by rw[Array.toList_map]);rw[e];exact h2
 have cz:=(jI.m5 (jI.m5 ⟨l1,r1⟩ Kr) ⟨l2,r2⟩)
 have bJ:=zk (P:=P) (w:=g.w) ho e1 dD.1;unfold Oper.wp;rw[bJ,Oper.upon_enter];refine(dD.2 g _ bN.good (bN.objs.trans hm) cz).mono ?_;rintro e w' ⟨g',v,r',q1,q2,q3,q4,q5,q6⟩;subst q1;subst q2;refine hK r' v g' q6 ?_;cases jA:o.dst with
 | none=>exact bN.step q3 q4
 | some d=>exact bN.put q3 q4 (d:=d) (by rw[hn];exact hd d jA) q5
theorem iP{P:Program}{ops:Array Oper}{base:G}{ρ:St}{Q:Exit->Act->World->Prop}{rest:List Nat}(hQ:∀a g,Rel base ρ a g->wpOps P ops Q rest a g.w) :
  ∀(l:List (Nat×Kind)) (σ:St) (a:Act) (g:G),fw P ops l σ ρ->Rel base σ a g->wpOps P ops Q (l.map (·.1)++rest) a g.w
 | [],σ,a,g,pD,bN=>hQ a g (iA.rel pD bN)
 | (i,k)::r,σ,a,g,pD,bN=>by
  obtain⟨fY,⟨o,ho,bL⟩,cO⟩:=pD;simp only[List.map_cons,List.cons_append,wpOps,ho];rcases bL with⟨hw,r',m,B9,hk,K9⟩|⟨hw,_,K9⟩
  ·rw[if_pos (gk bN hw)];refine .inl (B9.2 base σ a g bN rfl (fun x _ y hy=>hy) (Mode.ra (.inr rfl)) _ _ fun u g' ql=>?_);subst K9;exact iP hQ r _ _ _ cO ql
  rw[if_neg (by rw[gk bN hw];simp)];subst K9;refine iP hQ r _ _ g cO ?_;cases jA:o.dst with
  | none=>exact bN
  | some d=>exact bN.skip d
theorem GK(ks:List Kind)(s:Nat):(((ks.zipIdx 0).map fun p=>(p.2,p.1)).map fun p=>(s+p.1,p.2)).map (·.1)=(List.range ks.length).map (s + ·):=by
 apply List.ext_getElem?;intro i;simp only[List.getElem?_map,List.getElem?_zipIdx];by_cases h:i<ks.length
 ·simp[h]
 rw[List.getElem?_eq_none (by omega),List.getElem?_eq_none (by simp;omega)];rfl
theorem IC{n k:Nat}(h:k<n):List.range n=(List.range k).map (0 + ·)++(k::(List.range (n-(k+1))).map (k+1 + ·)):=by
 apply List.ext_getElem?;intro i;by_cases h1:i<k
 ·rw[List.getElem?_append_left (by simpa using h1)];simp[h1,show i<n by omega]
 rw[List.getElem?_append_right (by simp;omega)];simp only[List.length_map,List.length_range];by_cases h2:i=k
 ·subst h2;simp[h]
 rw[show i-k=(i-k-1)+1 by omega,List.getElem?_cons_succ,List.getElem?_map];by_cases h3:i<n
 ·rw[List.getElem?_range h3,List.getElem?_range (by omega),Option.map_some];congr 1;omega
 rw[List.getElem?_eq_none (by simp;omega),List.getElem?_eq_none (by simp;omega)];rfl
theorem kf{P:Program}{kb:Nat}{aT:eZ}(md:Md)(hT:b6 P aT){id:Nat}{l l1 l2:List Oper}{o:Oper}{Q:dE->St->Prop}{σ:St}(k:Nat)(h1:l.take k=l1)(h2:l[k]?=some o)(h3:l.drop (k+1)=l2)(hg:∀o∈l,o.guard=none)
  (h:eA P aT md l1 0 [] σ [] fun τ _=>∃R,Jl P o τ R∧∀r O',R r O'->eA P aT md l2 0 [] ⟨τ.n,p9 o.dst r τ.br,O'⟩ [] fun ρ _=>At ρ (Q .norm)):cc P kb (.region id l.toArray false) Q σ:=by
 have bg:=I h2;obtain⟨τ,yO,c1,n1,R,hc,h⟩:=eV (all:=l1.toArray) hT l1 0 [] σ [] (fun j=>by simp) (fun j t hj=>by simp[jw]at hj) h;intro base a g hb hr;have Gt:o.guard=none:=hg o (List.mem_of_getElem? h2);have Y5:l1.length=k:=by rw[<-h1,List.length_take];omega
 have l2n:l2.length=l.length-(k+1):=by rw[<-h3,List.length_drop]
 have d1:=kl (all:=l.toArray) (k:=0) (fun i o' hi=>by
  have ga:l1[i]?=some o':=by simpa using hi
  have:=I ga;rw[<-h1,List.getElem?_take]at ga;split at ga
  ·simpa using ga
  cases ga) (by simpa using hg) c1
 refine wp_region ?_;rw[show l.toArray.size=l.length from List.size_toArray,IC bg];have e1:=GK yO 0;rw[n1,Y5]at e1;rw[<-e1];refine iP (ρ:=τ) (fun a g hr=>?_) _ _ _ _ d1 hr;have ho:l.toArray[k]?=some o:=by simpa using h2
 simp only[wpOps,ho];have hw:c7 l.toArray o τ=some true:=by simp[c7,Gt]
 rw[if_pos (gk hr hw)];refine .inl (hc base τ a g hr rfl (fun x _ y hy=>hy) rfl _ _ fun r u g' hR ql=>?_);obtain⟨ρ,Rk,c2,n2,hQ⟩:=eV (all:=l2.toArray) hT l2 0 [] _ [] (fun j=>by simp) (fun j t hj=>by simp[jw]at hj) (h r g'.objs hR);have d2:=kl (all:=l.toArray) (k:=k+1) (fun i o' hi=>by
  have ga:l2[i]?=some o':=by simpa using hi
  rw[<-h3,List.getElem?_drop]at ga;simpa using ga) (by simpa using hg) c2
 have e2:=GK Rk (k+1);rw[n2,l2n]at e2;rw[<-e2];have:=iP (rest:=[]) (Q:=Ry base Q) (P:=P) (ops:=l.toArray) (base:=base) (ρ:=ρ) (fun a g hr=>⟨g,ρ,rfl,hr,hQ⟩) _ _ _ _ d2 ql;rw[List.append_nil]at this;exact this
def DJ(aT:eZ)(rv:List ResultVar)(R:ae->List aj->Prop):dE->St->Prop
 | .exit _,_=>False
 | _,σ=>on (gj aT σ rv) fun rs=>R (jq rs) σ.objs
theorem yr{P:Program}{aT:eZ}(hT:b6 P aT){f:FuncId}{fn:Func}{c:Code}{O:List aj}{args:List ae}{R:ae->List aj->Prop}(hf:P.funcs[f]?=some fn)(hb:fn.body=some c)
  (vY : (fn.name == "runtime.NumGoroutine") = false) (hn : args.length <= fn.ntmps) (h : cc P O.length c (DJ aT fn.results.toList R) ⟨fn.ntmps, slotsOf 0 args, O⟩) : bd P f O args R := by
 refine⟨⟨fn,hf,vY,by simp[hb]⟩,fun g vs hg ho ha=>?_⟩;refine calls_of_wp hf hb ?_;have bN:Rel g ⟨fn.ntmps,slotsOf 0 args,O⟩ { tmps:=vs++Array.replicate (fn.ntmps-vs.size) undef,defers:=[] } g:={
  le:=Le.refl g
  good:=hg
  objs:=ho
  size:=by
   have:=ha.1;simp only[Array.size_append,Array.size_replicate];omega
  defers:=rfl
  slot:=fun s x hx=>by
   obtain⟨_,h1⟩:=nz args 0 s x hx;simp only[Nat.sub_zero]at h1;have bg:=I h1;have kF:s<vs.size:=by rw[ha.1];exact bg
   refine⟨vs[s],?_,ha.2 s x _ h1 (by simp[kF])⟩;simp only;rw[Array.getElem?_append,if_pos kF];simp[kF] }
 refine wp_mono (h g _ g (by rw[ho];exact Nat.le_refl _) bN) fun e a w hp=>?_;have key:∀g' fY,g'.w=w->Rel g fY a g'->(on (gj aT fY fn.results.toList) fun rs=>R (Av.jq rs) fY.objs) ->
   a.defers=[]∧∃v,(results fn a.tmps).run P w=.ok v w∧∃g' v' r,Ending.returned v=.returned v'∧g'.w=w∧Le g g'∧Good g'∧RV g' r v'∧R r g'.objs:=by
  intro g' fY hw hr hq;subst hw;obtain⟨rs,yK,h4⟩:=aG hq;obtain⟨us,q1,q2⟩:=nI hT hr yK;have hO:g'.objs=fY.objs:=hr.objs;refine⟨hr.defers,(if h:us.toArray.size=1 then us.toArray[0]else .tuple us.toArray),?_,g',_,_,rfl,rfl,hr.le,hr.good,RV.jq q2,by rw[hO];exact h4⟩;have hm:fn.results.mapM (ly a)=Functor.map List.toArray (fn.results.toList.mapM (ly a)):=Array.mapM_eq_mapM_toList;have eX:results fn a.tmps=(do
   let vs <-fn.results.mapM (ly a)
   pure (if h:vs.size=1 then vs[0]else .tuple vs)):=rfl
  rw[eX,hm];simp only[Sem.run_bind,Sem.run_map,q1,Result.andThen_ok,Sem.run_pure]
 cases e with
 | normal =>
  obtain⟨g',fY,h1,h2,h3⟩:=hp;exact key g' fY h1 h2 h3
 | ret =>
  obtain⟨g',fY,h1,h2,h3⟩:=hp;exact key g' fY h1 h2 h3
 | exit id =>
  obtain⟨g',fY,h1,h2,h3⟩:=hp;exact h3.elim
 | goto l=>exact hp.elim
 | panic c=>exact hp.elim
 | outgrown=>exact hp.elim
theorem Jz{P:Program}{kb:Nat}{c:Code}{Q:dE->St->Prop}{n:Nat}{br:List (Nat×ae)}{O:List aj}(s:Nat){sz:Nat}{xs:List ae}{o:nR}(hs:look br s=some (.aC sz xs o))
  (h1:xs=[]->cc P kb c Q ⟨n,bF s (.v (.slice none 0 0)) br,O⟩) (h2:cc P kb c Q ⟨n,bF s (.aC sz xs .nn) br,O⟩):cc P kb c Q ⟨n,br,O⟩:=by
 intro base a g hb hr;obtain⟨u,e1,e2⟩:=hr.slot s _ hs;have key:∀y,RV g y u->Rel base ⟨n,bF s y br,O⟩ a g:=fun y hy =>
  {le:=hr.le,good:=hr.good,objs:=hr.objs,size:=hr.size,defers:=hr.defers,slot:=fun k x hx=>by
    simp only[St.get,gy]at hx;split at hx
    ·rename_i e;subst e;simp only[Option.some.injEq]at hx;subst hx;exact⟨u,e1,hy⟩
    exact hr.slot k x hx }
 cases e2 with
 | nil ho hn=>exact h1 rfl base a g hb (key _ (.v trivial))
 | aC cP dv cY cE hs f hm hr ho=>exact h2 base a g hb (key _ (.aC cP dv cY cE hs f hm hr trivial))
theorem eN{P:Program}{kb:Nat}{c:Code}{Q:dE->St->Prop}{n:Nat}{br:List (Nat×ae)}{O:List aj}(k:Nat){cs:List ae}(ds:List ae)(lM:O[k]?=some (.cells cs))(hl:ds.length=cs.length)(dv:∀d∈ds,d.scalar)
  (hs:∀(j:Nat) (c d:ae),cs[j]?=some c->ds[j]?=some d->Sub O c d) (h:cc P kb c Q ⟨n,br,O.set k (.cells ds)⟩):cc P kb c Q ⟨n,br,O⟩ :=
 cc.weaken h fun base a g hb hr=>by
  have hO:g.objs=O:=hr.objs;have VI:g.objs[k]?=some (.cells cs):=by rw[hO];exact lM
  obtain⟨l,arr,t,e1,e2,e3,e4,e5,e6⟩:=hr.good.cells k cs VI;have ht:ld g k (.cells cs) (some l) (.cells ds) g.w:={
   obj:=VI
   os:=rfl
   tape:=rfl
   output:=rfl
   size:=Nat.le_refl _
   block:=fun _ _ _=>rfl
   cell:=fun b off x hx _=>hx
   place:=fun l1 h1 _=>by
    simp only[Option.some.injEq]at h1;subst h1;exact .inr ⟨l,e1,trivial,rfl,Nat.le_refl _⟩
   spare:=fun m h=>by cases h
   plain:=fun _=>⟨by simp[aj.aF],e1⟩
   gone:=by simp }
  have hle:=Le.bB hr.good ht;have dp:=Good.bB hr.good ht ⟨l,arr,t,rfl,e2,e3,by omega,fun j d u hd hu=>by
   have bg:=I hd;have hc:cs[j]?=some cs[j]:=List.getElem?_eq_getElem (by omega);exact(hs j _ d hc hd g u hO (e5 j _ u hc hu)).mono hle,dv,e6.2⟩ (fun l1 h1 _=>by
    simp only[Option.some.injEq]at h1;subst h1;exact aW e3)
  refine⟨g.bB k (some l) (.cells ds) g.w,rfl,{ le:=hr.le.trans hle,good:=dp,objs:=by simp[G.bB,hO],size:=hr.size,defers:=hr.defers,slot:=fun s y hy=>?_ }⟩;have DD:(St.mk n br O).get s=some y:=hy;obtain⟨u,h3,h4⟩:=hr.slot s y DD;exact⟨u,h3,h4.mono hle⟩
theorem Sub.Pb{O:List aj}(sz:Nat):Sub O (.v (.slice none 0 0)) (.aC sz [] .ex):=fun g u _ h=>by
 obtain⟨e,_⟩:=h.cb;rw[e];exact .nil (fun id q=>by cases q) (by simp)
end Go.Av
namespace Go.Proofs.YtjdnhamngpafmaaGreat
open Go.Av
def within(n low high:Int):Bool:=decide (low<=n)&&decide (n<=high)
theorem dU(n low high:Int):bD Tryz.prog 30 [aI n,aI low,aI high] (.v (.bool (within n low high))):=by
 refine zf true 0 Tryz.func30 Tryz.ntmps30 ?_;dsimp only[Tmp,TypeId,slotsOf];refine aA (ah ?_);refine aA ?_;refine F1 (fun h=>?_) (fun h=>?_)
 ·simp -dsimp only[simprocAttr,↓aa,zp,h];refine ah ?_;refine aq ?_;simp -dsimp only[simprocAttr,↓aa,zp,zr,Tryz.results30]
  simp_all [within]
 simp -dsimp only[simprocAttr,↓aa,zp,h];refine ah ?_;refine aq ?_;simp -dsimp only[simprocAttr,↓aa,zp,zr,Tryz.results30]
 simp_all [within]
 omega
theorem kB(n:Int):-1073741824<=kP n∧kP n<=1073741823:=by
 unfold kP;omega
theorem NC(x:Int):bitsOf .i64 (fun x y=>x&&& y) x 2147483647=x % 2147483648:=by
 have h:(BitVec.ofInt 64 x&&& BitVec.ofInt 64 2147483647).toNat=(x % 2147483648).toNat:=by
  rw[BitVec.toNat_and,show(BitVec.ofInt 64 2147483647).toNat=2 ^ 31-1 by decide,Nat.and_two_pow_sub_one_eq_mod,BitVec.toNat_ofInt];omega
 show IntKind.i64.wrap (((BitVec.ofInt 64 x&&& BitVec.ofInt 64 2147483647).toNat:Nat):Int)=_;rw[h,nQ .i64 _ (by simp[IntKind.min,IntKind.bits,IntKind.signed];omega) (by simp[IntKind.max,IntKind.bits,IntKind.signed];omega)];omega
theorem gA(n:Int)(h1:-9223372036854775808<=n)(h2:n<=9223372035781033983):bD Tryz.prog 155 [aI n] (aI (kP n)):=by
 have q:=kB n;have e:bitsOf .i64 (fun x y=>x&&& y) (n+1073741824) 2147483647=kP n+1073741824:=by
  rw[NC];unfold kP;omega
 refine zf true 0 Tryz.func155 Tryz.ntmps155 ?_;dsimp only[Tmp,TypeId,slotsOf];refine aA (ah ?_);refine aA ?_;refine⟨by omega,by omega,?_⟩;simp -dsimp only[simprocAttr,↓aa,zp,e];refine⟨by omega,by omega,by omega,by omega,?_⟩;refine ah ?_;refine aq ?_;simp -dsimp only[simprocAttr,↓aa,zp,zr,Tryz.results155];rw[Int.add_sub_cancel]
theorem mR{n:Int}(h:fU n):kP n=n:=by
 unfold fU at h;unfold kP;omega
theorem Ju(a b:Int)(ha:fU a)(hb:fU b):bD Tryz.prog 148 [aI a,aI b] (aI (kP (a+b))):=by
 unfold fU at ha hb;refine zf true 0 Tryz.func148 Tryz.ntmps148 ?_;dsimp only[Tmp,TypeId,slotsOf];refine aA (ah ?_);refine aA ?_;refine⟨by omega,by omega,?_⟩;refine .inl ⟨_,(gA (a+b) (by omega) (by omega)),by simp only[aw,ae.upto,zt],ao ?_⟩;refine ah ?_;refine aq ?_;simp -dsimp only[simprocAttr,↓aa,zp,zr,Tryz.results148]
theorem Ma(a b:Int)(ha:fU a)(hb:fU b):bD Tryz.prog 149 [aI a,aI b] (aI (kP (a-b))):=by
 unfold fU at ha hb;refine zf true 0 Tryz.func149 Tryz.ntmps149 ?_;dsimp only[Tmp,TypeId,slotsOf];refine aA (ah ?_);refine aA ?_;refine⟨by omega,by omega,?_⟩;refine .inl ⟨_,(gA (a-b) (by omega) (by omega)),by simp only[aw,ae.upto,zt],ao ?_⟩;refine ah ?_;refine aq ?_;simp -dsimp only[simprocAttr,↓aa,zp,zr,Tryz.results149]
theorem Fz{a b:Int}(ha:fU a)(hb:fU b):-1152921504606846976<=a*b∧a*b<=1152921504606846976:=by
 unfold fU at ha hb;have h:(a*b).natAbs<=1152921504606846976:=by
  rw[Int.natAbs_mul];have:=Nat.mul_le_mul (show a.natAbs<=1073741824 by omega) (show b.natAbs<=1073741824 by omega);omega
 omega
theorem Ln(a b:Int)(ha:fU a)(hb:fU b):bD Tryz.prog 150 [aI a,aI b] (aI (kP (a*b))):=by
 have q:=Fz ha hb;have ea:=mR ha;have eb:=mR hb;have wa:=gA a (by unfold fU at ha;omega) (by unfold fU at ha;omega);have wb:=gA b (by unfold fU at hb;omega) (by unfold fU at hb;omega);have wc:=gA (a*b) (by omega) (by omega);rw[ea]at wa;rw[eb]at wb;generalize hc:a*b=c at *;refine zf true 0 Tryz.func150 Tryz.ntmps150 ?_;dsimp only[Tmp,TypeId,slotsOf];refine aA (ah ?_);refine aA ?_;refine .inl ⟨_,wa,by simp only[aw,ae.upto,zt],ao ?_⟩;refine .inl ⟨_,wb,by simp only[aw,ae.upto,zt],ao ?_⟩;simp -dsimp only[simprocAttr,↓aa,zp,hc];refine⟨by omega,by omega,?_⟩;refine .inl ⟨_,wc,by simp only[aw,ae.upto,zt],ao ?_⟩;refine ah ?_;refine aq ?_;simp -dsimp only[simprocAttr,↓aa,zp,zr,Tryz.results150]
theorem FW{a b:Int}(ha:fU a):-1073741824<=a.tdiv b∧a.tdiv b<=1073741824:=by
 unfold fU at ha;have h:(a.tdiv b).natAbs<=a.natAbs:=by
  rw[Int.natAbs_tdiv];exact Nat.div_le_self _ _
 omega
theorem w8{a b:Int}(hb:fU b)(h0:b≠0):fU (a.tmod b):=by
 unfold fU at *;have h:(a.tmod b).natAbs<b.natAbs:=by
  rw[Int.natAbs_tmod];exact Nat.mod_lt _ (by omega)
 omega
theorem JZ(a b:Int)(ha:fU a)(hb:fU b)(h0:b≠0):bD Tryz.prog 152 [aI a,aI b] (.cD [aI (kP (a.tdiv b)),aI 0]):=by
 have q:=FW (b:=b) ha;have wa:=gA a (by unfold fU at ha;omega) (by unfold fU at ha;omega);have wb:=gA b (by unfold fU at hb;omega) (by unfold fU at hb;omega);have wc:=gA (a.tdiv b) (by omega) (by omega);rw[mR ha]at wa;rw[mR hb]at wb;have h1:(b=0)=False:=by simpa using h0
 generalize hc:a.tdiv b=c at *;refine zf true 0 Tryz.func152 Tryz.ntmps152 ?_;dsimp only[Tmp,TypeId,slotsOf];refine aA (ah ?_);refine bX ?_;refine .inl ⟨_,wb,by simp only[aw,ae.upto,zt],ao ?_⟩;simp -dsimp only[simprocAttr,↓aa,zp,h0];refine ah ?_;refine cr rfl ?_;refine cd ?_;refine aA ?_;refine .inl ⟨_,wa,by simp only[aw,ae.upto,zt],ao ?_⟩;refine .inl ⟨_,wb,by simp only[aw,ae.upto,zt],ao ?_⟩;simp -dsimp only[simprocAttr,↓aa,zp,h1,if_false,hc];refine⟨by omega,by omega,?_⟩;refine .inl ⟨_,wc,by simp only[aw,ae.upto,zt],ao ?_⟩;refine ah ?_;refine aq ?_;simp -dsimp only[simprocAttr,↓aa,zp,zr,Tryz.results152];simp[aw,ae.upto]
theorem Ll(a b:Int)(ha:fU a)(hb:fU b)(h0:b≠0):bD Tryz.prog 153 [aI a,aI b] (.cD [aI (a.tmod b),aI 0]):=by
 have q:=w8 (a:=a) hb h0;unfold fU at q;have wa:=gA a (by unfold fU at ha;omega) (by unfold fU at ha;omega);have wb:=gA b (by unfold fU at hb;omega) (by unfold fU at hb;omega);rw[mR ha]at wa;rw[mR hb]at wb;have h1:(b=0)=False:=by simpa using h0
 generalize hc:a.tmod b=c at *;refine zf true 0 Tryz.func153 Tryz.ntmps153 ?_;dsimp only[Tmp,TypeId,slotsOf];refine aA (ah ?_);refine bX ?_;refine .inl ⟨_,wb,by simp only[aw,ae.upto,zt],ao ?_⟩;simp -dsimp only[simprocAttr,↓aa,zp,h0];refine ah ?_;refine cr rfl ?_;refine cd ?_;refine aA ?_;refine .inl ⟨_,wa,by simp only[aw,ae.upto,zt],ao ?_⟩;refine .inl ⟨_,wb,by simp only[aw,ae.upto,zt],ao ?_⟩;simp -dsimp only[simprocAttr,↓aa,zp,h1,if_false,hc];refine⟨by omega,by omega,?_⟩;refine ah ?_;refine aq ?_;simp -dsimp only[simprocAttr,↓aa,zp,zr,Tryz.results153];simp[aw,ae.upto]
structure Bs where
 a:Nat
 b:Nat
 deriving DecidableEq
namespace Bs
def enc(s:Bs):ae:=.agg [.v (.int .u64 s.a),.v (.int .u64 s.b)]
def fit(s:Bs):Prop:=s.a<2 ^ 64∧s.b<2 ^ 64
def has(s:Bs)(k:Nat):Bool:=if k<64 then s.a.testBit k else s.b.testBit (k-64)
def add(s:Bs)(k:Nat):Bs:=if k<64 then⟨s.a |||1 <<< k,s.b⟩else⟨s.a,s.b |||1 <<< (k-64)⟩
def meet(s t:Bs):Bs:=⟨s.a&&& t.a,s.b&&& t.b⟩
def none:Bs:=⟨0,0⟩
theorem al(s:Bs):s.enc.share=s.enc:=rfl
theorem av(s:Bs):s.enc.flat:=trivial
theorem ak(s:Bs):s.enc.cells=[.v (.int .u64 s.a),.v (.int .u64 s.b)]:=rfl
theorem aQ(n:Nat)(s:Bs):s.enc.upto n:=⟨trivial,trivial,trivial⟩
end Bs
theorem wrap_u64{n:Nat}(h:n<2 ^ 64):IntKind.u64.wrap (n:Int)=(n:Int):=by
 rw[nQ .u64 _ (by simp[IntKind.min,IntKind.signed]) (by simp[IntKind.max,IntKind.bits,IntKind.signed];omega)]
theorem zE{m n:Nat}(hm:m<2 ^ 64)(hn:n<2 ^ 64):bitsOf .u64 (fun x y=>x&&& y) (m:Int) (n:Int)=((m&&& n:Nat):Int):=by
 have h:(BitVec.ofInt 64 (m:Int)&&& BitVec.ofInt 64 (n:Int)).toNat=m&&& n:=by
  rw[BitVec.toNat_and,BitVec.toNat_ofInt,BitVec.toNat_ofInt];congr 1<;>omega
 show IntKind.u64.wrap (((BitVec.ofInt 64 (m:Int)&&& BitVec.ofInt 64 (n:Int)).toNat:Nat):Int)=_;rw[h];exact wrap_u64 (Nat.lt_of_le_of_lt Nat.and_le_left hm)
theorem Lz{m n:Nat}(hm:m<2 ^ 64)(hn:n<2 ^ 64):bitsOf .u64 (fun x y=>x |||y) (m:Int) (n:Int)=((m |||n:Nat):Int):=by
 have h:(BitVec.ofInt 64 (m:Int) |||BitVec.ofInt 64 (n:Int)).toNat=m |||n:=by
  rw[BitVec.toNat_or,BitVec.toNat_ofInt,BitVec.toNat_ofInt];congr 1<;>omega
 show IntKind.u64.wrap (((BitVec.ofInt 64 (m:Int) |||BitVec.ofInt 64 (n:Int)).toNat:Nat):Int)=_;rw[h];exact wrap_u64 (Nat.or_lt_two_pow hm hn)
theorem Pv(m k:Nat)(hk:k<64):fD .u64 .shr (m:Int) (k:Int)=((m >>> k:Nat):Int):=by
 simp only[fD,Int.toNat_natCast,IntKind.bits];rw[Nat.min_eq_left (by omega),Nat.shiftRight_eq_div_pow,Int.fdiv_eq_ediv_of_nonneg _ (by exact Int.le_of_lt (Int.pow_pos (by omega)))];simp
theorem Pu(k:Nat)(hk:k<64):fD .u64 .shl 1 (k:Int)=((1 <<< k:Nat):Int):=by
 simp only[fD,Int.toNat_natCast,IntKind.bits];have bg:1 <<< k<2 ^ 64:=by
  rw[Nat.one_shiftLeft];exact Nat.pow_lt_pow_right (by omega) hk
 have he:(1:Int)*(2:Int) ^ k=((1 <<< k:Nat):Int):=by
  rw[Nat.one_shiftLeft];simp
 rw[Nat.min_eq_left (by omega),he];exact wrap_u64 bg
theorem NJ(m k:Nat):decide (((m >>> k&&& 1:Nat):Int)=1)=m.testBit k:=by
 rw[Nat.testBit_eq_decide_div_mod_eq,Nat.and_one_is_mod,Nat.shiftRight_eq_div_pow];congr 1;apply propext;omega
theorem S4{m k:Nat}(h:m<2 ^ 64):m >>> k<2 ^ 64:=by
 rw[Nat.shiftRight_eq_div_pow];exact Nat.lt_of_le_of_lt (Nat.div_le_self _ _) h
theorem Rm{k:Nat}:(k:Int).tdiv 64=((k / 64:Nat):Int):=by
 rw[Int.tdiv_eq_ediv_of_nonneg (by omega)];omega
theorem Rn{k:Nat}:(k:Int).tmod 64=((k % 64:Nat):Int):=by
 rw[Int.tmod_eq_emod_of_nonneg (by omega)];omega
theorem Ly:((1:Nat):Int)=1:=rfl
theorem rH(s:Bs)(hs:s.fit)(k:Nat)(hk:k<128):bD Tryz.prog 90 [s.enc,aI k] (.v (.bool (s.has k))):=by
 obtain⟨ha,hb⟩:=hs;have Xf:((64:Int)=0)=False:=by simp
 have OL:k % 64<64:=Nat.mod_lt _ (by omega);have q1:=Rm (k:=k);have q2:=Rn (k:=k);obtain⟨x,hx,Wd⟩:∃x:Nat,x<2 ^ 64∧x=if k<64 then s.a else s.b:=by
  split
  ·exact⟨_,ha,rfl⟩
  exact⟨_,hb,rfl⟩
 have hr:s.has k=x.testBit (k % 64):=by
  rw[Wd];unfold Bs.has;split
  ·rw[Nat.mod_eq_of_lt (by assumption)]
  rw[show k % 64=k-64 by omega]
 have e1:=Pv x (k % 64) OL;have mW:=S4 (k:=k % 64) hx;have e2:=zE (m:=x >>> (k % 64)) (n:=1) mW (by omega);have e3:=NJ x (k % 64);rw[Ly]at e2;have lK:x >>> (k % 64)&&& 1<=1:=Nat.and_le_right;rw[hr,<-e3];generalize hy:x >>> (k % 64)=y at *;generalize hw:y&&& 1=w at *;rcases(show k / 64=0∧x=s.a∨k / 64=1∧x=s.b by
  by_cases h:k<64
  ·exact .inl ⟨by omega,by rw[Wd,if_pos h]⟩
  exact .inr ⟨by omega,by rw[Wd,if_neg h]⟩)with⟨hq,wq⟩|⟨hq,wq⟩
 all_goals
  rw[hq]at q1;subst wq;refine zf true 0 Tryz.func90 Tryz.ntmps90 ?_;dsimp only[Tmp,TypeId,slotsOf];refine aS ?_;simp -dsimp only[simprocAttr,↓aa,zp,Bs.ak,Bs.av];refine ah ?_;refine aS ?_;simp -dsimp only[simprocAttr,↓aa,zp,q1,q2,Xf,if_false,e1,e2]
  repeat(refine⟨by omega,?_⟩)
  refine ah ?_;refine aq ?_;simp -dsimp only[simprocAttr,↓aa,zp,zr,Tryz.results90]
theorem Hj(s t:Bs)(hs:s.fit)(ht:t.fit):bD Tryz.prog 120 [s.enc,t.enc] (s.meet t).enc:=by
 obtain⟨ha,hb⟩:=hs;obtain⟨hc,hd⟩:=ht;have e1:=zE ha hc;have e2:=zE hb hd;have l1:s.a&&& t.a<2 ^ 64:=Nat.lt_of_le_of_lt Nat.and_le_left ha;have l2:s.b&&& t.b<2 ^ 64:=Nat.lt_of_le_of_lt Nat.and_le_left hb;unfold Bs.meet;generalize s.a&&& t.a=p at *;generalize s.b&&& t.b=q at *;refine zf true 0 Tryz.func120 Tryz.ntmps120 ?_;dsimp only[Tmp,TypeId,slotsOf];refine aS ?_;simp -dsimp only[simprocAttr,↓aa,zp,Bs.ak,Bs.av];refine ah ?_;refine aS ?_;simp -dsimp only[simprocAttr,↓aa,zp,e1,e2]
 repeat(refine⟨by omega,?_⟩)
 refine ah ?_;refine aq ?_;simp -dsimp only[simprocAttr,↓aa,zp,zr,Tryz.results120];exact⟨⟨trivial,trivial,trivial⟩,rfl⟩
theorem I3(s:Bs)(hs:s.fit)(k:Nat)(hk:k<128):bD Tryz.prog 119 [s.enc,aI k] (s.add k).enc:=by
 obtain⟨ha,hb⟩:=hs;have Xf:((64:Int)=0)=False:=by simp
 have OL:k % 64<64:=Nat.mod_lt _ (by omega);have q1:=Rm (k:=k);have q2:=Rn (k:=k);have e1:=Pu (k % 64) OL;have bg:1 <<< (k % 64)<2 ^ 64:=by
  rw[Nat.one_shiftLeft];exact Nat.pow_lt_pow_right (by omega) OL
 rcases(show k<64∨64<=k by omega)with h|h
 ·have hq:k / 64=0:=by omega
  have hr:s.add k=⟨s.a |||1 <<< (k % 64),s.b⟩:=by
   simp[Bs.add,h,Nat.mod_eq_of_lt h]
  have e2:=Lz ha bg;have l1:s.a |||1 <<< (k % 64)<2 ^ 64:=Nat.or_lt_two_pow ha bg;rw[hr];rw[hq]at q1;generalize hy:1 <<< (k % 64)=y at *;generalize hw:s.a |||y=w at *;refine zf true 0 Tryz.func119 Tryz.ntmps119 ?_;dsimp only[Tmp,TypeId,slotsOf];refine aS ?_;simp -dsimp only[simprocAttr,↓aa,zp,Bs.ak,Bs.av];refine ah ?_;refine aS ?_;simp -dsimp only[simprocAttr,↓aa,zp,q1,q2,Xf,if_false,e1,e2]
  repeat(refine⟨by omega,?_⟩)
  refine⟨ob (by kernel_rfl),?_⟩;refine ah ?_;refine aA (ah ?_);refine aq ?_;simp -dsimp only[simprocAttr,↓aa,zp,zr,Tryz.results119];exact⟨⟨trivial,trivial,trivial⟩,rfl⟩
 have hq:k / 64=1:=by omega
 have hr:s.add k=⟨s.a,s.b |||1 <<< (k % 64)⟩:=by
  have ct:¬k<64:=by omega
  simp[Bs.add,ct,show k % 64=k-64 by omega]
 have e2:=Lz hb bg;have l1:s.b |||1 <<< (k % 64)<2 ^ 64:=Nat.or_lt_two_pow hb bg;rw[hr];rw[hq]at q1;generalize hy:1 <<< (k % 64)=y at *;generalize hw:s.b |||y=w at *;refine zf true 0 Tryz.func119 Tryz.ntmps119 ?_;dsimp only[Tmp,TypeId,slotsOf];refine aS ?_;simp -dsimp only[simprocAttr,↓aa,zp,Bs.ak,Bs.av];refine ah ?_;refine aS ?_;simp -dsimp only[simprocAttr,↓aa,zp,q1,q2,Xf,if_false,e1,e2]
 repeat(refine⟨by omega,?_⟩)
 refine⟨ob (by kernel_rfl),?_⟩;refine ah ?_;refine aA (ah ?_);refine aq ?_;simp -dsimp only[simprocAttr,↓aa,zp,zr,Tryz.results119];exact⟨⟨trivial,trivial,trivial⟩,rfl⟩
namespace Bs
theorem vQ(s t:Bs)(k:Nat):(s.meet t).has k=(s.has k&&t.has k):=by
 unfold has meet;split<;>simp[Nat.testBit_and]
theorem has_add(s:Bs)(j k:Nat)(hj:j<128)(hk:k<128):(s.add j).has k=(s.has k ||decide (k=j)):=by
 unfold has add;by_cases h1:j<64<;>by_cases h2:k<64
 ·simp only[h1,h2,if_true,Nat.testBit_or,Nat.one_shiftLeft,Nat.testBit_two_pow];congr 1;apply decide_eq_decide.2;omega
 ·simp only[h1,h2,if_true,if_false];have:¬k=j:=by omega
  simp[this]
 ·simp only[h1,h2,if_true,if_false];have:¬k=j:=by omega
  simp[this]
 simp only[h1,h2,if_false,Nat.testBit_or,Nat.one_shiftLeft,Nat.testBit_two_pow];congr 1;apply decide_eq_decide.2;omega
theorem B0{s t:Bs}(h:s.fit):(s.meet t).fit:=⟨Nat.lt_of_le_of_lt Nat.and_le_left h.1,Nat.lt_of_le_of_lt Nat.and_le_left h.2⟩
theorem pA{s:Bs}(h:s.fit){k:Nat}(hk:k<128):(s.add k).fit:=by
 unfold add;split
 ·refine⟨Nat.or_lt_two_pow h.1 ?_,h.2⟩;rw[Nat.one_shiftLeft];exact Nat.pow_lt_pow_right (by omega) (by assumption)
 refine⟨h.1,Nat.or_lt_two_pow h.2 ?_⟩;rw[Nat.one_shiftLeft];exact Nat.pow_lt_pow_right (by omega) (by omega)
theorem oF:none.fit:=⟨by decide,by decide⟩
theorem ext{s t:Bs}(hs:s.fit)(ht:t.fit)(h:∀k,k<128->s.has k=t.has k):s=t:=by
 obtain⟨a,b⟩:=s;obtain⟨c,d⟩:=t;obtain⟨s1,s2⟩:=hs;obtain⟨t1,t2⟩:=ht;simp only at s1 s2 t1 t2;have bg:∀{m k:Nat},m<2 ^ 64->64<=k->m.testBit k=false:=fun hm hk=>Nat.testBit_lt_two_pow (Nat.lt_of_lt_of_le hm (Nat.pow_le_pow_right (by omega) hk));congr 1
 ·apply Nat.eq_of_testBit_eq;intro k;by_cases hk:k<64
  ·have:=h k (by omega);simpa[has,hk]using this
  rw[bg s1 (by omega),bg t1 (by omega)]
 apply Nat.eq_of_testBit_eq;intro k;by_cases hk:k<64
 ·have:=h (k+64) (by omega);simpa[has,show ¬k+64<64 by omega]using this
 rw[bg s2 (by omega),bg t2 (by omega)]
def size(s:Bs):Nat:=(List.range 128).countP s.has
theorem countP_le{p q:Nat->Bool}(h:∀k,k<128->p k=true->q k=true):∀n≤128,(List.range n).countP p<=(List.range n).countP q
 | 0,_=>by simp
 | n+1,hn=>by
  have ih:=countP_le h n (by omega);rw[List.range_succ,List.countP_append,List.countP_append];have:[n].countP p<=[n].countP q:=by
   simp only[List.countP_singleton];by_cases hp:p n=true
   ·simp[hp,h n (by omega) hp]
   simp[hp]
  omega
theorem sG{p q:Nat->Bool}(h:∀k,k<128->p k=true->q k=true){j:Nat}(hq:q j=true)(hp:p j=false):∀n≤128,j<n->(List.range n).countP p<(List.range n).countP q
 | 0,_,hj=>by omega
 | n+1,hn,hj=>by
  rw[List.range_succ,List.countP_append,List.countP_append];by_cases e:j=n
  ·subst e;have:=countP_le h j (by omega);simp only[List.countP_singleton,hq,hp];simp;omega
  have ih:=sG h hq hp n (by omega) (by omega);have:[n].countP p<=[n].countP q:=by
   simp only[List.countP_singleton];by_cases Jg:p n=true
   ·simp[Jg,h n (by omega) Jg]
   simp[Jg]
  omega
theorem Pw{s t:Bs}(hs:s.fit)(ht:t.fit)(h:∀k,k<128->s.has k=true->t.has k=true)(ct:s≠t):s.size<t.size:=by
 by_cases cz:∀k,k<128->t.has k=true->s.has k=true
 ·exfalso;apply ct;apply ext hs ht;intro k hk;cases h1:s.has k<;>cases h2:t.has k
  ·rfl
  ·exact absurd (cz k hk h2) (by simp[h1])
  ·exact absurd (h k hk h1) (by simp[h2])
  rfl
 obtain⟨j,hj,h2,h1⟩:∃j,j<128∧t.has j=true∧¬s.has j=true:=by
  refine Classical.byContradiction fun q=>cz fun k hk h2=>?_;refine Classical.byContradiction fun h1=>q ⟨k,hk,h2,h1⟩
 exact sG h h2 (by simpa using h1) 128 (Nat.le_refl _) hj
theorem tV(s:Bs):s.size<=128:=by
 have:=List.countP_le_length (p:=s.has) (l:=List.range 128);simpa[size]using this
end Bs
structure Ds where
 over:List Bs
 seen:Bs
 again:Bool
def Ds.at_(S:Ds)(k:Nat):Bs:=S.over[k]?.getD .none
def iQ(k:Nat)(S:Ds)(e:Edge):Ds :=
 let next:=((S.at_ e.block.toNat).meet (S.at_ k)).add e.block.toNat
 if next≠S.at_ e.block.toNat∨S.seen.has e.block.toNat=false then⟨S.over.set e.block.toNat next,S.seen.add e.block.toNat,true⟩else S
def rA(k:Nat)(S:Ds)(b:Block):Ds:=if S.seen.has k=false then S else b.term.to.foldl (iQ k) S
def mc:Nat->Ds->List Block->Ds
 | _,S,[]=>S
 | k,S,b::r=>mc (k+1) (rA k S b) r
def jz(f:Func):Nat->Ds->Ds
 | 0,S=>S
 | n+1,S=>if S.again then jz f n (mc 0 ⟨S.over,S.seen,false⟩ f.blocks)else S
def xp:Nat->Bs
 | 0=>.none
 | n+1=>(xp n).add n
def nh(f:Func):Ds:=⟨(List.replicate f.blocks.length (xp f.blocks.length)).set 0 (Bs.none.add 0),Bs.none.add 0,true⟩
def lJ(f:Func):List Bs×Bs:=((jz f 20000 (nh f)).over,(jz f 20000 (nh f)).seen)
structure lI(n:Nat)(S:Ds):Prop where
 few:n<=128
 len:S.over.length=n
 fit:∀s∈S.over,s.fit
 seen:S.seen.fit
 self:∀k,k<n->(S.at_ k).has k=true
def Ds.weight(S:Ds):Nat:=(S.over.map Bs.size).sum+(128-S.seen.size)
theorem lI.zG{n:Nat}{S:Ds}(h:lI n S)(k:Nat):(S.at_ k).fit:=by
 unfold Ds.at_;cases hk:S.over[k]? with
 | none=>exact Bs.oF
 | some s=>exact h.fit s (List.mem_of_getElem? hk)
theorem PB{l:List Nat}{k x y:Nat}(h:l[k]?=some y):(l.set k x).sum+y=l.sum+x:=by
 induction l generalizing k with
 | nil=>simp at h
 | cons a r ih =>
  cases k with
  | zero =>
   simp only[List.getElem?_cons_zero,Option.some.injEq]at h;simp only[List.set_cons_zero,List.sum_cons];omega
  | succ k =>
   have:=ih (k:=k) (by simpa using h);simp only[List.set_cons_succ,List.sum_cons];omega
theorem Gi{n:Nat}{S:Ds}(h:lI n S){k:Nat}{e:Edge}(M6:0<=e.block)(rJ:e.block.toNat<n):lI n (iQ k S e)∧(iQ k S e).weight<=S.weight∧((iQ k S e).again=true->S.again=true∨(iQ k S e).weight<S.weight):=by
 have hj:e.block.toNat<128:=Nat.lt_of_lt_of_le rJ h.few;unfold iQ;simp only;generalize e.block.toNat=j at *;have ZY:=h.zG j;have mV:(((S.at_ j).meet (S.at_ k)).add j).fit:=Bs.pA (Bs.B0 ZY) hj;have wo:∀i,i<128->(((S.at_ j).meet (S.at_ k)).add j).has i=true->(S.at_ j).has i=true:=fun i hi q=>by
  rw[Bs.has_add _ _ _ hj hi,Bs.vQ]at q;by_cases e:i=j
  ·subst e;exact h.self i rJ
  simp[e]at q;exact q.1
 have B6:S.over[j]?=some (S.at_ j):=by
  have:j<S.over.length:=by rw[h.len];exact rJ
  simp[Ds.at_,this]
 split
 ·rename_i hc;refine⟨⟨h.few,by simp[h.len],fun s hs=>?_,Bs.pA h.seen hj,fun i hi=>?_⟩,?_⟩
  ·rcases List.mem_or_eq_of_mem_set hs with q|q
   ·exact h.fit s q
   rw[q];exact mV
  ·unfold Ds.at_;by_cases e:i=j
   ·subst e;rw[List.getElem?_set_self (by rw[h.len];exact hi)];simp only[Option.getD_some];rw[Bs.has_add _ _ _ hj hj];simp
   rw[List.getElem?_set_ne (Ne.symm e)];exact h.self i hi
  have sV:=PB (l:=S.over.map Bs.size) (k:=j) (x:=(((S.at_ j).meet (S.at_ k)).add j).size) (y:=(S.at_ j).size) (by simp[B6]);rw[<-List.map_set]at sV;have hle:(((S.at_ j).meet (S.at_ k)).add j).size<=(S.at_ j).size:=Bs.countP_le wo 128 (Nat.le_refl _);have mW:S.seen.size<=(S.seen.add j).size:=Bs.countP_le (fun i hi q=>by rw[Bs.has_add _ _ _ hj hi,q];rfl) 128 (Nat.le_refl _);have ha:=Bs.tV (S.seen.add j);have bg:(((S.at_ j).meet (S.at_ k)).add j).size<(S.at_ j).size∨S.seen.size<(S.seen.add j).size:=by
   rcases hc with hc|hc
   ·exact .inl (Bs.Pw mV ZY wo hc)
   refine .inr (Bs.sG (fun i hi q=>by rw[Bs.has_add _ _ _ hj hi,q];rfl) (j:=j) ?_ hc 128 (Nat.le_refl _) hj);rw[Bs.has_add _ _ _ hj hj];simp
  simp only[Ds.weight];refine⟨by omega,fun _=>.inr (by omega)⟩
 exact⟨h,Nat.le_refl _,fun q=>.inl q⟩
theorem Gj{n:Nat}{k:Nat}:∀(l:List Edge) {S:Ds},lI n S->(∀e∈l,0<=e.block∧e.block.toNat<n)->lI n (l.foldl (iQ k) S)∧(l.foldl (iQ k) S).weight<=S.weight∧((l.foldl (iQ k) S).again=true->S.again=true∨(l.foldl (iQ k) S).weight<S.weight)
 | [],S,h,_=>⟨h,Nat.le_refl _,fun q=>.inl q⟩
 | e::r,S,h,he=>by
  obtain⟨a1,a2,a3⟩:=Gi (k:=k) h (he e (by simp)).1 (he e (by simp)).2;obtain⟨b1,b2,b3⟩:=Gj r a1 (fun x hx=>he x (by simp[hx]));simp only[List.foldl_cons];refine⟨b1,by omega,fun q=>?_⟩;rcases b3 q with q|q
  ·rcases a3 q with q|q
   ·exact .inl q
   exact .inr (by omega)
  exact .inr (by omega)
theorem Gh{n:Nat}{k:Nat}{b:Block}{S:Ds}(h:lI n S)(he:∀e∈b.term.to,0<=e.block∧e.block.toNat<n):lI n (rA k S b)∧(rA k S b).weight<=S.weight∧((rA k S b).again=true->S.again=true∨(rA k S b).weight<S.weight):=by
 unfold rA;split
 ·exact⟨h,Nat.le_refl _,fun q=>.inl q⟩
 exact Gj _ h he
theorem rB{n:Nat}:∀(l:List Block) {k:Nat} {S:Ds},lI n S->(∀b∈l,∀e∈b.term.to,0<=e.block∧e.block.toNat<n)->lI n (mc k S l)∧(mc k S l).weight<=S.weight∧((mc k S l).again=true->S.again=true∨(mc k S l).weight<S.weight)
 | [],k,S,h,_=>⟨h,Nat.le_refl _,fun q=>.inl q⟩
 | b::r,k,S,h,he=>by
  obtain⟨a1,a2,a3⟩:=Gh (k:=k) h (he b (by simp));obtain⟨b1,b2,b3⟩:=rB r (k:=k+1) a1 (fun x hx=>he x (by simp[hx]));simp only[mc];refine⟨b1,by omega,fun q=>?_⟩;rcases b3 q with q|q
  ·rcases a3 q with q|q
   ·exact .inl q
   exact .inr (by omega)
  exact .inr (by omega)
instance (n:Int):Decidable (fU n):=by
 unfold fU
 infer_instance
theorem tJ(n:Int):bD Tryz.prog 111 [aI n] (.v (.bool (decide (fU n)))):=by
 have hw:=dU n (-1073741824) 1073741823;refine zf true 0 Tryz.func111 Tryz.ntmps111 ?_;dsimp only[Tmp,TypeId,slotsOf];refine aA (ah ?_);refine aA ?_;refine zi hw ?_;refine ah ?_;refine aq ?_;simp -dsimp only[simprocAttr,↓aa,zp,zr,Tryz.results111];simp only[within,fU];by_cases h1:-1073741824<=n<;>by_cases h2:n<=1073741823<;>simp[h1,h2]
def bq(i:Ins):Int×Bool :=
 if i.op=0 then(0,true)
 else if(1<=i.op∧i.op<=7)∨i.op=16∨i.op=18∨i.op=19∨i.op=21∨i.op=23 then(2,true)
 else if i.op=20 then(3,true)
 else if i.op=10∨i.op=11∨i.op=12∨i.op=15∨i.op=17∨i.op=24 then(1,true)
 else if i.op=8∨i.op=9∨i.op=13∨i.op=14 then(-1,true)
 else if i.op=22 then(i.n,decide (i.n=2∨i.n=4))
 else(0,false)
def cy(i:Ins):Bool :=
 if i.op=0 then decide (fU i.n)
 else if i.op=8 then within i.n 0 255
 else if i.op=11 then within i.n 0 15
 else if i.op=9∨i.op=13 then within i.n 0 255
 else if i.op=23 then decide (i.n=1∨i.n=2∨i.n=3)
 else if i.op=24 then within i.n 0 3
 else if i.op=22 then true
 else decide (i.n=0)
theorem Fl(i:Ins)(kq:i.op=0):bD Tryz.prog 117 [i.enc] (.cD [aI (bq i).1,.v (.bool (bq i).2)]):=by
 have hr:bq i=(0,true):=by
  unfold bq;rw[if_pos (by omega)]
 rw[hr];refine zf true 0 Tryz.func117 Tryz.ntmps117 ?_;dsimp only[Tmp,TypeId,slotsOf];refine aA (ah ?_);refine bX (ah ?_);refine ai ?_;refine aA (ah ?_);apply aP rfl<;>intro h
 ·refine aA (ah ?_);refine aq ?_;simp -dsimp only[simprocAttr,↓aa,zp,zr,Tryz.results117];simp[aw,ae.upto]
 exact af h (by omega)
theorem Fm(i:Ins)(kq:(1<=i.op∧i.op<=7)∨i.op=16∨i.op=18∨i.op=19∨i.op=21∨i.op=23):bD Tryz.prog 117 [i.enc] (.cD [aI (bq i).1,.v (.bool (bq i).2)]):=by
 have hr:bq i=(2,true):=by
  unfold bq;rw[if_neg (by omega),if_pos (by omega)]
 rw[hr];refine zf true 0 Tryz.func117 Tryz.ntmps117 ?_;dsimp only[Tmp,TypeId,slotsOf];refine aA (ah ?_);refine bX (ah ?_);refine ai ?_;refine aA (ah ?_);apply aP rfl<;>intro h
 ·exact ab h (by omega)
 refine bX (ah ?_);refine kg (⟨47,[(1,.mp 0 0),(2,aI 0),(3,.v (.bool false)),(5,aI i.op),(8,.v (.bool true))],[.cells [aI i.to,aI i.op,aI i.n,aK i.args]]⟩) ?_ ?_
 ·apply aP rfl<;>intro h
  ·refine a6 ?_;show bc _ _;refine zq rfl ?_ ?_;simp -dsimp only[simprocAttr,↓aa,zp,zc]
   ·exact Sub.of_eq (by rw[h])
   rfl
  refine aA (ah ?_);apply aP rfl<;>intro h
  ·refine a6 ?_;show bc _ _;refine zq rfl ?_ ?_;simp -dsimp only[simprocAttr,↓aa,zp,zc]
   ·exact Sub.of_eq (by rw[h])
   rfl
  refine aA (ah ?_);apply aP rfl<;>intro h
  ·refine a6 ?_;show bc _ _;refine zq rfl ?_ ?_;simp -dsimp only[simprocAttr,↓aa,zp,zc]
   ·exact Sub.of_eq (by rw[h])
   rfl
  refine aA (ah ?_);apply aP rfl<;>intro h
  ·refine a6 ?_;show bc _ _;refine zq rfl ?_ ?_;simp -dsimp only[simprocAttr,↓aa,zp,zc]
   ·exact Sub.of_eq (by rw[h])
   rfl
  refine aA (ah ?_);apply aP rfl<;>intro h
  ·refine a6 ?_;show bc _ _;refine zq rfl ?_ ?_;simp -dsimp only[simprocAttr,↓aa,zp,zc]
   ·exact Sub.of_eq (by rw[h])
   rfl
  refine aA (ah ?_);apply aP rfl<;>intro h
  ·refine a6 ?_;show bc _ _;refine zq rfl ?_ ?_;simp -dsimp only[simprocAttr,↓aa,zp,zc]
   ·exact Sub.of_eq (by rw[h])
   rfl
  refine aA (ah ?_);apply aP rfl<;>intro h
  ·refine a6 ?_;show bc _ _;refine zq rfl ?_ ?_;simp -dsimp only[simprocAttr,↓aa,zp,zc]
   ·exact Sub.of_eq (by rw[h])
   rfl
  refine aA (ah ?_);apply aP rfl<;>intro h
  ·refine a6 ?_;show bc _ _;refine zq rfl ?_ ?_;simp -dsimp only[simprocAttr,↓aa,zp,zc]
   ·exact Sub.of_eq (by rw[h])
   rfl
  refine aA (ah ?_);apply aP rfl<;>intro h
  ·refine a6 ?_;show bc _ _;refine zq rfl ?_ ?_;simp -dsimp only[simprocAttr,↓aa,zp,zc]
   ·exact Sub.of_eq (by rw[h])
   rfl
  refine aA (ah ?_);apply aP rfl<;>intro h
  ·refine a6 ?_;show bc _ _;refine zq rfl ?_ ?_;simp -dsimp only[simprocAttr,↓aa,zp,zc]
   ·exact Sub.of_eq (by rw[h])
   rfl
  refine aA (ah ?_);apply aP rfl<;>intro h
  ·refine a6 ?_;show bc _ _;refine zq rfl ?_ ?_;simp -dsimp only[simprocAttr,↓aa,zp,zc]
   ·exact Sub.of_eq (by rw[h])
   rfl
  refine cT ?_;refine ba ?_;show bc _ _;refine zq rfl ?_ ?_;simp -dsimp only[simprocAttr,↓aa,zp,zc]
  ·exact Sub.of_eq (by rw[decide_eq_true (show i.op=23 by simp only[decide_eq_false_iff_not]at *;omega)])
  rfl
 refine cH rfl ?_;refine aA (ah ?_);refine aq ?_;simp -dsimp only[simprocAttr,↓aa,zp,zr,Tryz.results117];simp[aw,ae.upto]
theorem Fo(i:Ins)(kq:i.op=20):bD Tryz.prog 117 [i.enc] (.cD [aI (bq i).1,.v (.bool (bq i).2)]):=by
 have hr:bq i=(3,true):=by
  unfold bq;rw[if_neg (by omega),if_neg (by omega),if_pos (by omega)]
 rw[hr];refine zf true 0 Tryz.func117 Tryz.ntmps117 ?_;dsimp only[Tmp,TypeId,slotsOf];refine aA (ah ?_);refine bX (ah ?_);refine ai ?_;refine aA (ah ?_);apply aP rfl<;>intro h
 ·exact ab h (by omega)
 refine bX (ah ?_);apply aP rfl<;>intro h
 ·exact ab h (by omega)
 refine aA (ah ?_);apply aP rfl<;>intro h
 ·exact ab h (by omega)
 refine aA (ah ?_);apply aP rfl<;>intro h
 ·exact ab h (by omega)
 refine aA (ah ?_);apply aP rfl<;>intro h
 ·exact ab h (by omega)
 refine aA (ah ?_);apply aP rfl<;>intro h
 ·exact ab h (by omega)
 refine aA (ah ?_);apply aP rfl<;>intro h
 ·exact ab h (by omega)
 refine aA (ah ?_);apply aP rfl<;>intro h
 ·exact ab h (by omega)
 refine aA (ah ?_);apply aP rfl<;>intro h
 ·exact ab h (by omega)
 refine aA (ah ?_);apply aP rfl<;>intro h
 ·exact ab h (by omega)
 refine aA (ah ?_);apply aP rfl<;>intro h
 ·exact ab h (by omega)
 refine aA (ah ?_);apply aP rfl<;>intro h
 ·exact ab h (by omega)
 refine cT (ah ?_);apply aP rfl<;>intro h
 ·exact ab h (by omega)
 refine aA (ah ?_);apply aP rfl<;>intro h
 ·refine aA (ah ?_);refine aq ?_;simp -dsimp only[simprocAttr,↓aa,zp,zr,Tryz.results117];simp[aw,ae.upto]
 exact af h (by omega)
theorem Fp(i:Ins)(kq:i.op=10∨i.op=11∨i.op=12∨i.op=15∨i.op=17∨i.op=24):bD Tryz.prog 117 [i.enc] (.cD [aI (bq i).1,.v (.bool (bq i).2)]):=by
 have hr:bq i=(1,true):=by
  unfold bq;rw[if_neg (by omega),if_neg (by omega),if_neg (by omega),if_pos (by omega)]
 rw[hr];refine zf true 0 Tryz.func117 Tryz.ntmps117 ?_;dsimp only[Tmp,TypeId,slotsOf];refine aA (ah ?_);refine bX (ah ?_);refine ai ?_;refine aA (ah ?_);apply aP rfl<;>intro h
 ·exact ab h (by omega)
 refine bX (ah ?_);apply aP rfl<;>intro h
 ·exact ab h (by omega)
 refine aA (ah ?_);apply aP rfl<;>intro h
 ·exact ab h (by omega)
 refine aA (ah ?_);apply aP rfl<;>intro h
 ·exact ab h (by omega)
 refine aA (ah ?_);apply aP rfl<;>intro h
 ·exact ab h (by omega)
 refine aA (ah ?_);apply aP rfl<;>intro h
 ·exact ab h (by omega)
 refine aA (ah ?_);apply aP rfl<;>intro h
 ·exact ab h (by omega)
 refine aA (ah ?_);apply aP rfl<;>intro h
 ·exact ab h (by omega)
 refine aA (ah ?_);apply aP rfl<;>intro h
 ·exact ab h (by omega)
 refine aA (ah ?_);apply aP rfl<;>intro h
 ·exact ab h (by omega)
 refine aA (ah ?_);apply aP rfl<;>intro h
 ·exact ab h (by omega)
 refine aA (ah ?_);apply aP rfl<;>intro h
 ·exact ab h (by omega)
 refine cT (ah ?_);apply aP rfl<;>intro h
 ·exact ab h (by omega)
 refine aA (ah ?_);apply aP rfl<;>intro h
 ·exact ab h (by omega)
 refine bX (ah ?_);refine kg (⟨47,[(1,.mp 0 0),(2,aI 0),(3,.v (.bool false)),(5,aI i.op),(23,.v (.bool true))],[.cells [aI i.to,aI i.op,aI i.n,aK i.args]]⟩) ?_ ?_
 ·apply aP rfl<;>intro h
  ·refine a6 ?_;show bc _ _;refine zq rfl ?_ ?_;simp -dsimp only[simprocAttr,↓aa,zp,zc]
   ·exact Sub.of_eq (by rw[h])
   rfl
  refine aA (ah ?_);apply aP rfl<;>intro h
  ·refine a6 ?_;show bc _ _;refine zq rfl ?_ ?_;simp -dsimp only[simprocAttr,↓aa,zp,zc]
   ·exact Sub.of_eq (by rw[h])
   rfl
  refine aA (ah ?_);apply aP rfl<;>intro h
  ·refine a6 ?_;show bc _ _;refine zq rfl ?_ ?_;simp -dsimp only[simprocAttr,↓aa,zp,zc]
   ·exact Sub.of_eq (by rw[h])
   rfl
  refine aA (ah ?_);apply aP rfl<;>intro h
  ·refine a6 ?_;show bc _ _;refine zq rfl ?_ ?_;simp -dsimp only[simprocAttr,↓aa,zp,zc]
   ·exact Sub.of_eq (by rw[h])
   rfl
  refine aA (ah ?_);apply aP rfl<;>intro h
  ·refine a6 ?_;show bc _ _;refine zq rfl ?_ ?_;simp -dsimp only[simprocAttr,↓aa,zp,zc]
   ·exact Sub.of_eq (by rw[h])
   rfl
  refine cT ?_;refine ba ?_;show bc _ _;refine zq rfl ?_ ?_;simp -dsimp only[simprocAttr,↓aa,zp,zc]
  ·exact Sub.of_eq (by rw[decide_eq_true (show i.op=24 by simp only[decide_eq_false_iff_not]at *;omega)])
  rfl
 refine cH rfl ?_;refine aA (ah ?_);refine aq ?_;simp -dsimp only[simprocAttr,↓aa,zp,zr,Tryz.results117];simp[aw,ae.upto]
theorem Fq(i:Ins)(kq:i.op=8∨i.op=9∨i.op=13∨i.op=14):bD Tryz.prog 117 [i.enc] (.cD [aI (bq i).1,.v (.bool (bq i).2)]):=by
 have hr:bq i=(-1,true):=by
  unfold bq;rw[if_neg (by omega),if_neg (by omega),if_neg (by omega),if_neg (by omega),if_pos (by omega)]
 rw[hr];refine zf true 0 Tryz.func117 Tryz.ntmps117 ?_;dsimp only[Tmp,TypeId,slotsOf];refine aA (ah ?_);refine bX (ah ?_);refine ai ?_;refine aA (ah ?_);apply aP rfl<;>intro h
 ·exact ab h (by omega)
 refine bX (ah ?_);apply aP rfl<;>intro h
 ·exact ab h (by omega)
 refine aA (ah ?_);apply aP rfl<;>intro h
 ·exact ab h (by omega)
 refine aA (ah ?_);apply aP rfl<;>intro h
 ·exact ab h (by omega)
 refine aA (ah ?_);apply aP rfl<;>intro h
 ·exact ab h (by omega)
 refine aA (ah ?_);apply aP rfl<;>intro h
 ·exact ab h (by omega)
 refine aA (ah ?_);apply aP rfl<;>intro h
 ·exact ab h (by omega)
 refine aA (ah ?_);apply aP rfl<;>intro h
 ·exact ab h (by omega)
 refine aA (ah ?_);apply aP rfl<;>intro h
 ·exact ab h (by omega)
 refine aA (ah ?_);apply aP rfl<;>intro h
 ·exact ab h (by omega)
 refine aA (ah ?_);apply aP rfl<;>intro h
 ·exact ab h (by omega)
 refine aA (ah ?_);apply aP rfl<;>intro h
 ·exact ab h (by omega)
 refine cT (ah ?_);apply aP rfl<;>intro h
 ·exact ab h (by omega)
 refine aA (ah ?_);apply aP rfl<;>intro h
 ·exact ab h (by omega)
 refine bX (ah ?_);apply aP rfl<;>intro h
 ·exact ab h (by omega)
 refine aA (ah ?_);apply aP rfl<;>intro h
 ·exact ab h (by omega)
 refine aA (ah ?_);apply aP rfl<;>intro h
 ·exact ab h (by omega)
 refine aA (ah ?_);apply aP rfl<;>intro h
 ·exact ab h (by omega)
 refine aA (ah ?_);apply aP rfl<;>intro h
 ·exact ab h (by omega)
 refine cT (ah ?_);apply aP rfl<;>intro h
 ·exact ab h (by omega)
 refine bX (ah ?_);refine kg (⟨47,[(1,.mp 0 0),(2,aI 0),(3,.v (.bool false)),(5,aI i.op),(30,.v (.bool true))],[.cells [aI i.to,aI i.op,aI i.n,aK i.args]]⟩) ?_ ?_
 ·apply aP rfl<;>intro h
  ·refine a6 ?_;show bc _ _;refine zq rfl ?_ ?_;simp -dsimp only[simprocAttr,↓aa,zp,zc]
   ·exact Sub.of_eq (by rw[h])
   rfl
  refine aA (ah ?_);apply aP rfl<;>intro h
  ·refine a6 ?_;show bc _ _;refine zq rfl ?_ ?_;simp -dsimp only[simprocAttr,↓aa,zp,zc]
   ·exact Sub.of_eq (by rw[h])
   rfl
  refine aA (ah ?_);apply aP rfl<;>intro h
  ·refine a6 ?_;show bc _ _;refine zq rfl ?_ ?_;simp -dsimp only[simprocAttr,↓aa,zp,zc]
   ·exact Sub.of_eq (by rw[h])
   rfl
  refine cT ?_;refine ba ?_;show bc _ _;refine zq rfl ?_ ?_;simp -dsimp only[simprocAttr,↓aa,zp,zc]
  ·exact Sub.of_eq (by rw[decide_eq_true (show i.op=14 by simp only[decide_eq_false_iff_not]at *;omega)])
  rfl
 refine cH rfl ?_;refine aA (ah ?_);refine aq ?_;simp -dsimp only[simprocAttr,↓aa,zp,zr,Tryz.results117];simp[aw,ae.upto]
theorem Fs(i:Ins)(kq:i.op=22):bD Tryz.prog 117 [i.enc] (.cD [aI (bq i).1,.v (.bool (bq i).2)]):=by
 have hr:bq i=(i.n,decide (i.n=2∨i.n=4)):=by
  unfold bq;rw[if_neg (by omega),if_neg (by omega),if_neg (by omega),if_neg (by omega),if_neg (by omega),if_pos (by omega)]
 rw[hr];by_cases h2:i.n=2
 ·have pE:decide (i.n=2)=true:=decide_eq_true h2;refine zf true 0 Tryz.func117 Tryz.ntmps117 ?_;dsimp only[Tmp,TypeId,slotsOf];refine aA (ah ?_);refine bX (ah ?_);refine ai ?_;refine aA (ah ?_);apply aP rfl<;>intro h
  ·exact ab h (by omega)
  refine bX (ah ?_);apply aP rfl<;>intro h
  ·exact ab h (by omega)
  refine aA (ah ?_);apply aP rfl<;>intro h
  ·exact ab h (by omega)
  refine aA (ah ?_);apply aP rfl<;>intro h
  ·exact ab h (by omega)
  refine aA (ah ?_);apply aP rfl<;>intro h
  ·exact ab h (by omega)
  refine aA (ah ?_);apply aP rfl<;>intro h
  ·exact ab h (by omega)
  refine aA (ah ?_);apply aP rfl<;>intro h
  ·exact ab h (by omega)
  refine aA (ah ?_);apply aP rfl<;>intro h
  ·exact ab h (by omega)
  refine aA (ah ?_);apply aP rfl<;>intro h
  ·exact ab h (by omega)
  refine aA (ah ?_);apply aP rfl<;>intro h
  ·exact ab h (by omega)
  refine aA (ah ?_);apply aP rfl<;>intro h
  ·exact ab h (by omega)
  refine aA (ah ?_);apply aP rfl<;>intro h
  ·exact ab h (by omega)
  refine cT (ah ?_);apply aP rfl<;>intro h
  ·exact ab h (by omega)
  refine aA (ah ?_);apply aP rfl<;>intro h
  ·exact ab h (by omega)
  refine bX (ah ?_);apply aP rfl<;>intro h
  ·exact ab h (by omega)
  refine aA (ah ?_);apply aP rfl<;>intro h
  ·exact ab h (by omega)
  refine aA (ah ?_);apply aP rfl<;>intro h
  ·exact ab h (by omega)
  refine aA (ah ?_);apply aP rfl<;>intro h
  ·exact ab h (by omega)
  refine aA (ah ?_);apply aP rfl<;>intro h
  ·exact ab h (by omega)
  refine cT (ah ?_);apply aP rfl<;>intro h
  ·exact ab h (by omega)
  refine bX (ah ?_);apply aP rfl<;>intro h
  ·exact ab h (by omega)
  refine aA (ah ?_);apply aP rfl<;>intro h
  ·exact ab h (by omega)
  refine aA (ah ?_);apply aP rfl<;>intro h
  ·exact ab h (by omega)
  refine cT (ah ?_);apply aP rfl<;>intro h
  ·exact ab h (by omega)
  refine aA (ah ?_);apply aP rfl<;>intro h
  ·refine aS ?_;simp -dsimp only[simprocAttr,↓aa,zp,pE];refine⟨ob (by kernel_rfl),?_⟩;refine ah ?_;refine aq ?_;simp -dsimp only[simprocAttr,↓aa,zp,zr,Tryz.results117];simp[aw,ae.upto,h2]
  exact af h (by omega)
 have pE:decide (i.n=2)=false:=decide_eq_false h2;by_cases h4:i.n=4
 ·have Ou:decide (i.n=4)=true:=decide_eq_true h4;refine zf true 0 Tryz.func117 Tryz.ntmps117 ?_;dsimp only[Tmp,TypeId,slotsOf];refine aA (ah ?_);refine bX (ah ?_);refine ai ?_;refine aA (ah ?_);apply aP rfl<;>intro h
  ·exact ab h (by omega)
  refine bX (ah ?_);apply aP rfl<;>intro h
  ·exact ab h (by omega)
  refine aA (ah ?_);apply aP rfl<;>intro h
  ·exact ab h (by omega)
  refine aA (ah ?_);apply aP rfl<;>intro h
  ·exact ab h (by omega)
  refine aA (ah ?_);apply aP rfl<;>intro h
  ·exact ab h (by omega)
  refine aA (ah ?_);apply aP rfl<;>intro h
  ·exact ab h (by omega)
  refine aA (ah ?_);apply aP rfl<;>intro h
  ·exact ab h (by omega)
  refine aA (ah ?_);apply aP rfl<;>intro h
  ·exact ab h (by omega)
  refine aA (ah ?_);apply aP rfl<;>intro h
  ·exact ab h (by omega)
  refine aA (ah ?_);apply aP rfl<;>intro h
  ·exact ab h (by omega)
  refine aA (ah ?_);apply aP rfl<;>intro h
  ·exact ab h (by omega)
  refine aA (ah ?_);apply aP rfl<;>intro h
  ·exact ab h (by omega)
  refine cT (ah ?_);apply aP rfl<;>intro h
  ·exact ab h (by omega)
  refine aA (ah ?_);apply aP rfl<;>intro h
  ·exact ab h (by omega)
  refine bX (ah ?_);apply aP rfl<;>intro h
  ·exact ab h (by omega)
  refine aA (ah ?_);apply aP rfl<;>intro h
  ·exact ab h (by omega)
  refine aA (ah ?_);apply aP rfl<;>intro h
  ·exact ab h (by omega)
  refine aA (ah ?_);apply aP rfl<;>intro h
  ·exact ab h (by omega)
  refine aA (ah ?_);apply aP rfl<;>intro h
  ·exact ab h (by omega)
  refine cT (ah ?_);apply aP rfl<;>intro h
  ·exact ab h (by omega)
  refine bX (ah ?_);apply aP rfl<;>intro h
  ·exact ab h (by omega)
  refine aA (ah ?_);apply aP rfl<;>intro h
  ·exact ab h (by omega)
  refine aA (ah ?_);apply aP rfl<;>intro h
  ·exact ab h (by omega)
  refine cT (ah ?_);apply aP rfl<;>intro h
  ·exact ab h (by omega)
  refine aA (ah ?_);apply aP rfl<;>intro h
  ·refine aS ?_;simp -dsimp only[simprocAttr,↓aa,zp,pE,Ou];refine⟨ob (by kernel_rfl),?_⟩;refine ah ?_;refine aq ?_;simp -dsimp only[simprocAttr,↓aa,zp,zr,Tryz.results117];simp[aw,ae.upto,h4]
  exact af h (by omega)
 have Ou:decide (i.n=4)=false:=decide_eq_false h4;refine zf true 0 Tryz.func117 Tryz.ntmps117 ?_;dsimp only[Tmp,TypeId,slotsOf];refine aA (ah ?_);refine bX (ah ?_);refine ai ?_;refine aA (ah ?_);apply aP rfl<;>intro h
 ·exact ab h (by omega)
 refine bX (ah ?_);apply aP rfl<;>intro h
 ·exact ab h (by omega)
 refine aA (ah ?_);apply aP rfl<;>intro h
 ·exact ab h (by omega)
 refine aA (ah ?_);apply aP rfl<;>intro h
 ·exact ab h (by omega)
 refine aA (ah ?_);apply aP rfl<;>intro h
 ·exact ab h (by omega)
 refine aA (ah ?_);apply aP rfl<;>intro h
 ·exact ab h (by omega)
 refine aA (ah ?_);apply aP rfl<;>intro h
 ·exact ab h (by omega)
 refine aA (ah ?_);apply aP rfl<;>intro h
 ·exact ab h (by omega)
 refine aA (ah ?_);apply aP rfl<;>intro h
 ·exact ab h (by omega)
 refine aA (ah ?_);apply aP rfl<;>intro h
 ·exact ab h (by omega)
 refine aA (ah ?_);apply aP rfl<;>intro h
 ·exact ab h (by omega)
 refine aA (ah ?_);apply aP rfl<;>intro h
 ·exact ab h (by omega)
 refine cT (ah ?_);apply aP rfl<;>intro h
 ·exact ab h (by omega)
 refine aA (ah ?_);apply aP rfl<;>intro h
 ·exact ab h (by omega)
 refine bX (ah ?_);apply aP rfl<;>intro h
 ·exact ab h (by omega)
 refine aA (ah ?_);apply aP rfl<;>intro h
 ·exact ab h (by omega)
 refine aA (ah ?_);apply aP rfl<;>intro h
 ·exact ab h (by omega)
 refine aA (ah ?_);apply aP rfl<;>intro h
 ·exact ab h (by omega)
 refine aA (ah ?_);apply aP rfl<;>intro h
 ·exact ab h (by omega)
 refine cT (ah ?_);apply aP rfl<;>intro h
 ·exact ab h (by omega)
 refine bX (ah ?_);apply aP rfl<;>intro h
 ·exact ab h (by omega)
 refine aA (ah ?_);apply aP rfl<;>intro h
 ·exact ab h (by omega)
 refine aA (ah ?_);apply aP rfl<;>intro h
 ·exact ab h (by omega)
 refine cT (ah ?_);apply aP rfl<;>intro h
 ·exact ab h (by omega)
 refine aA (ah ?_);apply aP rfl<;>intro h
 ·refine aS ?_;simp -dsimp only[simprocAttr,↓aa,zp,pE,Ou];refine⟨ob (by kernel_rfl),?_⟩;refine ah ?_;refine aq ?_;simp -dsimp only[simprocAttr,↓aa,zp,zr,Tryz.results117];simp[aw,ae.upto,h2,h4]
 exact af h (by omega)
theorem xW(i:Ins):bD Tryz.prog 117 [i.enc] (.cD [aI (bq i).1,.v (.bool (bq i).2)]):=by
 by_cases h0:i.op=0
 ·exact Fl i h0
 by_cases h1:(1<=i.op∧i.op<=7)∨i.op=16∨i.op=18∨i.op=19∨i.op=21∨i.op=23
 ·exact Fm i h1
 by_cases h2:i.op=20
 ·exact Fo i h2
 by_cases h3:i.op=10∨i.op=11∨i.op=12∨i.op=15∨i.op=17∨i.op=24
 ·exact Fp i h3
 by_cases h4:i.op=8∨i.op=9∨i.op=13∨i.op=14
 ·exact Fq i h4
 by_cases h5:i.op=22
 ·exact Fs i h5
 have hr:bq i=(0,false):=by
  unfold bq;rw[if_neg (by omega),if_neg (by omega),if_neg (by omega),if_neg (by omega),if_neg (by omega),if_neg (by omega)]
 rw[hr];refine zf true 0 Tryz.func117 Tryz.ntmps117 ?_;dsimp only[Tmp,TypeId,slotsOf];refine aA (ah ?_);refine bX (ah ?_);refine ai ?_;refine aA (ah ?_);apply aP rfl<;>intro h
 ·exact ab h (by omega)
 refine bX (ah ?_);apply aP rfl<;>intro h
 ·exact ab h (by omega)
 refine aA (ah ?_);apply aP rfl<;>intro h
 ·exact ab h (by omega)
 refine aA (ah ?_);apply aP rfl<;>intro h
 ·exact ab h (by omega)
 refine aA (ah ?_);apply aP rfl<;>intro h
 ·exact ab h (by omega)
 refine aA (ah ?_);apply aP rfl<;>intro h
 ·exact ab h (by omega)
 refine aA (ah ?_);apply aP rfl<;>intro h
 ·exact ab h (by omega)
 refine aA (ah ?_);apply aP rfl<;>intro h
 ·exact ab h (by omega)
 refine aA (ah ?_);apply aP rfl<;>intro h
 ·exact ab h (by omega)
 refine aA (ah ?_);apply aP rfl<;>intro h
 ·exact ab h (by omega)
 refine aA (ah ?_);apply aP rfl<;>intro h
 ·exact ab h (by omega)
 refine aA (ah ?_);apply aP rfl<;>intro h
 ·exact ab h (by omega)
 refine cT (ah ?_);apply aP rfl<;>intro h
 ·exact ab h (by omega)
 refine aA (ah ?_);apply aP rfl<;>intro h
 ·exact ab h (by omega)
 refine bX (ah ?_);apply aP rfl<;>intro h
 ·exact ab h (by omega)
 refine aA (ah ?_);apply aP rfl<;>intro h
 ·exact ab h (by omega)
 refine aA (ah ?_);apply aP rfl<;>intro h
 ·exact ab h (by omega)
 refine aA (ah ?_);apply aP rfl<;>intro h
 ·exact ab h (by omega)
 refine aA (ah ?_);apply aP rfl<;>intro h
 ·exact ab h (by omega)
 refine cT (ah ?_);apply aP rfl<;>intro h
 ·exact ab h (by omega)
 refine bX (ah ?_);apply aP rfl<;>intro h
 ·exact ab h (by omega)
 refine aA (ah ?_);apply aP rfl<;>intro h
 ·exact ab h (by omega)
 refine aA (ah ?_);apply aP rfl<;>intro h
 ·exact ab h (by omega)
 refine cT (ah ?_);apply aP rfl<;>intro h
 ·exact ab h (by omega)
 refine aA (ah ?_);apply aP rfl<;>intro h
 ·exact ab h (by omega)
 refine la ?_;refine aA (ah ?_);refine aq ?_;simp -dsimp only[simprocAttr,↓aa,zp,zr,Tryz.results117];simp[aw,ae.upto]
theorem Lq(i:Ins)(kq:i.op=0):bD Tryz.prog 118 [i.enc] (.v (.bool (cy i))):=by
 have hr:cy i=decide (fU i.n):=by
  unfold cy;rw[if_pos (by omega)]
 rw[hr];refine zf true 0 Tryz.func118 Tryz.ntmps118 ?_;dsimp only[Tmp,TypeId,slotsOf];refine aA (ah ?_);refine bX (ah ?_);refine ai ?_;refine aA (ah ?_);apply aP rfl<;>intro h
 ·refine aA ?_;refine zi (tJ i.n) ?_;refine ah ?_;refine aq ?_;simp -dsimp only[simprocAttr,↓aa,zp,zr,Tryz.results118]
 exact af h (by omega)
theorem Lr(i:Ins)(kq:i.op=8):bD Tryz.prog 118 [i.enc] (.v (.bool (cy i))):=by
 have hr:cy i=within i.n 0 255:=by
  unfold cy;rw[if_neg (by omega),if_pos (by omega)]
 rw[hr];refine zf true 0 Tryz.func118 Tryz.ntmps118 ?_;dsimp only[Tmp,TypeId,slotsOf];refine aA (ah ?_);refine bX (ah ?_);refine ai ?_;refine aA (ah ?_);apply aP rfl<;>intro h
 ·exact ab h (by omega)
 refine aA (ah ?_);apply aP rfl<;>intro h
 ·refine aA ?_;refine zi (dU i.n 0 255) ?_;refine ah ?_;refine aq ?_;simp -dsimp only[simprocAttr,↓aa,zp,zr,Tryz.results118]
 exact af h (by omega)
theorem Ls(i:Ins)(kq:i.op=11):bD Tryz.prog 118 [i.enc] (.v (.bool (cy i))):=by
 have hr:cy i=within i.n 0 15:=by
  unfold cy;rw[if_neg (by omega),if_neg (by omega),if_pos (by omega)]
 rw[hr];refine zf true 0 Tryz.func118 Tryz.ntmps118 ?_;dsimp only[Tmp,TypeId,slotsOf];refine aA (ah ?_);refine bX (ah ?_);refine ai ?_;refine aA (ah ?_);apply aP rfl<;>intro h
 ·exact ab h (by omega)
 refine aA (ah ?_);apply aP rfl<;>intro h
 ·exact ab h (by omega)
 refine aA (ah ?_);apply aP rfl<;>intro h
 ·refine aA ?_;refine zi (dU i.n 0 15) ?_;refine ah ?_;refine aq ?_;simp -dsimp only[simprocAttr,↓aa,zp,zr,Tryz.results118]
 exact af h (by omega)
theorem Lt(i:Ins)(kq:i.op=9∨i.op=13):bD Tryz.prog 118 [i.enc] (.v (.bool (cy i))):=by
 have hr:cy i=within i.n 0 255:=by
  unfold cy;rw[if_neg (by omega),if_neg (by omega),if_neg (by omega),if_pos (by omega)]
 rw[hr];refine zf true 0 Tryz.func118 Tryz.ntmps118 ?_;dsimp only[Tmp,TypeId,slotsOf];refine aA (ah ?_);refine bX (ah ?_);refine ai ?_;refine aA (ah ?_);apply aP rfl<;>intro h
 ·exact ab h (by omega)
 refine aA (ah ?_);apply aP rfl<;>intro h
 ·exact ab h (by omega)
 refine aA (ah ?_);apply aP rfl<;>intro h
 ·exact ab h (by omega)
 refine bX (ah ?_);refine kg (⟨51,[(1,.mp 0 0),(2,.v (.bool false)),(4,aI i.op),(20,.v (.bool true))],[.cells [aI i.to,aI i.op,aI i.n,aK i.args]]⟩) ?_ ?_
 ·apply aP rfl<;>intro h
  ·refine a6 ?_;show bc _ _;refine zq rfl ?_ ?_;simp -dsimp only[simprocAttr,↓aa,zp,zc]
   ·exact Sub.of_eq (by rw[h])
   rfl
  refine cT ?_;refine ba ?_;show bc _ _;refine zq rfl ?_ ?_;simp -dsimp only[simprocAttr,↓aa,zp,zc]
  ·exact Sub.of_eq (by rw[decide_eq_true (show i.op=13 by simp only[decide_eq_false_iff_not]at *;omega)])
  rfl
 refine cH rfl ?_;refine aA ?_;refine zi (dU i.n 0 255) ?_;refine ah ?_;refine aq ?_;simp -dsimp only[simprocAttr,↓aa,zp,zr,Tryz.results118]
theorem Lu(i:Ins)(kq:i.op=23):bD Tryz.prog 118 [i.enc] (.v (.bool (cy i))):=by
 have hr:cy i=decide (i.n=1∨i.n=2∨i.n=3):=by
  unfold cy;rw[if_neg (by omega),if_neg (by omega),if_neg (by omega),if_neg (by omega),if_pos (by omega)]
 rw[hr];by_cases h1:i.n=1
 ·have sQ:decide (i.n=1)=true:=decide_eq_true h1;refine zf true 0 Tryz.func118 Tryz.ntmps118 ?_;dsimp only[Tmp,TypeId,slotsOf];refine aA (ah ?_);refine bX (ah ?_);refine ai ?_;refine aA (ah ?_);apply aP rfl<;>intro h
  ·exact ab h (by omega)
  refine aA (ah ?_);apply aP rfl<;>intro h
  ·exact ab h (by omega)
  refine aA (ah ?_);apply aP rfl<;>intro h
  ·exact ab h (by omega)
  refine bX (ah ?_);apply aP rfl<;>intro h
  ·exact ab h (by omega)
  refine cT (ah ?_);apply aP rfl<;>intro h
  ·exact ab h (by omega)
  refine aA (ah ?_);apply aP rfl<;>intro h
  ·refine aS ?_;simp -dsimp only[simprocAttr,↓aa,zp,sQ];refine ah ?_;refine aq ?_;simp -dsimp only[simprocAttr,↓aa,zp,zr,Tryz.results118];simp[h1]
  exact af h (by omega)
 have sQ:decide (i.n=1)=false:=decide_eq_false h1;by_cases h2:i.n=2
 ·have pE:decide (i.n=2)=true:=decide_eq_true h2;refine zf true 0 Tryz.func118 Tryz.ntmps118 ?_;dsimp only[Tmp,TypeId,slotsOf];refine aA (ah ?_);refine bX (ah ?_);refine ai ?_;refine aA (ah ?_);apply aP rfl<;>intro h
  ·exact ab h (by omega)
  refine aA (ah ?_);apply aP rfl<;>intro h
  ·exact ab h (by omega)
  refine aA (ah ?_);apply aP rfl<;>intro h
  ·exact ab h (by omega)
  refine bX (ah ?_);apply aP rfl<;>intro h
  ·exact ab h (by omega)
  refine cT (ah ?_);apply aP rfl<;>intro h
  ·exact ab h (by omega)
  refine aA (ah ?_);apply aP rfl<;>intro h
  ·refine aS ?_;simp -dsimp only[simprocAttr,↓aa,zp,sQ,pE];refine ah ?_;refine aq ?_;simp -dsimp only[simprocAttr,↓aa,zp,zr,Tryz.results118];simp[h2]
  exact af h (by omega)
 have pE:decide (i.n=2)=false:=decide_eq_false h2;refine zf true 0 Tryz.func118 Tryz.ntmps118 ?_;dsimp only[Tmp,TypeId,slotsOf];refine aA (ah ?_);refine bX (ah ?_);refine ai ?_;refine aA (ah ?_);apply aP rfl<;>intro h
 ·exact ab h (by omega)
 refine aA (ah ?_);apply aP rfl<;>intro h
 ·exact ab h (by omega)
 refine aA (ah ?_);apply aP rfl<;>intro h
 ·exact ab h (by omega)
 refine bX (ah ?_);apply aP rfl<;>intro h
 ·exact ab h (by omega)
 refine cT (ah ?_);apply aP rfl<;>intro h
 ·exact ab h (by omega)
 refine aA (ah ?_);apply aP rfl<;>intro h
 ·refine aS ?_;simp -dsimp only[simprocAttr,↓aa,zp,sQ,pE];refine ah ?_;refine aq ?_;simp -dsimp only[simprocAttr,↓aa,zp,zr,Tryz.results118];simp[h1,h2]
 exact af h (by omega)
theorem Lv(i:Ins)(kq:i.op=24):bD Tryz.prog 118 [i.enc] (.v (.bool (cy i))):=by
 have hr:cy i=within i.n 0 3:=by
  unfold cy;rw[if_neg (by omega),if_neg (by omega),if_neg (by omega),if_neg (by omega),if_neg (by omega),if_pos (by omega)]
 rw[hr];refine zf true 0 Tryz.func118 Tryz.ntmps118 ?_;dsimp only[Tmp,TypeId,slotsOf];refine aA (ah ?_);refine bX (ah ?_);refine ai ?_;refine aA (ah ?_);apply aP rfl<;>intro h
 ·exact ab h (by omega)
 refine aA (ah ?_);apply aP rfl<;>intro h
 ·exact ab h (by omega)
 refine aA (ah ?_);apply aP rfl<;>intro h
 ·exact ab h (by omega)
 refine bX (ah ?_);apply aP rfl<;>intro h
 ·exact ab h (by omega)
 refine cT (ah ?_);apply aP rfl<;>intro h
 ·exact ab h (by omega)
 refine aA (ah ?_);apply aP rfl<;>intro h
 ·exact ab h (by omega)
 refine aA (ah ?_);apply aP rfl<;>intro h
 ·refine aA ?_;refine zi (dU i.n 0 3) ?_;refine ah ?_;refine aq ?_;simp -dsimp only[simprocAttr,↓aa,zp,zr,Tryz.results118]
 exact af h (by omega)
theorem Lw(i:Ins)(kq:i.op=22):bD Tryz.prog 118 [i.enc] (.v (.bool (cy i))):=by
 have hr:cy i=true:=by
  unfold cy;rw[if_neg (by omega),if_neg (by omega),if_neg (by omega),if_neg (by omega),if_neg (by omega),if_neg (by omega),if_pos (by omega)]
 rw[hr];refine zf true 0 Tryz.func118 Tryz.ntmps118 ?_;dsimp only[Tmp,TypeId,slotsOf];refine aA (ah ?_);refine bX (ah ?_);refine ai ?_;refine aA (ah ?_);apply aP rfl<;>intro h
 ·exact ab h (by omega)
 refine aA (ah ?_);apply aP rfl<;>intro h
 ·exact ab h (by omega)
 refine aA (ah ?_);apply aP rfl<;>intro h
 ·exact ab h (by omega)
 refine bX (ah ?_);apply aP rfl<;>intro h
 ·exact ab h (by omega)
 refine cT (ah ?_);apply aP rfl<;>intro h
 ·exact ab h (by omega)
 refine aA (ah ?_);apply aP rfl<;>intro h
 ·exact ab h (by omega)
 refine aA (ah ?_);apply aP rfl<;>intro h
 ·exact ab h (by omega)
 refine aA (ah ?_);apply aP rfl<;>intro h
 ·refine aA (ah ?_);refine aq ?_;simp -dsimp only[simprocAttr,↓aa,zp,zr,Tryz.results118]
 exact af h (by omega)
theorem CN(i:Ins):bD Tryz.prog 118 [i.enc] (.v (.bool (cy i))):=by
 by_cases h0:i.op=0
 ·exact Lq i h0
 by_cases h1:i.op=8
 ·exact Lr i h1
 by_cases h2:i.op=11
 ·exact Ls i h2
 by_cases h3:i.op=9∨i.op=13
 ·exact Lt i h3
 by_cases h4:i.op=23
 ·exact Lu i h4
 by_cases h5:i.op=24
 ·exact Lv i h5
 by_cases h6:i.op=22
 ·exact Lw i h6
 have hr:cy i=decide (i.n=0):=by
  unfold cy;rw[if_neg (by omega),if_neg (by omega),if_neg (by omega),if_neg (by omega),if_neg (by omega),if_neg (by omega),if_neg (by omega)]
 rw[hr];refine zf true 0 Tryz.func118 Tryz.ntmps118 ?_;dsimp only[Tmp,TypeId,slotsOf];refine aA (ah ?_);refine bX (ah ?_);refine ai ?_;refine aA (ah ?_);apply aP rfl<;>intro h
 ·exact ab h (by omega)
 refine aA (ah ?_);apply aP rfl<;>intro h
 ·exact ab h (by omega)
 refine aA (ah ?_);apply aP rfl<;>intro h
 ·exact ab h (by omega)
 refine bX (ah ?_);apply aP rfl<;>intro h
 ·exact ab h (by omega)
 refine cT (ah ?_);apply aP rfl<;>intro h
 ·exact ab h (by omega)
 refine aA (ah ?_);apply aP rfl<;>intro h
 ·exact ab h (by omega)
 refine aA (ah ?_);apply aP rfl<;>intro h
 ·exact ab h (by omega)
 refine aA (ah ?_);apply aP rfl<;>intro h
 ·exact ab h (by omega)
 refine la ?_;refine aA (ah ?_);refine aq ?_;simp -dsimp only[simprocAttr,↓aa,zp,zr,Tryz.results118]
end Go.Proofs.YtjdnhamngpafmaaGreat
