/-
  Texts bound together by a program of mine: YtjdnhamngpafmaaGreatT107, YtjdnhamngpafmaaGreatT55, YtakdmelemfnmdaaAvv, YtjdnhamngpafmaaGreatT56, YtjdnhamngpafmaaGreatT123, YtjdnhamngpafmaaGreatT129, YtjdnhamngpafmaaGreatT189, YtjdnhamngpafmaaGreatPzzb, YtjdnhamngpafmaaGreatT132, YtjdnhamngpafmaaGreatT190, YtjdnhamngpafmaaGreatT191.
-/
import Derived.Test.YtjdnhamngpafmaaGreatE5
set_option linter.all false
set_option maxRecDepth 100000
set_option maxHeartbeats 4000000

namespace Go.Proofs.YtjdnhamngpafmaaGreat
open Go.Av
theorem Gv(f:Func)(bo:f.fit)(hc:aZ f=0):∃(O:List ak) (oid:Nat),O[oid]?=some (.cells ((bO f).map aI))∧(∀o∈O,o.upto O.length) ∧
  bd Tryz.prog 52 [] [f.enc] (fun r O'=>r=.cw [.os oid (bO f).length 1,aI 0]∧O'=O):=by
 have rn:=iJ f bo;rw[hc]at rn;have hg:=(cS bo hc).gr;have xw:=sK f hg;obtain⟨f1,f2,_⟩:=ln hg;have R1:(kU f 100000 (ib f)).S=gI f 100000 (cL f):=zb f 100000 (ib f);have hX:=vD (f:=f) 100000 _ (mX f);obtain⟨X,U3⟩:∃X,X=kU f 100000 (ib f):=⟨_,rfl⟩
 rw[<-U3]at xw hX R1;have ik:X.S.out=gE f:=by rw[R1];rfl
 unfold bO;obtain⟨l,hl⟩:∃l,l=gE f:=⟨_,rfl⟩
 rw[<-hl]at f1 f2 ik ⊢;have h1:=hX.out;rw[ik,Jx,if_neg f1]at h1;obtain⟨h2,h3,h4⟩:=hX.outs (by rw[ik];exact f1);rw[ik]at h2;have bB:=hX.up;obtain⟨S,sid,oid,O⟩:=X;simp only at h1 h2 h3 h4 bB xw;have F5:=I h2;have Qd:=qY bB h2 (by omega);have FM:(O.set oid (.cells (l.reverse.map aI)))[1]?=some (.cells [.os oid l.length 1]):=br h1 (by omega);have Ir:(O.set oid (.cells (l.reverse.map aI)))[oid]?=some (.cells (l.reverse.map aI)):=nF h2;have fb:∀o∈O.set oid (.cells (l.reverse.map aI)),o.upto O.length:=bt bB (ax _ _);have IJ:(O.set oid (.cells (l.reverse.map aI))).length=O.length:=by simp
 have eo:(O.set oid (.cells (l.reverse.map aI))).take O.length=O.set oid (.cells (l.reverse.map aI)):=ct;refine⟨O.set oid (.cells (l.reverse.map aI)),oid,Ir,by rw[IJ];exact fb,?_⟩;rw[List.length_reverse];generalize O.set oid (.cells (l.reverse.map aI))=O2 at *;have gi:([]:List ak).length<=O.length:=Nat.zero_le _;refine dj hT true (O.length) Tryz.func52 rfl (by kernel_rfl) (by simp[Tryz.ntmps52]) (by assumption) ?_;show bX Tryz.prog _ _ _ ⟨17,_,_⟩;dsimp only[Tmp,TypeId,slotsOf];refine ay (ai ?_);refine aC 1 0 (.ip none [aI f.name,aw f.blocks]) rfl (by simp[ak.aD]) trivial rfl ?_ ?_;rotate_left;simp -dsimp only[simprocAttr,↓aa,zp]
 ·refine bV ?_;refine zi rn ?_;refine ai ?_;refine ay (ai ?_);refine cv rfl ?_;refine cj ?_;refine ay (ai ?_);refine ay ?_;refine .inr (.inl ⟨_,_,xw,.inl (ao (zj ?_))⟩);refine ai ?_;refine aQ ?_;simp -dsimp only[simprocAttr,↓aa,zp,h1];refine .inr (.inl ⟨_,_,Qd,.inl (ao (zj ?_))⟩);refine ai ?_;refine aQ ?_;simp -dsimp only[simprocAttr,↓aa,zp,FM];refine ai ?_;refine aq ?_;simp -dsimp only[simprocAttr,↓aa,zp,zr,Tryz.results52,eo,IJ];exact⟨fb,⟨F5,trivial,trivial⟩,rfl⟩
 exact bM.mp rfl rfl
def MG(f:Func):ae:=if aZ f=0 then .cw [aJ (dh f),aI 0]else .cw [aJ [],aI (aZ f)]
theorem og(f:Func)(bo:f.fit):bA Tryz.prog 23 [f.enc] (MG f):=by
 unfold MG;by_cases hc:aZ f=0
 ·rw[if_pos hc];obtain⟨O,oid,h1,h2,Hd⟩:=Gv f bo hc;have uK:=(kP (cS bo hc).gr).few;have OE:=GP (O:=O) (id:=oid) (zs:=bO f) h1 (by omega);have h3:(O.set oid (.cells ((oq (bO f)).map aI)))[oid]?=some (.cells ((oq (bO f)).map aI)):=nF h1;have ng:=(kV (bO f)).length_eq;unfold dh;generalize O.set oid (.cells ((oq (bO f)).map aI))=O2 at *;obtain⟨l,hl⟩:∃l,l=oq (bO f):=⟨_,rfl⟩
  rw[<-hl]at h3 ng ⊢;rw[<-ng]at OE Hd;refine zf true 0 Tryz.func23 Tryz.ntmps23 ?_;dsimp only[Tmp,TypeId,slotsOf];refine ay (ai ?_);refine aC 1 0 (.ip none [aI f.name,aw f.blocks]) rfl (by simp[ak.aD]) trivial rfl ?_ ?_;rotate_left;simp -dsimp only[simprocAttr,↓aa,zp]
  ·refine bp 0 [(1,.ip none [aI f.name,aw f.blocks])] (by omega) (by omega) [] ?_ ?_ ?_ ?_ ?_
   ·rfl
   ·simp[ak.upto]
   ·simp[eQ,St.get,bw,a8,Go.Av.look,Sub.refl]
   ·simp[ak.upto,av,ae.upto,ax,Func.ag,Block.ag,Edge.ag,Ins.ag]
   refine ay ?_;refine .inr (.inl ⟨_,_,Hd,.inl (ao (zj ?_))⟩);refine ai ?_;refine ay ?_;refine .inr (.inl ⟨_,_,OE,.inl (ao (zj ?_))⟩);refine ai ?_;refine ay (ai ?_);refine aC 2 oid (o:=.cells (l.map aI)) (aJ l) h3 (by simp[ak.aD]) trivial rfl (bM.os (cs:=l.map aI) h3 ?_ ?_ ?_) ?_
   ·intro x hx;obtain⟨c,_,rfl⟩:=List.mem_map.1 hx;rfl
   ·simp
   ·rw[List.drop_zero,List.take_of_length_le (by simp)];exact nE _
   simp -dsimp only[simprocAttr,↓aa,zp];refine aq ?_;simp -dsimp only[simprocAttr,↓aa,zp,zr,Tryz.results23];exact⟨⟨ax _ _,trivial⟩,trivial,trivial⟩
  exact bM.mp rfl rfl
 rw[if_neg hc];have Hd:=vi f bo;unfold yS at Hd;rw[if_neg hc]at Hd;generalize aZ f=e at *;refine zf true 0 Tryz.func23 Tryz.ntmps23 ?_;dsimp only[Tmp,TypeId,slotsOf];refine ay (ai ?_);refine aC 1 0 (.ip none [aI f.name,aw f.blocks]) rfl (by simp[ak.aD]) trivial rfl ?_ ?_;rotate_left;simp -dsimp only[simprocAttr,↓aa,zp]
 ·refine ay ?_;refine zi Hd ?_;refine ai ?_;refine ay ?_;refine .inr (.inl ⟨_,_,(JR _),.inl (ao (zj ?_))⟩);refine ai ?_;refine ay (ai ?_);refine aq ?_;simp -dsimp only[simprocAttr,↓aa,zp,zr,Tryz.results23];simp[av,ae.upto]
 exact bM.mp rfl rfl

end Go.Proofs.YtjdnhamngpafmaaGreat
namespace Go.Av
theorem BN{g:G}(hg:Good g){id m:Nat}(h:g.objs[id]?=some (.spare m))(arr:Array Value)(t:TypeId)(cs:List ae)(hlen:cs.length<=arr.size)
  (th:∀(g':G) (j:Nat) (c:ae) (u:Value),cs[j]?=some c->arr[j]?=some u->RV g' c u) (df:∀c∈cs,c.scalar) :
  Le g (g.bu id (some ⟨g.w.heap.size,0,arr.size⟩) (.cells cs) (g.w.alloc (.cells arr t)))∧Good (g.bu id (some ⟨g.w.heap.size,0,arr.size⟩) (.cells cs) (g.w.alloc (.cells arr t))):=by
 have dZ:kC g id (.spare m) (some ⟨g.w.heap.size,0,arr.size⟩) (.cells cs) (g.w.alloc (.cells arr t)):={
  obj:=h
  os:=rfl
  tape:=rfl
  output:=rfl
  size:=by show g.w.heap.size<=(g.w.heap.push _).size;rw[Array.size_push];omega
  block:=fun k hk _=>cI g.w _ hk
  cell:=fun b off x hx _=>by
   have:=oF hx;rw[ji (cI g.w (.cells arr t) this)];exact hx
  place:=fun l1 h1 _=>by
   simp only[Option.some.injEq]at h1;subst h1;exact .inl (Nat.le_refl _)
  spare:=fun _ _=>.inr (by simp[ak.aD])
  plain:=fun h=>absurd trivial h
  gone:=by simp }
 exact⟨Le.bu hg dZ,Good.bu hg dZ ⟨_,arr,t,rfl,rfl,cF g.w _,hlen,fun j c u hj hu=>th _ j c u hj hu,df,Nat.le_refl _⟩ (fun l1 h1 _=>by
  simp only[Option.some.injEq]at h1;subst h1;exact aU (cF g.w (.cells arr t)))⟩
theorem vY{P:Program}{aR:ez}(hT:bT P aR){o:Oper}{σ:St}{t:TypeId}{ti:b6}{id m:Nat}(ho:o.op=.alloc t)(hd:∀d,o.dst=some d->d<σ.n)(ht:aR t=some ti)(fK:σ.objs[id]?=some (.spare m)) :
  Cert P o σ (.mp id 0) (.new id (.cells ti.zero)) :=
 Cert.tG trivial hd fun base fw a g bE h iD=>by
  have hg:=bE.good;obtain⟨z,hz,h5,_,_,h8,h9⟩:=(hT t ti ht).zeroValue;have gb:g.objs[id]?=some (.spare m):=Eq.trans iD fK;obtain⟨hle,c8⟩:=BN hg gb z.cells t ti.zero (by rw[h5];exact Nat.le_refl _) (fun g' j c u a b=>h8 g' j c u a b) h9;refine⟨.pointer (some ⟨g.w.heap.size,0,none⟩),_,.inl ?_,hle,c8,?_,?_⟩
  ·simp[execOp,ho,Instr.alloc,hz,Go.newVar,Go.newRow,G.bu]
  ·simp[G.bu,Mode.post]
  exact .mp (l:=⟨g.w.heap.size,0,z.cells.size⟩) (o:=.cells ti.zero) (by simp only[G.bu];rw[List.getElem?_set_self (iM hg gb)]) (by simp only[G.bu];rw[List.getElem?_set_self (I gb)]) (by simp[ak.aD])
theorem iI{P:Program}{aR:ez}(hT:bT P aR){o:Oper}{σ:St}{t e:TypeId}{x y:Operand}{ti te:b6}{k k':IntKind}{n:Int}{id m':Nat}
  (ho:o.op=.makeSlice t x y) (hd:∀d,o.dst=some d->d<σ.n) (ht:aR t=some ti) (aS:ti.desc=.slice e) (he:aR e=some te) (hx:σ.ev x=some (.v (.int k n))) (hy:σ.ev y=some (.v (.int k' n)))
  (h0:0<=n) (hb:te.bytes*n.toNat<=2 ^ 48) (Oi:n.toNat<=2 ^ 62) (hs:0<te.size) (fK:σ.objs[id]?=some (.spare m')) :
  Cert P o σ (.ms id 0 n.toNat n.toNat) (.new id (.cells (List.replicate n.toNat te.zero).flatten)) :=
 Cert.tG trivial hd fun base fw a g bE h iD=>by
  have hg:=bE.good;have gb:g.objs[id]?=some (.spare m'):=Eq.trans iD fK;have ex:=(h x (by simp[ho,Op.operands]) _ hx).bZ.1;have ey:=(h y (by simp[ho,Op.operands]) _ hy).bZ.1;have hu:=bQ hT ht aS;obtain⟨⟨i,z,h1,h2,h3,h4,h5,h6,h7,h8,h9⟩,_⟩:=hT e te he;obtain⟨m,rfl⟩:=Int.eq_ofNat_of_zero_le h0;simp only[Int.toNat_natCast]at *;have CV:(i.bytes:Int)*(m:Int)<=281474976710656:=by
   rw[h3,<-Int.natCast_mul];omega
  have bF:=run_make (P:=P) g.w t e i z hu h1 h4 k k' m m (by omega) (Int.le_refl _) CV (by omega);simp only[Int.toNat_natCast]at bF;have hlen:(List.replicate m te.zero).flatten.length=m*te.size:=by simp[h6]
  have eJ:∀(j:Nat) (c:ae),(List.replicate m te.zero).flatten[j]?=some c->te.zero[j % te.size]?=some c:=fun j c=>h6 ▸ oW te.zero (by omega) m j c;obtain⟨hle,c8⟩:=BN hg gb (madeCells z.cells (m*i.size)) e (List.replicate m te.zero).flatten (by rw[hlen,size_madeCells,h2];exact Nat.le_refl _) (fun g' j c u hj oO=>by
   have iB:=eJ j c hj;have bf:=I hj;rw[hlen]at bf;have j6:j % te.size<z.cells.size:=by rw[h5];exact I iB
   refine h8 _ _ _ _ iB ?_;simp only[madeCells,Array.getElem?_map,h2,Array.getElem?_range,if_pos bf,Option.map_some,Option.some.injEq]at oO;subst oO;rw[h5,h6];simp[j6]) (fun c hc=>by
   rw[List.mem_flatten]at hc;obtain⟨l,hl,hc⟩:=hc;rw[List.mem_replicate]at hl;exact h9 c (hl.2 ▸ hc))
  refine⟨.slice (some ⟨g.w.heap.size,0,none⟩) m m,_,.inl ?_,hle,c8,?_,?_⟩
  ·simp[execOp,ho,ex,ey,bF,G.bu]
  ·simp[G.bu,Mode.post]
  exact .ms (l:=⟨g.w.heap.size,0,(madeCells z.cells (m*i.size)).size⟩) (o:=.cells (List.replicate m te.zero).flatten) (by simp only[G.bu];rw[List.getElem?_set_self (iM hg gb)]) (by simp only[G.bu];rw[List.getElem?_set_self (I gb)]) (by simp[ak.aD]) (Nat.le_refl _) (Nat.le_refl _) Oi
theorem tR{P:Program}{kb:Nat}{c:Code}{Q:dt->St->Prop}{n:Nat}{bn:List (Nat×ae)}:∀(k:Nat) {O:List ak},bX P kb c Q ⟨n,bn,O++List.replicate k (.spare 0)⟩->bX P kb c Q ⟨n,bn,O⟩
 | 0,O,h=>by simpa using h
 | k+1,O,h=>by
  have h2:bX P kb c Q ⟨n,bn,O++[.spare 0]⟩:=tR k (by simpa[List.replicate_succ]using h);exact h2.weaken fun base a g hb hr=>by
   have hO:g.objs=O:=hr.objs;refine⟨g.mark (.spare 0),rfl,?_⟩;have hle:=Le.mark hr.good (.spare 0);refine { le:=hr.le.trans hle,good:=Good.mark hr.good _,objs:=by simp[G.mark,hO],size:=hr.size,defers:=hr.defers,slot:=fun s x hx=>?_ };obtain⟨u,e1,e2⟩:=hr.slot s x hx;exact⟨u,e1,e2.mono hle⟩
def vS(P:Program)(all:List Oper)(k:Nat)(σ:St)(ks:List Kind)(R:St->List Kind->Prop):Prop :=
 ∃(ρ:St) (sA:List Kind),sA.length+k=all.length∧eO P all.toArray ((sA.zipIdx k).map fun p=>(p.2,p.1)) σ ρ∧R ρ (ks++sA)
theorem vS.fin{P:Program}{all:List Oper}{k:Nat}{σ:St}{ks:List Kind}{R:St->List Kind->Prop}(hk:k=all.length)(h:R σ ks):vS P all k σ ks R :=
 ⟨σ,[],by simpa using hk,gQ.refl σ,by simpa using h⟩
theorem vS.op{P:Program}{all:List Oper}{k:Nat}{σ:St}{ks:List Kind}{R:St->List Kind->Prop}{o:Oper}{x:ae}{m:Mode}(ho:all[k]?=some o)(hg:o.guard=none)(hc:Cert P o σ x m)
  (h:vS P all (k+1) ⟨σ.n,pc o.dst x σ.bn,m.post σ.objs⟩ (ks++[m.kind]) R):vS P all k σ ks R:=by
 obtain⟨ρ,sA,h1,h2,h3⟩:=h;refine⟨ρ,m.kind::sA,by simp only[List.length_cons];omega,?_,by simpa using h3⟩;rw[List.zipIdx_cons,List.map_cons];exact⟨_,⟨o,by simpa using ho,.inl ⟨by simp[cU,hg],x,m,hc,rfl,rfl⟩⟩,h2⟩
theorem w5{P:Program}{ops:Array Oper}:∀{l1 l2:List (Nat×Kind)} {σ τ ρ:St},eO P ops l1 σ τ->eO P ops l2 τ ρ->eO P ops (l1++l2) σ ρ
 | [],_,_,_,_,h1,h2=>h2.same h1.symm
 | _::_,_,_,_,_,⟨fw,h,h1⟩,h2=>⟨fw,h,w5 h1 h2⟩
theorem w6{P:Program}{ops all:Array Oper}{k:Nat}(hk:∀i o,ops[i]?=some o->all[k+i]?=some o)(hg:∀o∈all.toList,o.guard=none):∀{l:List (Nat×Kind)} {σ τ:St},eO P ops l σ τ->eO P all (l.map fun p=>(k+p.1,p.2)) σ τ
 | [],_,_,h=>h
 | (i,q)::r,_,_,h=>by
  obtain⟨fw,⟨o,ho,h1⟩,h2⟩:=h;refine⟨fw,⟨o,hk i o ho,?_⟩,w6 hk hg h2⟩;have iD:=hk i o ho;have Ex:o.guard=none:=hg o (by
   rw[<-Array.getElem?_toList]at iD;exact List.mem_of_getElem? iD)
  have w1:∀(a:Array Oper) (σ:St),cU a o σ=some true:=fun a σ=>by simp[cU,Ex]
  rcases h1 with⟨_,h1⟩|⟨h1,_⟩
  ·exact .inl ⟨w1 _ _,h1⟩
  rw[w1]at h1;cases h1
theorem vS.Rp{P:Program}{aR:ez}(md:Md)(hT:bT P aR){all l1:List Oper}{k:Nat}{σ:St}{ks:List Kind}{R:St->List Kind->Prop}(n:Nat)(h1:(all.drop k).take n=l1)(hn:l1.length=n)(hg:∀o∈all,o.guard=none)
  (h:dR P aR md l1 0 [] σ [] fun τ xz=>vS P all (k+n) τ (ks++xz.reverse) R):vS P all k σ ks R:=by
 obtain⟨τ,xz,c1,n1,ρ,OM,h3,c2,hR⟩:=ef (all:=l1.toArray) hT l1 0 [] σ [] (fun j=>by simp) (fun j t hj=>by simp[iV]at hj) h;have hl:k+n<=all.length:=by
  have:l1.length<=all.length-k:=by rw[<-h1,List.length_take,List.length_drop];omega
  by_cases hz:n=0
  ·omega
  omega
 have d1:=w6 (all:=all.toArray) (k:=k) (fun i o hi=>by
  have gP:l1[i]?=some o:=by simpa using hi
  rw[<-h1,List.getElem?_take]at gP;split at gP
  ·rw[List.getElem?_drop]at gP;simpa using gP
  cases gP) (by simpa using hg) c1
 refine⟨ρ,xz++OM,by rw[List.length_append];omega,?_,by simpa using hR⟩;rw[List.zipIdx_append,List.map_append];have e1:(xz.zipIdx k).map (fun p=>(p.2,p.1))=((xz.zipIdx 0).map fun p=>(p.2,p.1)).map fun p=>(k+p.1,p.2):=by
  apply List.ext_getElem?;intro i;simp only[List.getElem?_map,List.getElem?_zipIdx];cases xz[i]?<;>simp
 rw[e1];refine w5 d1 ?_;rw[show k+xz.length=k+n by omega];exact c2
theorem tT{P:Program}{kb:Nat}(hm:P.follows .mixedOrders=true){id:Nat}{l:List Oper}{draw:Bool}{Q:dt->St->Prop}{σ:St}
  (h:vS P l 0 σ [] fun τ ks=>fW draw (fun _=>du l.toArray ks)∧At τ (Q .norm)):bX P kb (.region id l.toArray draw) Q σ:=by
 obtain⟨τ,ks,h1,h2,h3,h4⟩:=h;intro base a g hb hr;have pn:eO P l.toArray ((List.range l.toArray.size).map fun i=>(i,ks.getD i .write)) σ τ:=by
  have e:(ks.zipIdx 0).map (fun p=>(p.2,p.1))=(List.range l.toArray.size).map fun i=>(i,ks.getD i .write):=by
   apply List.ext_getElem?;intro i;simp only[List.getElem?_map];have hlen:ks.length=l.toArray.size:=by simpa using h1
   by_cases hi:i<l.toArray.size
   ·have gP:i<ks.length:=by omega
    rw[List.getElem?_range hi];simp[gP]
   rw[List.getElem?_eq_none (by simp only[List.length_zipIdx];omega),List.getElem?_eq_none (by simp only[List.length_range];omega)];rfl
  rw[<-e];exact h2
 cases draw with
 | false=>exact lK pn hr fun a g Da=>⟨g,τ,rfl,Da,h4⟩
 | true =>
  have hB:=h3 rfl;simp only[List.nil_append]at hB;exact nq hm hB pn hr fun a g Da=>⟨g,τ,rfl,Da,h4⟩
end Go.Av
namespace Go.Proofs.YtjdnhamngpafmaaGreat
open Go.Av
theorem BV(n:Nat):(List.replicate n [ae.v (.int .i64 0)]).flatten=(List.replicate n 0).map aI:=by
 induction n with
 | zero=>rfl
 | succ n ih=>rw[List.replicate_succ,List.flatten_cons,ih,List.replicate_succ];rfl
theorem O8{l:List Int}{j:Nat}(h:j<l.length)(b:Int):bh (l.map aI) j [.v (.int .i64 b)]=(l.set j b).map aI:=by
 rw[cA _ (by simpa using h),List.map_set]
theorem Ii{k n:Nat}{l:List Int}{x y:Int}(hl:l.length=k)(hk:k<n):(l++List.replicate (n-k) x).set k y=(l++[y])++List.replicate (n-(k+1)) x:=by
 rw[List.set_append_right _ _ (by omega),hl,Nat.sub_self,show n-k=(n-(k+1))+1 by omega,List.replicate_succ,List.set_cons_zero,List.append_assoc];rfl
theorem Wi{f:Func}(bo:f.fit)(hc:aZ f=0):Wu f:=by
 have hw:=cS bo hc;have hg:=hw.gr;have AM:∀b∈f.blocks,b.params.length<=4096:=fun b hb=>by
  have:=(hw.blk b hb).few;omega
 exact {
  few:=hw.few
  params:=AM
  ins:=hw.ins
  OL:=fun b hb i hi=>(tt ((hw.blk b hb).Eo i hi)).len
  cases:=fun b hb=>(mD (hw.blk b hb).fin).cases
  to:=fun b hb=>hg.to b hb
  Oe:=fun b hb e he=>by
   have h1:=(mD (hw.blk b hb).fin).gG e he;rw[h1.2];have hr:=hg.gG b hb e he;have hx:f.blocks[e.block.toNat]?=some (f.blocks[e.block.toNat]'(by omega)):=List.getElem?_eq_getElem _;have:aF f e.block=f.blocks[e.block.toNat]'(by omega):=by simp[aF,hx]
   rw[this];exact AM _ (List.getElem_mem _) }
def DH(f:Func):ae:=if aZ f=0 then .cw [(bH f).enc,aJ (pg f),aI 0]else .cw [.agg [aI 0,.aA 7 [] .sh],.aA 1 [] .sh,aI (aZ f)]
structure Px where
 i:Nat
 oid:Nat
 O:List ak
theorem DI(f:Func)(bo:f.fit):bA Tryz.prog 70 [f.enc] (DH f):=by
 have Qe:=og f bo;unfold MG at Qe;unfold DH;by_cases hc:aZ f=0
 ·rw[if_pos hc]at Qe ⊢;have hg:=(cS bo hc).gr;have hw:=kP hg;have To:=Wi bo hc;have hn:f.blocks.length<=128:=hg.few;have PH:=Fx f To hg.ne;have Yh:(dh f).length<=128:=by rw[Bq];exact hw.few
  have UX:=p' hw;have T9:dh f≠[]:=List.ne_nil_of_mem (dE.2 (by rw[hw.zero];omega:0<=jG f 0));have T':∀k∈dh f,0<=k∧k<f.blocks.length:=fun k hk=>hw.range k (dE.1 hk);obtain⟨N,hN⟩:∃N,N=f.blocks.length:=⟨_,rfl⟩
  obtain⟨L,hL⟩:∃L,L=dh f:=⟨_,rfl⟩
  obtain⟨A,hA⟩:∃A,A=pg f:=⟨_,rfl⟩
  have Tb:(bH f).enc=.agg [aI f.name,aw (ny f A L)]:=by rw[hA,hL];rfl
  rw[Tb,<-hA];unfold pg at hA;rw[<-hL]at Qe Yh UX T9 T' hA;rw[<-hN]at hn hA T';have LL:A.length=N:=by rw[hA];simp
  refine zf true 0 Tryz.func70 Tryz.ntmps70 ?_;dsimp only[Tmp,TypeId,slotsOf];refine ay (ai ?_);refine aC 1 0 (.ip none [aI f.name,aw f.blocks]) rfl (by simp[ak.aD]) trivial rfl ?_ ?_;rotate_left;simp -dsimp only[simprocAttr,↓aa,zp]
  ·refine ay ?_;refine zi Qe ?_;refine ai ?_;refine bV (ai ?_);apply aN rfl<;>intro h
   ·cases h
   refine cj ?_;refine aQ ?_;simp -dsimp only[simprocAttr,↓aa,zp,BV,<-hN]
   repeat(refine⟨by omega,?_⟩)
   refine ai ?_;refine bV (ai ?_);refine ah (aL (ι:={k:Nat // k<=N}) (fun k=>⟨89,[(1,.ip none [aI f.name,aw f.blocks]),(2,.mp 1 0),(5,aJ L),(7,.ms 2 0 N N),(29,aI N),(30,aI k.1)],[.gone,.cells [aI 0,.aA 7 [] .ex],.cells ((A.take k.1++List.replicate (N-k.1) 0).map aI)]⟩) (fun k=>N-k.1) ⟨0,by omega⟩ ?_ ?_)
   ·refine zq rfl ?_ ?_;simp -dsimp only[simprocAttr,↓aa,zp,zc]
    all_goals rfl
   rintro⟨k,hk⟩;refine ay (ai ?_);apply gJ rfl<;>intro h
   ·refine cj ?_;have bf:k<N:=by simpa using h
    have Ma:=pR L (k:Int);have X7:A[k]?=some (j7 L (k:Int)):=by
     rw[hA,List.getElem?_map,List.getElem?_range bf];rfl
    have jc:(A.take k).length=k:=by rw[List.length_take];omega
    have jn:bh ((A.take k++List.replicate (N-k) 0).map aI) k [.v (.int .i64 (j7 L (k:Int)))]=(A.take (k+1)++List.replicate (N-(k+1)) 0).map aI:=by
     rw[O8 (by rw[List.length_append,jc,List.length_replicate];omega),Ii jc bf,List.take_add_one,X7];rfl
    refine aH (ah ?_);refine ay (ai ?_);refine cM ?_;refine .inl ⟨_,Ma,by simp only[av,ae.upto,zt,zu,ax],ao ?_⟩;simp -dsimp only[simprocAttr,↓aa,zp,jn,Int.toNat_natCast,Nat.mul_one]
    repeat(refine⟨by omega,?_⟩)
    refine⟨by rw[jc,List.length_replicate];omega,?_⟩;refine ai ?_;refine cM ?_
    repeat(refine⟨by omega,?_⟩)
    refine eZ ?_;refine⟨⟨k+1,bf⟩,by simp;omega,?_⟩;refine zq rfl ?_ ?_;simp -dsimp only[simprocAttr,↓aa,zp,zc]
    ·exact Sub.int (by simp)
    rfl
   refine aK ?_;simp -dsimp only[bI,ne_eq,Nat.reduceEqDiff,reduceCtorEq];have SI:N=k:=by
    have:=of_decide_eq_false h;omega
   subst SI;rw[Nat.sub_self,List.replicate_zero,List.append_nil,List.take_of_length_le (by omega)];refine aC 7 2 (o:=.cells (A.map aI)) (aJ A) rfl (by simp[ak.aD]) trivial rfl (bM.ms (cs:=A.map aI) rfl (fun x hx=>by obtain⟨v,_,rfl⟩:=List.mem_map.1 hx;rfl) (by simpa using LL) (by rw[List.drop_zero,List.take_of_length_le (by simp;omega),nE])) ?_;simp -dsimp only[simprocAttr,↓aa,zp];refine bp 2 [(1,.ip none [aI f.name,aw f.blocks]),(2,.mp 1 0),(5,aJ L),(7,aJ A)] (by simp) (by omega) [.gone,.cells [aI 0,.aA 7 [] .ex]] ?_ ?_ ?_ ?_ ?_
   ·rfl
   ·simp[ak.upto,av,ae.upto]
   ·simp[eQ,St.get,bw,a8,Go.Av.look,Sub.refl]
   ·simp[ak.upto,av,ae.upto,ax,Block.ag]
   refine aH (jJ ⟨false,false⟩ hT 1 rfl rfl rfl (by simp) ?_);simp -dsimp only[simprocAttr,↓aa,zp];refine⟨UE f,lh rfl (by simp) rfl rfl PH,fun r O' hR=>?_⟩;obtain⟨ids,dO,hr,bB,L7,kY,⟨R6,WZ⟩,YH,cq⟩:=hR;subst hr;simp -dsimp only[simprocAttr,↓aa,zp];refine ai ?_;rw[<-hN];have pN:=I WZ;refine aV 9 ([aI f.name,.os dO N 7]) [(1,.ip none [aI f.name,aw f.blocks]),(2,.mp 1 0),(5,aJ L),(7,aJ A),(9,.ip none [aI f.name,.os dO N 7])] (by simp[bw,a8,Go.Av.look]) (by rfl) (by omega) (by simp[bw,a8,Go.Av.look]) ?_ ?_ ?_
   ·exact bB
   ·simp[ae.upto,av,ax,Edge.ag,Ins.ag,Block.ag,pN,I kY]
   have Ym:=Hm.start A bB kY ⟨R6,WZ⟩ YH cq;refine ay (ai ?_);generalize O'++[ak.cells [aI f.name,.aA 7 [] .ex]]=O0 at *;generalize O'.length=X0 at *;refine bV (ai ?_);refine ah (aL (ι:={X:Px // X.i<=L.length∧Hm f A ids dO X0 (L.take X.i) X.oid X.O}) (fun X=>⟨89,[(1,.ip none [aI f.name,aw f.blocks]),(2,.mp 1 0),(5,aJ L),(7,aJ A),(9,.ip none [aI f.name,.os dO N 7]),(10,.mp X0 0),(45,aJ L),(46,aI L.length),(47,aI X.1.i)],X.1.O⟩) (fun X=>L.length-X.1.i) ⟨⟨0,0,O0⟩,by simp,Ym⟩ ?_ ?_)
   ·refine zq rfl ?_ ?_;simp -dsimp only[simprocAttr,↓aa,zp,zc]
    all_goals rfl
   rintro⟨⟨i,oid,O⟩,hi,hP⟩;simp only at hi hP;refine ay (ai ?_);apply gJ rfl<;>intro h
   ·refine cj ?_;have bf:i<L.length:=by simpa using h
    obtain⟨kk,gi⟩:∃kk,L[i]?=some kk:=⟨L[i],by simp[bf]⟩
    have B0:=T' kk (List.mem_of_getElem? gi);obtain⟨k,hk⟩:∃k:Nat,kk=(k:Int):=⟨kk.toNat,by omega⟩
    subst hk;have eo:L.take (i+1)=L.take i++[(k:Int)]:=by rw[List.take_add_one,gi];rfl
    have wB:(L.take i).length=i:=by rw[List.length_take];omega
    have qN:(k:Int) ∉ L.take i:=fun q=>by
     have h1:(L.take i++[(k:Int)]).Nodup:=by
      rw[<-eo];exact(List.take_sublist _ _).nodup UX
     rw[List.nodup_append]at h1;exact h1.2.2 _ q _ (by simp) rfl
    obtain⟨b,hb⟩:∃b,f.blocks[k]?=some b:=⟨f.blocks[k]'(by omega),List.getElem?_eq_getElem _⟩
    obtain⟨id,fK⟩:∃id,ids[k]?=some id:=⟨ids[k]'(by rw[hP.li];omega),List.getElem?_eq_getElem _⟩
    have YD:=hg.to b (List.mem_of_getElem? hb);have Ix:=hg.gG b (List.mem_of_getElem? hb);have pN:=hP.bl.2;have Az:=Eh fK hb;have YC:=lQ hP.li;have U4:=I hP.out;have RT:=I pN;have T5:=I hP.r1;refine aH (ah ?_);refine aQ ?_;simp -dsimp only[simprocAttr,↓aa,zp,gi];refine ai ?_;by_cases rq:b.term.to=[]
    ·have uI:tq id b=[aJ b.params,a7 b.ins,aI b.term.kind,aI b.term.arg,aI b.term.n,aJ b.term.cases,.aA 2 [] .sh]:=by
      unfold tq pZ;rw[if_pos rq]
     rw[uI]at Az;refine aQ ?_;simp -dsimp only[simprocAttr,↓aa,zp,pN,Az,Int.toNat_natCast]
     repeat(refine⟨by omega,?_⟩)
     refine ai ?_;refine aV 13 ([aJ b.params,a7 b.ins,aI b.term.kind,aI b.term.arg,aI b.term.n,aJ b.term.cases,.aA 2 [] .sh]) [(1,.ip none [aI f.name,aw f.blocks]),(2,.mp 1 0),(5,aJ L),(7,aJ A),(9,.ip none [aI f.name,.os dO N 7]),(10,.mp X0 0),(45,aJ L),(46,aI L.length),(47,aI i),(12,aI k),(13,.ip none [aJ b.params,a7 b.ins,aI b.term.kind,aI b.term.arg,aI b.term.n,aJ b.term.cases,.aA 2 [] .sh])] (by simp[bw,a8,Go.Av.look]) (by rfl) (by omega) (by simp[bw,a8,Go.Av.look]) ?_ ?_ ?_
     ·exact hP.up
     ·simp[ae.upto,av,ax,Edge.ag,Ins.ag,Block.ag,U4,RT,T5]
     refine bV (ai ?_);refine ah (aL (ι:=Unit) (fun _=>⟨89,[(1,.ip none [aI f.name,aw f.blocks]),(2,.mp 1 0),(5,aJ L),(7,aJ A),(9,.ip none [aI f.name,.os dO N 7]),(10,.mp X0 0),(45,aJ L),(46,aI L.length),(47,aI i),(13,.ip none [aJ b.params,a7 b.ins,aI b.term.kind,aI b.term.arg,aI b.term.n,aJ b.term.cases,.aA 2 [] .sh]),(59,aI 0),(60,aI 0)],O⟩) (fun _=>0) () ?_ ?_)
     ·refine zq rfl ?_ ?_;simp -dsimp only[simprocAttr,↓aa,zp,zc]
      all_goals rfl
     rintro⟨⟩;refine ay (ai ?_);refine Wp rfl ?_;refine aK ?_;simp -dsimp only[bI,ne_eq,Nat.reduceEqDiff,reduceCtorEq];by_cases po:L.take i=[]
     ·have mJ:je oid (ny f A (L.take i))=.aA 7 [] .ex:=by
       rw[po];rfl
      have ik:=hP.out;rw[mJ]at ik;have mI:(O)[X0]?=some (.cells [aI f.name,.aA 7 [] .ex]):=ik;have C8:∀Y,(O++Y)[X0]?=some (.cells [aI f.name,.aA 7 [] .ex]):=fun Y=>cm mI;have yz:(O).length=O.length:=rfl;refine N1 ?_;simp -dsimp only[simprocAttr,↓aa,zp,mI,C8,dL,eN,uI]
      repeat(refine⟨by omega,?_⟩)
      refine⟨trivial,?_⟩;refine ai ?_;have jn:Hm f A ids dO X0 (L.take i++[(k:Int)]) O.length ((O++[ak.cells ([aJ b.params,a7 b.ins,aI b.term.kind,aI b.term.arg,aI b.term.n,aJ b.term.cases,.aA 2 [] .sh])]).set X0 (.cells [aI f.name,.os O.length 1 7])):=hP.snoc hb fK qN yz (hP.up) (fun _ _ _=>rfl) (fun q=>absurd rq q) (by rw[qT fK hb,po,<-uI];rfl) (by rw[po];rfl);show bX Tryz.prog _ _ _ ⟨_,_,(O++[ak.cells ([aJ b.params,a7 b.ins,aI b.term.kind,aI b.term.arg,aI b.term.n,aJ b.term.cases,.aA 2 [] .sh])]).set X0 (.cells [aI f.name,.os (O).length 1 7])⟩;rw[yz];generalize (O++[ak.cells ([aJ b.params,a7 b.ins,aI b.term.kind,aI b.term.arg,aI b.term.n,aJ b.term.cases,.aA 2 [] .sh])]).set X0 (.cells [aI f.name,.os O.length 1 7])=O7 at *;refine cM ?_
      repeat(refine⟨by omega,?_⟩)
      refine eZ ?_;refine⟨⟨⟨i+1,O.length,O7⟩,bf,by rw[eo];exact jn⟩,by simp;omega,?_⟩;refine zq rfl ?_ ?_;simp -dsimp only[simprocAttr,↓aa,zp,zc]
      ·exact Sub.int (by simp)
      rfl
     obtain⟨l1,l2,l3,l4⟩:=hP.aA po;have mJ:je oid (ny f A (L.take i))=.os oid i 7:=by
      unfold je;rw[if_neg (by simpa[ny]using po),km,wB]
     have ik:=hP.out;rw[mJ]at ik;have mI:(O)[X0]?=some (.cells [aI f.name,.os oid i 7]):=ik;have l5:(O)[oid]?=some (.cells (fh (tk ids (L.take i)) (ny f A (L.take i)))):=l4;have C8:∀Y,((O).set oid .gone++Y)[X0]?=some (.cells [aI f.name,.os oid i 7]):=fun Y=>cm (br mI (by omega));have yz:((O).set oid .gone).length=O.length:=List.length_set;have Iu:(O).length=O.length:=rfl;have AB:=lQ (ids:=tk ids (L.take i)) (bs:=ny f A (L.take i)) (by rw[yX,km]);rw[km,wB]at AB;have yA:(fh (tk ids (L.take i)) (ny f A (L.take i))).take (i*7)=fh (tk ids (L.take i)) (ny f A (L.take i)):=List.take_of_length_le (by omega);refine jX ?_;simp -dsimp only[simprocAttr,↓aa,zp,mI,C8,l5,yA,AB,dL,eN,uI]
     repeat(refine⟨by omega,?_⟩)
     refine⟨trivial,?_⟩;refine ai ?_;have jn:Hm f A ids dO X0 (L.take i++[(k:Int)]) O.length (((O).set oid .gone++[ak.cells (fh (tk ids (L.take i)) (ny f A (L.take i))++([aJ b.params,a7 b.ins,aI b.term.kind,aI b.term.arg,aI b.term.n,aJ b.term.cases,.aA 2 [] .sh]))]).set X0 (.cells [aI f.name,.os O.length (i+1) 7])):=hP.snoc hb fK qN yz (bt (hP.up) trivial) (fun j h1 h2=>by rw[List.getElem?_set_ne (Ne.symm (h2 po))];skip) (fun q=>absurd rq q) (by rw[qT fK hb,uI]) (by rw[wB]);show bX Tryz.prog _ _ _ ⟨_,_,((O).set oid .gone++[ak.cells (fh (tk ids (L.take i)) (ny f A (L.take i))++([aJ b.params,a7 b.ins,aI b.term.kind,aI b.term.arg,aI b.term.n,aJ b.term.cases,.aA 2 [] .sh]))]).set X0 (.cells [aI f.name,.os (O).length (i+1) 7])⟩;rw[Iu];generalize ((O).set oid .gone++[ak.cells (fh (tk ids (L.take i)) (ny f A (L.take i))++([aJ b.params,a7 b.ins,aI b.term.kind,aI b.term.arg,aI b.term.n,aJ b.term.cases,.aA 2 [] .sh]))]).set X0 (.cells [aI f.name,.os O.length (i+1) 7])=O7 at *;refine cM ?_
     repeat(refine⟨by omega,?_⟩)
     refine eZ ?_;refine⟨⟨⟨i+1,O.length,O7⟩,bf,by rw[eo];exact jn⟩,by simp;omega,?_⟩;refine zq rfl ?_ ?_;simp -dsimp only[simprocAttr,↓aa,zp,zc]
     ·exact Sub.int (by simp)
     rfl
    obtain⟨o1,o2,o3,o4,o5⟩:=hP.own k id b fK hb rq;rw[if_neg qN]at o5;have uI:tq id b=[aJ b.params,a7 b.ins,aI b.term.kind,aI b.term.arg,aI b.term.n,aJ b.term.cases,.os id b.term.to.length 2]:=by
     unfold tq pZ;rw[if_neg rq]
    rw[uI]at Az;have BZ:=I o5;refine aQ ?_;simp -dsimp only[simprocAttr,↓aa,zp,pN,Az,Int.toNat_natCast]
    repeat(refine⟨by omega,?_⟩)
    refine ai ?_;refine aV 13 ([aJ b.params,a7 b.ins,aI b.term.kind,aI b.term.arg,aI b.term.n,aJ b.term.cases,.os id b.term.to.length 2]) [(1,.ip none [aI f.name,aw f.blocks]),(2,.mp 1 0),(5,aJ L),(7,aJ A),(9,.ip none [aI f.name,.os dO N 7]),(10,.mp X0 0),(45,aJ L),(46,aI L.length),(47,aI i),(12,aI k),(13,.ip none [aJ b.params,a7 b.ins,aI b.term.kind,aI b.term.arg,aI b.term.n,aJ b.term.cases,.os id b.term.to.length 2])] (by simp[bw,a8,Go.Av.look]) (by rfl) (by omega) (by simp[bw,a8,Go.Av.look]) ?_ ?_ ?_
    ·exact hP.up
    ·simp[ae.upto,av,ax,Edge.ag,Ins.ag,Block.ag,U4,RT,T5,BZ]
    have Yl:O.set id (.cells (gy (mP A b.term.to 0)))=O:=by
     rw[Gp];apply List.ext_getElem?;intro j;rw[List.getElem?_set];split
     ·rename_i e;rw[<-e,o5]
     rfl
    refine bV (ai ?_);refine ah (aL (ι:={n:Nat // n<=b.term.to.length}) (fun n=>⟨89,[(1,.ip none [aI f.name,aw f.blocks]),(2,.mp 1 0),(5,aJ L),(7,aJ A),(9,.ip none [aI f.name,.os dO N 7]),(10,.mp X0 0),(45,aJ L),(46,aI L.length),(47,aI i),(13,.ip none [aJ b.params,a7 b.ins,aI b.term.kind,aI b.term.arg,aI b.term.n,aJ b.term.cases,.os id b.term.to.length 2]),(59,aI b.term.to.length),(60,aI n.1)],O.set id (.cells (gy (mP A b.term.to n.1)))⟩) (fun n=>b.term.to.length-n.1) ⟨0,by omega⟩ ?_ ?_)
    ·refine zq rfl ?_ ?_;simp -dsimp only[simprocAttr,↓aa,zp,zc]
     all_goals exact Yl.symm
    rintro⟨z,hz⟩;refine ay (ai ?_);apply gJ rfl<;>intro h
    ·refine cj ?_;have vQ:z<b.term.to.length:=by simpa using h
     obtain⟨e,he⟩:∃e,b.term.to[z]?=some e:=⟨b.term.to[z],by simp[vQ]⟩
     have W9:=Ix e (List.mem_of_getElem? he);have pq:(O.set id (.cells (gy (mP A b.term.to z))))[id]?=some (.cells (gy (mP A b.term.to z))):=List.getElem?_set_self BZ;obtain⟨c1,c2⟩:=Po (Mx A he);have VG:=Gn A he;have VD:(gy (mP A b.term.to z)).length=b.term.to.length*2:=by rw[mA,Bc]
     obtain⟨x,hx⟩:∃x:Nat,e.block=(x:Int):=⟨e.block.toNat,by omega⟩
     have X8:A[x]?=some (Ee A e.block):=by
      unfold Ee;rw[hx,Int.toNat_natCast,List.getElem?_eq_getElem (by omega)];rfl
     refine aH (ah ?_);refine ay (ai ?_);refine jX ?_;simp -dsimp only[simprocAttr,↓aa,zp,pq,c1,hx,X8,VD,Int.toNat_natCast]
     repeat(refine⟨by omega,?_⟩)
     refine⟨ob (by kernel_rfl),?_⟩;refine ai ?_;rw[<-hx,VG,List.set_set];refine cM ?_
     repeat(refine⟨by omega,?_⟩)
     refine eZ ?_;refine⟨⟨z+1,vQ⟩,by simp;omega,?_⟩;refine zq rfl ?_ ?_;simp -dsimp only[simprocAttr,↓aa,zp,zc]
     ·exact Sub.int (by simp)
     rfl
    refine aK ?_;simp -dsimp only[bI,ne_eq,Nat.reduceEqDiff,reduceCtorEq];have zJ:b.term.to.length<=z:=by
     have:=of_decide_eq_false h;omega
    rw[Jc A zJ];by_cases po:L.take i=[]
    ·have mJ:je oid (ny f A (L.take i))=.aA 7 [] .ex:=by
      rw[po];rfl
     have ik:=hP.out;rw[mJ]at ik;have mI:(O.set id (.cells (gy (b.term.to.map (iq A)))))[X0]?=some (.cells [aI f.name,.aA 7 [] .ex]):=br ik o3;have C8:∀Y,(O.set id (.cells (gy (b.term.to.map (iq A))))++Y)[X0]?=some (.cells [aI f.name,.aA 7 [] .ex]):=fun Y=>cm mI;have yz:(O.set id (.cells (gy (b.term.to.map (iq A))))).length=O.length:=List.length_set;refine N1 ?_;simp -dsimp only[simprocAttr,↓aa,zp,mI,C8,dL,eN,uI]
     repeat(refine⟨by omega,?_⟩)
     refine⟨trivial,?_⟩;refine ai ?_;have jn:Hm f A ids dO X0 (L.take i++[(k:Int)]) O.length ((O.set id (.cells (gy (b.term.to.map (iq A))))++[ak.cells ([aJ b.params,a7 b.ins,aI b.term.kind,aI b.term.arg,aI b.term.n,aJ b.term.cases,.os id b.term.to.length 2])]).set X0 (.cells [aI f.name,.os O.length 1 7])):=hP.snoc hb fK qN yz (bt hP.up (show ak.upto O.length (.cells (gy (b.term.to.map (iq A)))) from uE _ _)) (fun j h1 _=>by rw[List.getElem?_set_ne (Ne.symm (h1 rq))]) (fun _=>List.getElem?_set_self (I o5)) (by rw[qT fK hb,po,<-uI];rfl) (by rw[po];rfl);show bX Tryz.prog _ _ _ ⟨_,_,(O.set id (.cells (gy (b.term.to.map (iq A))))++[ak.cells ([aJ b.params,a7 b.ins,aI b.term.kind,aI b.term.arg,aI b.term.n,aJ b.term.cases,.os id b.term.to.length 2])]).set X0 (.cells [aI f.name,.os (O.set id (.cells (gy (b.term.to.map (iq A))))).length 1 7])⟩;rw[yz];generalize (O.set id (.cells (gy (b.term.to.map (iq A))))++[ak.cells ([aJ b.params,a7 b.ins,aI b.term.kind,aI b.term.arg,aI b.term.n,aJ b.term.cases,.os id b.term.to.length 2])]).set X0 (.cells [aI f.name,.os O.length 1 7])=O7 at *;refine cM ?_
     repeat(refine⟨by omega,?_⟩)
     refine eZ ?_;refine⟨⟨⟨i+1,O.length,O7⟩,bf,by rw[eo];exact jn⟩,by simp;omega,?_⟩;refine zq rfl ?_ ?_;simp -dsimp only[simprocAttr,↓aa,zp,zc]
     ·exact Sub.int (by simp)
     rfl
    obtain⟨l1,l2,l3,l4⟩:=hP.aA po;have mJ:je oid (ny f A (L.take i))=.os oid i 7:=by
     unfold je;rw[if_neg (by simpa[ny]using po),km,wB]
    have ik:=hP.out;rw[mJ]at ik;have mI:(O.set id (.cells (gy (b.term.to.map (iq A)))))[X0]?=some (.cells [aI f.name,.os oid i 7]):=br ik o3;have l5:(O.set id (.cells (gy (b.term.to.map (iq A)))))[oid]?=some (.cells (fh (tk ids (L.take i)) (ny f A (L.take i)))):=br l4 (o4 po);have C8:∀Y,((O.set id (.cells (gy (b.term.to.map (iq A))))).set oid .gone++Y)[X0]?=some (.cells [aI f.name,.os oid i 7]):=fun Y=>cm (br mI (by omega));have yz:((O.set id (.cells (gy (b.term.to.map (iq A))))).set oid .gone).length=O.length:=by rw[List.length_set];exact List.length_set
    have Iu:(O.set id (.cells (gy (b.term.to.map (iq A))))).length=O.length:=List.length_set;have AB:=lQ (ids:=tk ids (L.take i)) (bs:=ny f A (L.take i)) (by rw[yX,km]);rw[km,wB]at AB;have yA:(fh (tk ids (L.take i)) (ny f A (L.take i))).take (i*7)=fh (tk ids (L.take i)) (ny f A (L.take i)):=List.take_of_length_le (by omega);refine jX ?_;simp -dsimp only[simprocAttr,↓aa,zp,mI,C8,l5,yA,AB,dL,eN,uI]
    repeat(refine⟨by omega,?_⟩)
    refine⟨trivial,?_⟩;refine ai ?_;have jn:Hm f A ids dO X0 (L.take i++[(k:Int)]) O.length (((O.set id (.cells (gy (b.term.to.map (iq A))))).set oid .gone++[ak.cells (fh (tk ids (L.take i)) (ny f A (L.take i))++([aJ b.params,a7 b.ins,aI b.term.kind,aI b.term.arg,aI b.term.n,aJ b.term.cases,.os id b.term.to.length 2]))]).set X0 (.cells [aI f.name,.os O.length (i+1) 7])):=hP.snoc hb fK qN yz (bt (bt hP.up (show ak.upto O.length (.cells (gy (b.term.to.map (iq A)))) from uE _ _)) trivial) (fun j h1 h2=>by rw[List.getElem?_set_ne (Ne.symm (h2 po))];exact(fun j h1 _=>by rw[List.getElem?_set_ne (Ne.symm (h1 rq))]) j h1 h2) (fun q=>by rw[List.getElem?_set_ne (Ne.symm (o4 po))];exact(fun _=>List.getElem?_set_self (I o5)) q) (by rw[qT fK hb,uI]) (by rw[wB]);show bX Tryz.prog _ _ _ ⟨_,_,((O.set id (.cells (gy (b.term.to.map (iq A))))).set oid .gone++[ak.cells (fh (tk ids (L.take i)) (ny f A (L.take i))++([aJ b.params,a7 b.ins,aI b.term.kind,aI b.term.arg,aI b.term.n,aJ b.term.cases,.os id b.term.to.length 2]))]).set X0 (.cells [aI f.name,.os (O.set id (.cells (gy (b.term.to.map (iq A))))).length (i+1) 7])⟩;rw[Iu];generalize ((O.set id (.cells (gy (b.term.to.map (iq A))))).set oid .gone++[ak.cells (fh (tk ids (L.take i)) (ny f A (L.take i))++([aJ b.params,a7 b.ins,aI b.term.kind,aI b.term.arg,aI b.term.n,aJ b.term.cases,.os id b.term.to.length 2]))]).set X0 (.cells [aI f.name,.os O.length (i+1) 7])=O7 at *;refine cM ?_
    repeat(refine⟨by omega,?_⟩)
    refine eZ ?_;refine⟨⟨⟨i+1,O.length,O7⟩,bf,by rw[eo];exact jn⟩,by simp;omega,?_⟩;refine zq rfl ?_ ?_;simp -dsimp only[simprocAttr,↓aa,zp,zc]
    ·exact Sub.int (by simp)
    rfl
   refine aK ?_;simp -dsimp only[bI,ne_eq,Nat.reduceEqDiff,reduceCtorEq];have YY:L.length<=i:=by
    have:=of_decide_eq_false h;omega
   rw[List.take_of_length_le YY]at hP;obtain⟨l1,l2,l3,l4⟩:=hP.aA T9;have mJ:je oid (ny f A L)=.os oid L.length 7:=by
    unfold je;rw[if_neg (by simpa[ny]using T9),km]
   have ik:=hP.out;have tg:=hP.r1;have T5:=I tg;have KW:=hP.x5;rw[mJ]at ik;refine aQ ?_;simp -dsimp only[simprocAttr,↓aa,zp,ik,tg];refine ai ?_;have hlen:(tk ids L).length=(ny f A L).length:=by rw[yX,km]
   have L0:∀(j id:Nat) (c:Block),(tk ids L)[j]?=some id->(ny f A L)[j]?=some c->c.term.to≠[]->∃(k:Nat) (b:Block),L[j]?=some (k:Int)∧f.blocks[k]?=some b∧ids[k]?=some id∧c=tl A b∧b.term.to≠[]:=fun j id c h1 h2 h3=>by
    unfold tk at h1;unfold ny at h2;rw[List.getElem?_map,Option.map_eq_some_iff]at h1 h2;obtain⟨kk,e1,e2⟩:=h1;obtain⟨k2,e3,e4⟩:=h2;rw[e1]at e3;simp only[Option.some.injEq]at e3;subst e3;have B0:=T' kk (List.mem_of_getElem? e1);have FQ:f.blocks[kk.toNat]?=some (f.blocks[kk.toNat]'(by omega)):=List.getElem?_eq_getElem _;have Uf:aF f kk=f.blocks[kk.toNat]'(by omega):=by
     unfold aF;rw[FQ];rfl
    have SF:ids[kk.toNat]?=some id:=by
     rw[List.getElem?_eq_getElem (by rw[hP.li];omega)]at e2 ⊢;exact congrArg some e2
    refine⟨kk.toNat,aF f kk,by rw[e1];congr 1;omega,by rw[Uf];exact FQ,SF,e4.symm,fun q=>h3 ?_⟩;rw[<-e4,iU,q];rfl
   refine Cd (ids:=tk ids L) (bs:=ny f A L) (X:=1) (oid:=oid) (name:=f.name) hlen (by omega) (by rw[km];exact List.getElem?_set_self T5) (by rw[List.getElem?_set_ne (by omega)];exact l4) (fun j id c h1 h2 h3=>?_) (fun i j id c d h1 h2 h3 h4 h5 h6=>?_) fun O1 dH UY=>?_
   ·obtain⟨k,b,q1,q2,q3,q4,q5⟩:=L0 j id c h1 h2 h3;obtain⟨o1,o2,o3,o4,o5⟩:=hP.own k id b q3 q2 q5;rw[if_pos (List.mem_of_getElem? q1)]at o5;exact⟨o4 T9,by omega,by rw[List.getElem?_set_ne (by omega),q4];exact o5⟩
   ·obtain⟨k,b,q1,q2,q3,q4,q5⟩:=L0 i id c h1 h3 h5;obtain⟨k',b',r1,r2,r3,r4,r5⟩:=L0 j id d h2 h4 h6;have gi:=hP.inj k k' id b b' q3 r3 q2 r2 q5 r5;subst gi;have rK:=List.pairwise_iff_getElem.1 UX;have e1:=List.getElem?_eq_some_iff.1 q1;have e2:=List.getElem?_eq_some_iff.1 r1;obtain⟨p1,p2⟩:=e1;obtain⟨p3,p4⟩:=e2;refine Classical.byContradiction fun q=>?_;rcases Nat.lt_or_gt_of_ne q with q|q
    ·exact rK i j p1 p3 q (p2.trans p4.symm)
    exact rK j i p3 p1 q (p4.trans p2.symm)
   refine aq ?_;simp -dsimp only[simprocAttr,↓aa,zp,zr,Tryz.results70,UY];simp[av,ae.upto,ax,Block.ag]
  exact bM.mp rfl rfl
 rw[if_neg hc]at Qe ⊢;obtain⟨e,he⟩:∃e,e=aZ f:=⟨_,rfl⟩
 rw[<-he]at hc Qe ⊢;have j5:decide (e=0)=false:=decide_eq_false hc;refine zf true 0 Tryz.func70 Tryz.ntmps70 ?_;dsimp only[Tmp,TypeId,slotsOf];refine ay (ai ?_);refine aC 1 0 (.ip none [aI f.name,aw f.blocks]) rfl (by simp[ak.aD]) trivial rfl ?_ ?_;rotate_left;simp -dsimp only[simprocAttr,↓aa,zp]
 ·refine ay ?_;refine zi Qe ?_;refine ai ?_;refine c7 ?_;simp -dsimp only[simprocAttr,↓aa,zp,j5];refine ai ?_;refine cB rfl ?_;refine ay (ai ?_);refine aq ?_;simp -dsimp only[simprocAttr,↓aa,zp,zr,Tryz.results70];simp[av,ae.upto]
 exact bM.mp rfl rfl
def qQ(f:Func)(i:Nat):Nat:=(((List.range i).map fun k:Nat=>(k:Int)).filter fun k=>decide (0<=jG f k)).length
theorem Jr(f:Func)(i:Nat):qQ f (i+1)=qQ f i+if 0<=fc f (i:Int)then 1 else 0:=by
 have hp:0<=fc f (i:Int)↔0<=jG f (i:Int):=⟨fun h=>dE.1 ((fp (l:=dh f) (n:=(i:Int))).1.1 h),fun h=>(pos_at h).1⟩
 unfold qQ;rw[List.range_succ,List.map_append,List.filter_append,List.length_append];congr 1;by_cases h:0<=jG f (i:Int)
 ·rw[if_pos (hp.2 h)];simp[h]
 rw[if_neg (fun q=>h (hp.1 q))];simp[h]
theorem Qp{f:Func}(hw:nr f){i:Nat}(h:0<=fc f (i:Int)):fc f (i:Int)=qQ f i:=by
 have hp:=dE.1 ((fp (l:=dh f) (n:=(i:Int))).1.1 h);have hr:=hw.range _ hp;refine rZ hw ?_;rw[vt hw];obtain⟨n,hn⟩:∃n,f.blocks.length=i+1+n:=⟨f.blocks.length-(i+1),by omega⟩
 rw[hn,List.range_add,List.range_succ,List.append_assoc,List.map_append,List.filter_append];unfold qQ;rw[List.getElem?_append_right (Nat.le_refl _),Nat.sub_self,List.map_append,List.filter_append];simp[hp]
def CM(f:Func):ae:=if aZ (ko f)=0 then .cw [(dg f).enc,aI 0]else .cw [.agg [aI 0,.aA 7 [] .sh],aI (aZ (ko f))]
def zB:List ae:=[.aA 1 [] .ex,.aA 4 [] .ex,aI 0,aI 0,aI 0,.aA 1 [] .ex,.aA 2 [] .ex]
def gC(G:List Block)(n c:Nat):List ae:=an ((G.take c).map Block.enc)++(List.replicate (n-c) zB).flatten
theorem kr(l:List Block):∀x∈l.map Block.enc,x.cells.length=7:=fun x hx=>by
 obtain⟨b,_,rfl⟩:=List.mem_map.1 hx;rfl
theorem LG(G:List Block)(n:Nat):(List.replicate n [ae.aA 1 [] .ex,.aA 4 [] .ex,.v (.int .i64 0),.v (.int .i64 0),.v (.int .i64 0),.aA 1 [] .ex,.aA 2 [] .ex]).flatten=gC G n 0:=by
 unfold gC;rfl
theorem Pv{G:List Block}{n c:Nat}(hG:G.length=n)(hc:c<=n):(gC G n c).length=n*7:=by
 unfold gC;have:=bz (kr (G.take c));rw[List.length_map,List.length_take]at this;rw[List.length_append,this,List.length_flatten,List.map_replicate,List.sum_replicate_nat];simp only[zB,List.length_cons,List.length_nil];omega
theorem LD{G:List Block}{n c:Nat}{b:Block}(hG:G.length=n)(h:G[c]?=some b):bh (gC G n c) (c*7) b.enc.cells=gC G n (c+1):=by
 have bf:=I h;have hl:=bz (kr (G.take c));rw[List.length_map,List.length_take]at hl;have Zb:(an ((G.take c).map Block.enc)).length=c*7:=by rw[hl];omega
 have hb:b.enc.cells.length=7:=rfl;have eo:(G.take (c+1)).map Block.enc=(G.take c).map Block.enc++[b.enc]:=by
  rw[List.take_add_one,h];simp
 unfold gC bh;rw[eo,cE,List.take_append_of_le_length (by omega),List.take_of_length_le (by omega),hb,List.drop_append,List.drop_of_length_le (by omega),Zb,show n-c=(n-(c+1))+1 by omega,List.replicate_succ,List.flatten_cons,
  show c*7+7-c*7=7 by omega]
 simp only[List.nil_append];rw[show((zB++(List.replicate (n-(c+1)) zB).flatten).drop 7)=(List.replicate (n-(c+1)) zB).flatten from rfl];simp[an]
theorem LF(G:List Block)(n c m:Nat):av m (gC G n c):=by
 rw[aT];intro x hx;unfold gC at hx;rcases List.mem_append.1 hx with q|q
 ·simp only[an,List.mem_flatMap,List.mem_map]at q;obtain⟨_,⟨b,_,rfl⟩,hx⟩:=q;have:=Block.ag m [b];simp only[List.map_cons,List.map_nil,av,and_true]at this;have h2:av m b.enc.cells:=this;rw[aT]at h2;exact h2 x hx
 obtain⟨l,hl,hx⟩:=List.mem_flatten.1 q;rw[(List.mem_replicate.1 hl).2]at hx;simp only[zB,List.mem_cons,List.not_mem_nil,or_false]at hx;rcases hx with rfl|rfl|rfl|rfl|rfl|rfl|rfl<;>trivial
theorem Ij{z:List ae}{n j r:Nat}(hj:j<n)(hr:r<7)(hz:z.length=7:=by rfl):(List.replicate n z).flatten[j*7+r]?=z[r]?:=by
 induction n generalizing j with
 | zero=>omega
 | succ n ih =>
  rw[List.replicate_succ,List.flatten_cons];cases j with
  | zero=>rw[Nat.zero_mul,Nat.zero_add,List.getElem?_append_left (by omega)]
  | succ j =>
   rw[List.getElem?_append_right (by omega),show(j+1)*7+r-z.length=j*7+r by omega];exact ih (by omega)
theorem KE{g:Func}{inn:List (List Int)}{N:List (List Bool)}(ord:List Int)(n:Nat){C0 A0:List ae}(hC:C0=(List.replicate n [ae.aA 1 [] .ex,.aA 4 [] .ex,.v (.int .i64 0),.v (.int .i64 0),.v (.int .i64 0),.aA 1 [] .ex,.aA 2 [] .ex]).flatten)(hA:A0=(List.replicate n [ae.v (Value.map none)]).flatten) :
  WI ord n 0 (rk g inn N (ord.take 0)) C0 A0:=by
 have hl:C0.length=n*7:=by rw[hC,List.length_flatten,List.map_replicate,List.sum_replicate_nat];rfl
 have hm:∀x∈C0,x∈zB:=fun x hx=>by
  rw[hC]at hx;obtain⟨l,hl,hx⟩:=List.mem_flatten.1 hx;rw[(List.mem_replicate.1 hl).2]at hx;exact hx
 refine⟨hl,fun j hj r hr=>?_,by rw[hA,List.length_flatten,List.map_replicate,List.sum_replicate_nat];simp,fun k hk=>(by simp at hk),fun j _=>rfl,fun k hk=>(by simp at hk),?_,fun d hd=>?_,?_,by show(0:Int)<=0∧(0:Int)<=_;omega⟩
 ·rw[hC,Ij hj hr];rfl
 ·rw[aT];intro x hx;have:=hm x hx;simp only[zB,List.mem_cons,List.not_mem_nil,or_false]at this;rcases this with rfl|rfl|rfl|rfl|rfl|rfl|rfl<;>trivial
 ·have:=hm d hd;simp only[zB,List.mem_cons,List.not_mem_nil,or_false]at this;rcases this with rfl|rfl|rfl|rfl|rfl|rfl|rfl<;>trivial
 rw[aT];intro x hx;rw[hA]at hx;obtain⟨l,hl,hx⟩:=List.mem_flatten.1 hx;rw[(List.mem_replicate.1 hl).2,List.mem_singleton]at hx;subst hx;trivial
theorem CP(f:Func)(bo:f.fit)(dS:tL f):bA Tryz.prog 51 [f.enc] (CM f):=by
 have zI:=wO f dS.few;have wA:=DI (ko f) (za bo);unfold DH at wA;unfold CM;by_cases hc:aZ (ko f)=0
 ·rw[if_pos hc]at wA ⊢;have hW:=Ps bo dS hc;have Q7:=hW.gw.few;have Hb:=pM bo dS hc;have Hd:=vi _ (DC bo dS hc);have qO:=DF _ (DC bo dS hc);unfold yS at Hd;unfold DE at qO;rw[if_pos (Bl bo dS hc)]at Hd qO;obtain⟨n,hn⟩:∃n,n=(nO f).blocks.length:=⟨_,rfl⟩
  rw[<-hn]at hW Q7 Hb;have C7:(bH (ko f)).blocks.length=n:=Hb.symm;obtain⟨sk,AQ⟩:∃sk,sk=ko f:=⟨_,rfl⟩
  rw[<-AQ]at zI wA Hd qO hW C7;obtain⟨s,hs⟩:∃s,s=bH sk:=⟨_,rfl⟩
  rw[<-hs]at wA Hd qO hW C7;refine zf true 0 Tryz.func51 Tryz.ntmps51 ?_;dsimp only[Tmp,TypeId,slotsOf];refine ay (ai ?_);refine aC 1 0 (.ip none [aI f.name,aw f.blocks]) rfl (by simp[ak.aD]) trivial rfl ?_ ?_;rotate_left;simp -dsimp only[simprocAttr,↓aa,zp];rotate_left
  ·exact bM.mp rfl rfl
  refine ay ?_;refine .inl ⟨_,zI,by simp only[av,ae.upto,zt,zu,ax,eI,gU,iL,Block.ag],ao ?_⟩;simp -dsimp only[simprocAttr,↓aa,zp];refine .inl ⟨_,wA,by simp only[av,ae.upto,zt,zu,ax,eI,gU,iL,Block.ag],ao ?_⟩;simp -dsimp only[simprocAttr,↓aa,zp];refine ai ?_;refine bV (ai ?_);apply aN rfl<;>intro h
  ·cases h
  refine cj ?_;refine aC 4 2 (.ip none [aI s.name,aw s.blocks]) rfl (by simp[ak.aD]) trivial rfl ?_ ?_;rotate_left;simp -dsimp only[simprocAttr,↓aa,zp];rotate_left
  ·exact bM.mp rfl rfl
  refine tR 2 ?_;show bX Tryz.prog _ _ _ ⟨_,_,[.gone,.cells [aI 0,.aA 7 [] .ex],.gone,.spare 0,.spare 0]⟩;refine aH (tT hm (vS.Rp ⟨false,false⟩ hT 5 rfl rfl (by simp) ?_));simp -dsimp only[simprocAttr,↓aa,zp,C7];refine vS.op rfl rfl (iI hT (id:=3) rfl (by simp) DW rfl DX rfl rfl (by omega) (by simp;omega) (by omega) (by decide) rfl) ?_;simp -dsimp only[simprocAttr,↓aa,zp];refine vS.Rp ⟨false,false⟩ hT 2 rfl rfl (by simp) ?_;simp -dsimp only[simprocAttr,↓aa,zp];refine vS.op rfl rfl (vY hT (id:=4) rfl (by simp) E4 rfl) ?_;simp -dsimp only[simprocAttr,↓aa,zp];refine vS.Rp ⟨false,false⟩ hT 1 rfl rfl (by simp) ?_;simp -dsimp only[simprocAttr,↓aa,zp];refine vS.fin rfl ⟨ob (by kernel_rfl),?_⟩;refine ai ?_;refine ay (ai ?_);refine bV (ai ?_);obtain⟨G,hG⟩:∃G,G=(nO f).blocks:=⟨_,rfl⟩
  have Q1:G.length=n:=by rw[hG,hn]
  have pP:∀(k:Nat),k<f.blocks.length->(pg sk)[k]?=some (fc sk k):=fun k hk=>by
   unfold pg;rw[List.getElem?_map,List.getElem?_range (by rw[AQ,r9];exact hk)];rfl
  have Rb:nr sk:=by rw[AQ];exact kP (vB bo dS hc)
  have RU:∀(k:Nat) b,f.blocks[k]?=some b->0<=fc sk k->∃c,s.blocks[qQ sk k]?=some c∧G[qQ sk k]?=some (px b c.term.to)∧fc sk k=qQ sk k:=fun k b hb hp=>by
   have h1:=Qp Rb hp;have h2:(dh sk)[qQ sk k]?=some (k:Int):=by
    have:=(fp (l:=dh sk) (n:=(k:Int))).2 hp;rw[show j7 (dh sk) (k:Int)=fc sk k from rfl,h1,Int.toNat_natCast]at this;exact this
   have bf:qQ sk k<s.blocks.length:=by
    have:=I h2;rw[hs,ep];exact this
   refine⟨s.blocks[qQ sk k],List.getElem?_eq_getElem _,?_,h1⟩;rw[hG];unfold nO;rw[<-AQ,<-hs,List.getElem?_map,h2];simp only[Option.map_some,Option.some.injEq];rw[h1];have FQ:aF f (k:Int)=b:=by unfold aF;rw[Int.toNat_natCast,hb];rfl
   have Rg:aF s ((qQ sk k:Nat):Int)=s.blocks[qQ sk k]:=by unfold aF;rw[Int.toNat_natCast,List.getElem?_eq_getElem bf];rfl
   rw[FQ,Rg]
  have Eu:qQ sk 0=0:=rfl;obtain⟨fl,ga⟩:∃fl,fl=f.blocks.length:=⟨_,rfl⟩
  have YP:=dS.few;have hZ0:=LG G n;refine ah (aL (ι:={X:Nat×Int // X.1<=fl∧qQ sk X.1<=n∧0<=X.2∧X.2<=4096∧lZ f=(f.blocks.drop X.1).foldl jd X.2}) (fun X=>⟨172,[(1,.ip none [aI f.name,aw f.blocks]),(2,.mp 1 0),(4,.ip none [aI s.name,aw s.blocks]),(5,aJ (pg sk)),(7,.mp 4 0),(8,aI X.1.2),(41,aw f.blocks),(42,aI fl),(43,aI X.1.1)],[.gone,.cells [aI 0,.aA 7 [] .ex],.gone,.cells (gC G n (qQ sk X.1.1)),.cells [aI f.name,.ms 3 0 n n,.aA 1 [] .ex,.aA 1 [] .ex]]⟩) (fun X=>fl-X.1.1) ⟨(0,0),Nat.zero_le _,by rw[Eu];omega,by decide,by decide,rfl⟩ ?_ ?_)
  ·refine zq rfl ?_ ?_;simp -dsimp only[simprocAttr,↓aa,zp,zc]
   all_goals first|rfl|(rw[ga];exact Sub.refl _)
  rintro⟨⟨k,m⟩,hk,LU,lL,rp,Me⟩;simp only at hk LU lL rp Me;refine ay (ai ?_);apply gJ rfl<;>intro h
  ·refine cj ?_;have C5:k<fl:=by simpa using h
   obtain⟨b,hb⟩:∃b,f.blocks[k]?=some b:=⟨f.blocks[k]'(by omega),List.getElem?_eq_getElem _⟩
   have mg:=List.mem_of_getElem? hb;rw[bK hb,List.foldl_cons]at Me;have ED:=pP k (by omega);have IQ:=Jr sk k;obtain⟨T,yA⟩:∃T,T=if 0<=fc sk k then(aF s (fc sk k)).term.to else b.term.to:=⟨_,rfl⟩
   refine aH (ah ?_);refine aQ ?_;simp -dsimp only[simprocAttr,↓aa,zp,hb];refine ai ?_;refine fY (⟨172,[(1,.ip none [aI f.name,aw f.blocks]),(2,.mp 1 0),(4,.ip none [aI s.name,aw s.blocks]),(5,aJ (pg sk)),(7,.mp 4 0),(8,aI m),(41,aw f.blocks),(42,aI fl),(43,aI k),(10,.mp 5 0)],[.gone,.cells [aI 0,.aA 7 [] .ex],.gone,.cells (gC G n (qQ sk (k+1))),.cells [aI f.name,.ms 3 0 n n,.aA 1 [] .ex,.aA 1 [] .ex],.cells [aJ b.params,a7 b.ins,aI b.term.kind,aI b.term.arg,aI b.term.n,aJ b.term.cases,aG T]]⟩) ?_ ?_
   ·by_cases hp:0<=fc sk k
    ·rw[if_pos hp]at yA IQ;obtain⟨c,lj,KM,W0⟩:=RU k b hb hp;have Tr:=LD Q1 KM;have W1:c.term.to=T:=by
      rw[yA,W0];unfold aF;rw[Int.toNat_natCast,lj];rfl
     rw[W1]at Tr;have hd:decide (0<=fc sk k)=true:=decide_eq_true hp;rw[IQ];have Hc:=I KM;have Vp:=Pv (c:=qQ sk k) Q1 (by omega);rw[W0]at ED hd;refine aQ ?_;simp -dsimp only[simprocAttr,↓aa,zp,ED,hd]
     repeat(refine⟨by omega,?_⟩)
     refine ai ?_;refine cB rfl ?_;have VZ:bh (gC G n (qQ sk k)) (qQ sk k*7) [aJ b.params,a7 b.ins,aI b.term.kind,aI b.term.arg,aI b.term.n,aJ b.term.cases,aG T]=gC G n (qQ sk k+1):=Tr;refine aQ ?_;simp -dsimp only[simprocAttr,↓aa,zp,ED,lj,W1,Int.toNat_natCast,Nat.mul_one]
     repeat(refine⟨by omega,?_⟩)
     refine⟨ob (by kernel_rfl),?_⟩;refine ai ?_;refine eC hT hm ?_;simp -dsimp only[simprocAttr,↓aa,zp,ED,Vp,VZ,Int.toNat_natCast,Nat.mul_one]
     repeat(refine⟨by omega,?_⟩)
     refine⟨ob (by kernel_rfl),?_⟩;refine a6 ?_;show ba _ _;refine zq rfl ?_ ?_;simp -dsimp only[simprocAttr,↓aa,zp,zc]
     all_goals rfl
    have hd:decide (0<=fc sk k)=false:=decide_eq_false hp;rw[if_neg hp]at yA IQ;rw[yA,IQ];refine aQ ?_;simp -dsimp only[simprocAttr,↓aa,zp,ED,hd]
    repeat(refine⟨by omega,?_⟩)
    refine ai ?_;refine cv rfl ?_;refine aX ?_;show ba _ _;refine zq rfl ?_ ?_;simp -dsimp only[simprocAttr,↓aa,zp,zc]
    all_goals rfl
   have Yx:=gx.1 (dS.arg b mg);have Vl:=bo.2.2 b mg;have wz:=Vl.2.1;have Y3:=Vl.2.2.1;have AV:=fun v hv=>gx.1 (dS.DB b mg v hv);have SG:=fun i hi=>tD dS mg (i:=i) hi;have TB:∀o∈([.gone,.cells [aI 0,.aA 7 [] .ex],.gone,.cells (gC G n (qQ sk (k+1))),.cells [aI f.name,.ms 3 0 n n,.aA 1 [] .ex,.aA 1 [] .ex]]:List ak),o.upto 5:=fun o ho=>by
    simp only[List.mem_cons,List.not_mem_nil,or_false]at ho;rcases ho with rfl|rfl|rfl|rfl|rfl
    ·trivial
    ·exact⟨trivial,⟨trivial,trivial⟩,trivial⟩
    ·trivial
    ·exact LF _ _ _ _
    exact⟨trivial,show 3<5 by decide,⟨trivial,trivial⟩,⟨trivial,trivial⟩,trivial⟩
   refine aC 10 5 (.ip none [aJ b.params,a7 b.ins,aI b.term.kind,aI b.term.arg,aI b.term.n,aJ b.term.cases,aG T]) rfl (by simp[ak.aD]) trivial rfl ?_ ?_;rotate_left;simp -dsimp only[simprocAttr,↓aa,zp];rotate_left
   ·exact bM.mp rfl rfl
   refine bp 5 [(1,.ip none [aI f.name,aw f.blocks]),(2,.mp 1 0),(4,.ip none [aI s.name,aw s.blocks]),(5,aJ (pg sk)),(7,.mp 4 0),(8,aI m),(41,aw f.blocks),(42,aI fl),(43,aI k),(10,.ip none [aJ b.params,a7 b.ins,aI b.term.kind,aI b.term.arg,aI b.term.n,aJ b.term.cases,aG T])] (by simp) (by omega) [.gone,.cells [aI 0,.aA 7 [] .ex],.gone,.cells (gC G n (qQ sk (k+1))),.cells [aI f.name,.ms 3 0 n n,.aA 1 [] .ex,.aA 1 [] .ex]] ?_ ?_ ?_ ?_ ?_
   ·rfl
   ·exact TB
   ·simp[eQ,St.get,bw,a8,Go.Av.look,Sub.refl]
   ·simp[ak.upto,av,ae.upto,ax,Func.ag,Block.ag,Edge.ag,Ins.ag]
   have e0:max m (b.term.arg+1)=mR m b.term.arg:=rfl;obtain⟨m0,P3⟩:∃m0,m0=mR m b.term.arg:=⟨_,rfl⟩
   have SW:0<=m0∧m0<=4096:=by rw[P3];unfold mR;omega
   refine aQ ?_;simp -dsimp only[simprocAttr,↓aa,zp,e0,<-P3]
   repeat(refine⟨by omega,?_⟩)
   refine ai ?_;refine bV (ai ?_);unfold jd at Me;rw[<-P3]at Me;obtain⟨m1,AL⟩:∃m1,m1=b.params.foldl mR m0:=⟨_,rfl⟩
   have Zf:0<=m1∧m1<=4096:=by
    have h1:=(tE b.params m0).1;have h2:=EZ (c:=4096) b.params (m:=m0) (by omega) fun v hv=>by have:=AV v hv;omega
    omega
   rw[<-AL]at Me;refine ah (aL (ι:={X:Nat×Int // X.1<=b.params.length∧0<=X.2∧X.2<=4096∧m1=(b.params.drop X.1).foldl mR X.2}) (fun X=>⟨172,[(1,.ip none [aI f.name,aw f.blocks]),(2,.mp 1 0),(4,.ip none [aI s.name,aw s.blocks]),(5,aJ (pg sk)),(7,.mp 4 0),(8,aI X.1.2),(41,aw f.blocks),(42,aI fl),(43,aI k),(10,.ip none [aJ b.params,a7 b.ins,aI b.term.kind,aI b.term.arg,aI b.term.n,aJ b.term.cases,aG T]),(81,aJ b.params),(82,aI b.params.length),(83,aI X.1.1)],[.gone,.cells [aI 0,.aA 7 [] .ex],.gone,.cells (gC G n (qQ sk (k+1))),.cells [aI f.name,.ms 3 0 n n,.aA 1 [] .ex,.aA 1 [] .ex]]⟩) (fun X=>b.params.length-X.1.1) ⟨(0,m0),Nat.zero_le _,SW.1,SW.2,AL⟩ ?_ ?_)
   ·refine zq rfl ?_ ?_;simp -dsimp only[simprocAttr,↓aa,zp,zc]
    all_goals rfl
   rintro⟨⟨z,p⟩,hz,F6,C9,IV⟩;simp only at hz F6 C9 IV;refine ay (ai ?_);apply gJ rfl<;>intro h
   ·refine cj ?_;have vQ:z<b.params.length:=by simpa using h
    obtain⟨v,hv⟩:∃v,b.params[z]?=some v:=⟨b.params[z],by simp[vQ]⟩
    have ZA:=AV v (List.mem_of_getElem? hv);rw[bK hv,List.foldl_cons]at IV;have e1:max p (v+1)=mR p v:=rfl;have hq:0<=mR p v∧mR p v<=4096:=by unfold mR;omega
    refine aH (ah ?_);refine aQ ?_;simp -dsimp only[simprocAttr,↓aa,zp,hv];refine ai ?_;refine jX ?_;simp -dsimp only[simprocAttr,↓aa,zp,e1]
    repeat(refine⟨by omega,?_⟩)
    refine ai ?_;refine cM ?_
    repeat(refine⟨by omega,?_⟩)
    refine eZ ?_;refine⟨⟨(z+1,mR p v),vQ,hq.1,hq.2,IV⟩,by simp;omega,?_⟩;refine zq rfl ?_ ?_;simp -dsimp only[simprocAttr,↓aa,zp,zc]
    ·exact Sub.int (by simp)
    rfl
   refine aK ?_;simp -dsimp only[bI,ne_eq,Nat.reduceEqDiff,reduceCtorEq];have Gb:b.params.length<=z:=by simpa using h
   rw[List.drop_of_length_le Gb,List.foldl_nil]at IV;subst IV;refine ay (ai ?_);obtain⟨m2,SX⟩:∃m2,m2=b.ins.foldl kN m1:=⟨_,rfl⟩
   rw[<-SX]at Me;refine ah (aL (ι:={X:Nat×Int // X.1<=b.ins.length∧0<=X.2∧X.2<=4096∧m2=(b.ins.drop X.1).foldl kN X.2}) (fun X=>⟨172,[(1,.ip none [aI f.name,aw f.blocks]),(2,.mp 1 0),(4,.ip none [aI s.name,aw s.blocks]),(5,aJ (pg sk)),(7,.mp 4 0),(8,aI X.1.2),(41,aw f.blocks),(42,aI fl),(43,aI k),(93,a7 b.ins),(94,aI b.ins.length),(95,aI X.1.1)],[.gone,.cells [aI 0,.aA 7 [] .ex],.gone,.cells (gC G n (qQ sk (k+1))),.cells [aI f.name,.ms 3 0 n n,.aA 1 [] .ex,.aA 1 [] .ex]]⟩) (fun X=>b.ins.length-X.1.1) ⟨(0,m1),Nat.zero_le _,F6,C9,SX⟩ ?_ ?_)
   ·refine zq rfl ?_ ?_;simp -dsimp only[simprocAttr,↓aa,zp,zc]
    all_goals rfl
   rintro⟨⟨w,q⟩,wE,XC,Td,Re⟩;simp only at wE XC Td Re;refine ay (ai ?_);apply gJ rfl<;>intro h
   ·refine cj ?_;have IL:w<b.ins.length:=by simpa using h
    obtain⟨i,hi⟩:∃i,b.ins[w]?=some i:=⟨b.ins[w],by simp[IL]⟩
    obtain⟨PW,KQ,YW,_⟩:=SG i (List.mem_of_getElem? hi);rw[bK hi,List.foldl_cons]at Re;have e2:max q (i.to+1)=mR q i.to:=rfl;obtain⟨q1,Qc⟩:∃q1,q1=mR q i.to:=⟨_,rfl⟩
    have Te:0<=q1∧q1<=4096:=by rw[Qc];unfold mR;omega
    have Zs:kN q i=i.args.foldl mR q1:=by rw[Qc];rfl
    obtain⟨q2,Tf⟩:∃q2,q2=i.args.foldl mR q1:=⟨_,rfl⟩
    rw[Zs,<-Tf]at Re;refine aH (ah ?_);refine aQ ?_;simp -dsimp only[simprocAttr,↓aa,zp,hi];refine ai ?_;refine aC 14 5 (.ip none [aI i.to,aI i.op,aI i.n,aJ i.args]) rfl (by simp[ak.aD]) trivial rfl ?_ ?_;rotate_left;simp -dsimp only[simprocAttr,↓aa,zp];rotate_left
    ·exact bM.mp rfl rfl
    refine bp 5 [(1,.ip none [aI f.name,aw f.blocks]),(2,.mp 1 0),(4,.ip none [aI s.name,aw s.blocks]),(5,aJ (pg sk)),(7,.mp 4 0),(8,aI q),(41,aw f.blocks),(42,aI fl),(43,aI k),(93,a7 b.ins),(94,aI b.ins.length),(95,aI w),(14,.ip none [aI i.to,aI i.op,aI i.n,aJ i.args])] (by simp) (by omega) [.gone,.cells [aI 0,.aA 7 [] .ex],.gone,.cells (gC G n (qQ sk (k+1))),.cells [aI f.name,.ms 3 0 n n,.aA 1 [] .ex,.aA 1 [] .ex]] ?_ ?_ ?_ ?_ ?_
    ·rfl
    ·exact TB
    ·simp[eQ,St.get,bw,a8,Go.Av.look,Sub.refl]
    ·simp[ak.upto,av,ae.upto,ax,Func.ag,Block.ag,Edge.ag,Ins.ag]
    refine aQ ?_;simp -dsimp only[simprocAttr,↓aa,zp,e2,<-Qc]
    repeat(refine⟨by omega,?_⟩)
    refine ai ?_;refine ay (ai ?_);refine ah (aL (ι:={X:Nat×Int // X.1<=i.args.length∧0<=X.2∧X.2<=4096∧q2=(i.args.drop X.1).foldl mR X.2}) (fun X=>⟨172,[(1,.ip none [aI f.name,aw f.blocks]),(2,.mp 1 0),(4,.ip none [aI s.name,aw s.blocks]),(5,aJ (pg sk)),(7,.mp 4 0),(8,aI X.1.2),(41,aw f.blocks),(42,aI fl),(43,aI k),(93,a7 b.ins),(94,aI b.ins.length),(95,aI w),(105,aJ i.args),(106,aI i.args.length),(107,aI X.1.1)],[.gone,.cells [aI 0,.aA 7 [] .ex],.gone,.cells (gC G n (qQ sk (k+1))),.cells [aI f.name,.ms 3 0 n n,.aA 1 [] .ex,.aA 1 [] .ex]]⟩) (fun X=>i.args.length-X.1.1) ⟨(0,q1),Nat.zero_le _,Te.1,Te.2,Tf⟩ ?_ ?_)
    ·refine zq rfl ?_ ?_;simp -dsimp only[simprocAttr,↓aa,zp,zc]
     all_goals rfl
    rintro⟨⟨y,r⟩,hy,OA,tg,Th⟩;simp only at hy OA tg Th;refine ay (ai ?_);apply gJ rfl<;>intro h
    ·refine cj ?_;have SU:y<i.args.length:=by simpa using h
     obtain⟨v,hv⟩:∃v,i.args[y]?=some v:=⟨i.args[y],by simp[SU]⟩
     have ZA:=KQ v (List.mem_of_getElem? hv);rw[bK hv,List.foldl_cons]at Th;have e1:max r (v+1)=mR r v:=rfl;have hq:0<=mR r v∧mR r v<=4096:=by unfold mR;omega
     refine aH (ah ?_);refine aQ ?_;simp -dsimp only[simprocAttr,↓aa,zp,hv];refine ai ?_;refine jX ?_;simp -dsimp only[simprocAttr,↓aa,zp,e1]
     repeat(refine⟨by omega,?_⟩)
     refine ai ?_;refine cM ?_
     repeat(refine⟨by omega,?_⟩)
     refine eZ ?_;refine⟨⟨(y+1,mR r v),SU,hq.1,hq.2,Th⟩,by simp;omega,?_⟩;refine zq rfl ?_ ?_;simp -dsimp only[simprocAttr,↓aa,zp,zc]
     ·exact Sub.int (by simp)
     rfl
    refine aK ?_;simp -dsimp only[bI,ne_eq,Nat.reduceEqDiff,reduceCtorEq];have V7:i.args.length<=y:=by simpa using h
    rw[List.drop_of_length_le V7,List.foldl_nil]at Th;subst Th;refine cM ?_
    repeat(refine⟨by omega,?_⟩)
    refine eZ ?_;refine⟨⟨(w+1,q2),IL,OA,tg,Re⟩,by simp;omega,?_⟩;refine zq rfl ?_ ?_;simp -dsimp only[simprocAttr,↓aa,zp,zc]
    ·exact Sub.int (by simp)
    rfl
   refine aK ?_;simp -dsimp only[bI,ne_eq,Nat.reduceEqDiff,reduceCtorEq];have OK:b.ins.length<=w:=by simpa using h
   rw[List.drop_of_length_le OK,List.foldl_nil]at Re;subst Re;refine cM ?_
   repeat(refine⟨by omega,?_⟩)
   refine eZ ?_;have VJ:qQ sk (k+1)<=n:=by
    rw[IQ];split
    ·rename_i hp;obtain⟨c,lj,_⟩:=RU k b hb hp;have:=I lj;omega
    omega
   refine⟨⟨(k+1,m2),C5,VJ,XC,Td,Me⟩,by simp;omega,?_⟩;refine zq rfl ?_ ?_;simp -dsimp only[simprocAttr,↓aa,zp,zc]
   ·exact Sub.int (by simp)
   rfl
  refine aK ?_;simp -dsimp only[bI,ne_eq,Nat.reduceEqDiff,reduceCtorEq];have gi:fl<=k:=by simpa using h
  rw[List.drop_of_length_le (by omega),List.foldl_nil]at Me;subst Me;have Mh:qQ sk k=n:=by
   have h1:=vt Rb;have h2:(dh sk).length=n:=by rw[<-ep,<-hs,C7]
   have h3:sk.blocks.length=fl:=by rw[AQ,r9,ga]
   have h4:k=fl:=by omega
   rw[h1,h3]at h2;rw[h4];exact h2
  rw[Mh];have Xi:gC G n n=an (G.map Block.enc):=by
   unfold gC;rw[List.take_of_length_le (by omega),Nat.sub_self];simp
  rw[Xi];refine gS 3 (o:=.cells (an (G.map Block.enc))) rfl (by simp[ak.aD]) trivial _ (fun s z hz=>⟨z,hz,.refl z⟩) 4 (by omega) _ [aI f.name,aw G,.aA 1 [] .ex,.aA 1 [] .ex] rfl rfl (fun d hd=>?_) (fun j c d hc hd=>?_) ?_
  ·simp only[List.mem_cons,List.not_mem_nil,or_false]at hd;rcases hd with rfl|rfl|rfl|rfl<;>trivial
  ·match j,hc,hd with
   | 0,hc,hd | 2,hc,hd | 3,hc,hd=>exact(Option.some.inj (hc.symm.trans hd)) ▸ bM.refl _
   | 1,hc,hd =>
    simp only[List.getElem?_cons_succ,List.getElem?_cons_zero,Option.some.injEq]at hc hd;subst hc;subst hd;refine bM.ms rfl (kr G) (by rw[List.length_map,Q1]) ?_;rw[List.drop_zero,List.take_of_length_le (by rw[bz (kr G),List.length_map,Q1];omega)];exact mn G
   | j+4,hc,hd=>simp at hc
  simp -dsimp only[simprocAttr,↓aa,zp];refine ay ?_;refine .inl ⟨_,Hd,by simp only[av,ae.upto,zt,zu,ax,eI,gU,iL,Block.ag],ao ?_⟩;simp -dsimp only[simprocAttr,↓aa,zp];refine ai ?_;refine ay ?_;refine .inl ⟨_,qO,by simp only[av,ae.upto,zt,zu,ax,eI,gU,iL,Block.ag],ao ?_⟩;simp -dsimp only[simprocAttr,↓aa,zp];refine ai ?_;refine aC 7 4 (.ip none [aI f.name,aw G,aJ (bO s),.aA 1 ((fU s).map aJ) .sh]) rfl (by simp[ak.aD]) trivial rfl ?_ ?_;rotate_left;simp -dsimp only[simprocAttr,↓aa,zp];rotate_left
  ·exact bM.mp rfl rfl
  have hmf:=xH dS;obtain⟨my,KU⟩:∃my:Nat,lZ f=(my:Int):=⟨(lZ f).toNat,by omega⟩
  rw[KU,Int.toNat_natCast]at hW;have tz:=Be (nO f) (bO s) (fU s) my hW.gw (fun k hk=>by rw[hW.len];exact hW.Qq k hk) hW.few (by rw[hW.Mw];omega);have Yj:vg (nO f) my (bO s)=j0 f:=by
   unfold j0;rw[KU,Int.toNat_natCast,<-AQ,<-hs]
  rw[Yj,<-hG,show(nO f).name=f.name from rfl]at tz;rw[KU];refine tR 2 ?_;show bX Tryz.prog _ _ _ ⟨_,_,[.gone,.cells [aI 0,.aA 7 [] .ex],.gone,.gone,.gone,.spare 0,.spare 0]⟩;refine aH (tT hm (vS.Rp ⟨false,false⟩ hT 9 rfl rfl (by simp) ?_));simp -dsimp only[simprocAttr,↓aa,zp];refine .inl ⟨_,tz,by simp only[av,ae.upto,zt,zu,ax,eI,gU,iL,Block.ag],ao ?_⟩;simp -dsimp only[simprocAttr,↓aa,zp,C7];refine vS.op rfl rfl (iI hT (id:=5) rfl (by simp) DW rfl DX rfl rfl (by omega) (by simp;omega) (by omega) (by decide) rfl) ?_;simp -dsimp only[simprocAttr,↓aa,zp];refine vS.Rp ⟨false,false⟩ hT 4 rfl rfl (by simp) ?_;simp -dsimp only[simprocAttr,↓aa,zp,C7];refine vS.op rfl rfl (iI hT (id:=6) rfl (by simp) E5 rfl E7 rfl rfl (by omega) (by simp;omega) (by omega) (by decide) rfl) ?_;simp -dsimp only[simprocAttr,↓aa,zp];refine vS.Rp ⟨false,false⟩ hT 3 rfl rfl (by simp) ?_;simp -dsimp only[simprocAttr,↓aa,zp];refine vS.fin rfl ⟨ob (by kernel_rfl),?_⟩;refine ai ?_;refine bV (ai ?_);have nt:nO f=⟨f.name,G⟩:=by rw[hG];rfl
  obtain⟨g,hg⟩:∃g,g=nO f:=⟨_,rfl⟩
  have Xh:g.name=f.name:=by rw[hg];rfl
  have Xg:g.blocks=G:=by rw[hg,hG]
  obtain⟨ord,Mj⟩:∃ord,ord=bO s:=⟨_,rfl⟩
  obtain⟨inn,PY⟩:∃inn,inn=fU s:=⟨_,rfl⟩
  obtain⟨N,hN⟩:∃N,N=j0 f:=⟨_,rfl⟩
  rw[<-hg,<-Mj,<-PY,<-hN]at hW;rw[<-Mj,<-PY,<-hN];have cr:∀j<n,(j:Int)∈ord:=fun j hj=>by
   rw[Mj,hs,AQ];exact Pp bo dS hc (by rw[<-hn];exact hj)
  obtain⟨C0,WG⟩:∃C0,C0=(List.replicate n [ae.aA 1 [] .ex,.aA 4 [] .ex,.v (.int .i64 0),.v (.int .i64 0),.v (.int .i64 0),.aA 1 [] .ex,.aA 2 [] .ex]).flatten:=⟨_,rfl⟩
  obtain⟨A0,T8⟩:∃A0,A0=(List.replicate n [ae.v (Value.map none)]).flatten:=⟨_,rfl⟩
  rw[<-WG,<-T8];have Yf:WI ord n 0 (rk g inn N (ord.take 0)) C0 A0:=KE ord n WG T8;have F5:=hW.few;have Zk:(rk g inn N (ord.take 0)).nx=0:=rfl;refine ah (aL (ι:={X:Nat×List ae×List ae // X.1<=ord.length∧WI ord n X.1 (rk g inn N (ord.take X.1)) X.2.1 X.2.2}) (fun X=>⟨172,[(1,.ip none [aI f.name,aw f.blocks]),(2,.mp 1 0),(4,.ip none [aI s.name,aw s.blocks]),(17,.mp 7 0),(148,aJ ord),(149,aI ord.length),(150,aI X.1.1)],mC g ord inn N (rk g inn N (ord.take X.1.1)).nx n X.1.2.1 X.1.2.2⟩) (fun X=>ord.length-X.1.1) ⟨(0,C0,A0),Nat.zero_le _,Yf⟩ ?_ ?_)
  ·unfold mC wC;rw[Xh,Xg];refine zq rfl ?_ ?_;simp -dsimp only[simprocAttr,↓aa,zp,zc]
   all_goals rfl
  rintro⟨⟨i,C,A⟩,hi,hI⟩;simp only at hi hI;refine ay (ai ?_);apply gJ rfl<;>intro h
  ·refine cj ?_;have SP:i<ord.length:=by simpa using h
   obtain⟨kz,Up⟩:∃kz,ord[i]?=some kz:=⟨ord[i],by simp[SP]⟩
   have B0:=hW.Qq kz (List.mem_of_getElem? Up);obtain⟨kn,rfl⟩:∃kn:Nat,kz=(kn:Int):=⟨kz.toNat,by omega⟩
   have dr:=D6 hW hI Up;have bF:rk g inn N (ord.take (i+1))=lu g inn N kn (rk g inn N (ord.take i)):=by
    rw[List.take_add_one,Up];unfold rk;rw[List.foldl_append];rfl
   refine aH (ah ?_);refine aQ ?_;simp -dsimp only[simprocAttr,↓aa,zp,Up];refine ai ?_;refine jJ ⟨false,false⟩ hT 2 rfl rfl rfl (by simp) ?_;simp -dsimp only[simprocAttr,↓aa,zp];refine⟨_,lh rfl (by simp) rfl rfl dr,fun r O' hR=>?_⟩;obtain⟨hr,C',A',WM,hO⟩:=hR;subst hr;subst hO;rw[<-bF]at WM ⊢;refine ai ?_;refine cM ?_
   repeat(refine⟨by omega,?_⟩)
   refine eZ ?_;refine⟨⟨(i+1,C',A'),SP,WM⟩,by simp;omega,?_⟩;refine zq rfl ?_ ?_;simp -dsimp only[simprocAttr,↓aa,zp,zc]
   ·exact Sub.int (by simp)
   rfl
  refine aK ?_;simp -dsimp only[bI,ne_eq,Nat.reduceEqDiff,reduceCtorEq];have Ul:ord.length<=i:=by simpa using h
  rw[List.take_of_length_le Ul]at hI ⊢;have WH:=hI.done (g:=g) (inn:=inn) (N:=N) fun j hj=>by
   rw[List.take_of_length_le Ul];exact cr j hj
  obtain⟨S,hS⟩:∃S,S=rk g inn N ord:=⟨_,rfl⟩
  rw[<-hS]at WH ⊢;refine c7 ?_;simp -dsimp only[simprocAttr,↓aa,zp,C7];refine ai ?_;refine ah (aL (ι:={X:Nat×List ae // X.1<=n∧WE g inn N n X.1 S X.2 A}) (fun X=>⟨172,[(1,.ip none [aI f.name,aw f.blocks]),(2,.mp 1 0),(17,.mp 7 0),(160,aI n),(161,aI X.1.1)],mC g ord inn N S.nx n X.1.2 A⟩) (fun X=>n-X.1.1) ⟨(0,C),Nat.zero_le _,WH⟩ ?_ ?_)
  ·refine zq rfl ?_ ?_;simp -dsimp only[simprocAttr,↓aa,zp,zc]
   all_goals rfl
  rintro⟨⟨j,C'⟩,hj,hE⟩;simp only at hj hE;refine ay (ai ?_);apply gJ rfl<;>intro h
  ·refine cj ?_;have xr:j<n:=by simpa using h
   have dr:=D7 hW hE xr;refine aH (ah ?_);refine ay (ai ?_);refine jJ ⟨false,false⟩ hT 2 rfl rfl rfl (by simp) ?_;simp -dsimp only[simprocAttr,↓aa,zp];refine⟨_,lh rfl (by simp) rfl rfl dr,fun r O' hR=>?_⟩;obtain⟨hr,XW,X',hO⟩:=hR;subst hr;subst hO;refine ai ?_;refine cM ?_
   repeat(refine⟨by omega,?_⟩)
   refine eZ ?_;refine⟨⟨(j+1,XW),xr,X'⟩,by simp;omega,?_⟩;refine zq rfl ?_ ?_;simp -dsimp only[simprocAttr,↓aa,zp,zc]
   ·exact Sub.int (by simp)
   rfl
  refine aK ?_;simp -dsimp only[bI,ne_eq,Nat.reduceEqDiff,reduceCtorEq];have rL:j=n:=by have:=of_decide_eq_false h;omega
  subst rL;have ij:=hE.cells;obtain⟨OB,UZ⟩:∃OB,OB=(List.range j).map (rY g inn N S):=⟨_,rfl⟩
  rw[<-UZ]at ij;have RY:OB.length=j:=by rw[UZ,List.length_map,List.length_range]
  subst ij;unfold mC wC;refine gS 5 (o:=.cells (an (OB.map Block.enc))) rfl (by simp[ak.aD]) trivial _ (fun s z hz=>⟨z,hz,.refl z⟩) 7 (by omega) _ [aI g.name,aw g.blocks,aJ ord,.aA 1 (inn.map aJ) .sh,.aA 1 (N.map eG) .sh,aI S.nx,aI g.name,aw OB,.ms 6 0 j j] rfl rfl (fun d hd=>?_) (fun j c d hc hd=>?_) ?_
  ·simp only[List.mem_cons,List.not_mem_nil,or_false]at hd;rcases hd with rfl|rfl|rfl|rfl|rfl|rfl|rfl|rfl|rfl<;>trivial
  ·match j,hc,hd with
   | 0,hc,hd | 1,hc,hd | 2,hc,hd | 3,hc,hd | 4,hc,hd | 5,hc,hd | 6,hc,hd | 8,hc,hd=>exact(Option.some.inj (hc.symm.trans hd)) ▸ bM.refl _
   | 7,hc,hd =>
    simp only[List.getElem?_cons_succ,List.getElem?_cons_zero,Option.some.injEq]at hc hd;subst hc;subst hd;refine bM.ms rfl (kr OB) (by rw[List.length_map,RY]) ?_;rw[List.drop_zero,List.take_of_length_le (by rw[bz (kr OB),List.length_map,RY];omega)];exact mn OB
   | j+9,hc,hd=>simp at hc
  simp -dsimp only[simprocAttr,↓aa,zp];refine ay (ai ?_);have Yd:dg f=⟨f.name,OB⟩:=by
   unfold dg lA;rw[<-AQ,<-hs,<-hg,<-Mj,<-PY,<-hN,<-hS,Xg,Q1,<-UZ]
  rw[Yd,Xh];refine aq ?_;simp -dsimp only[simprocAttr,↓aa,zp,zr,Tryz.results51];exact⟨⟨⟨trivial,⟨Block.ag _ _,trivial⟩,trivial⟩,trivial,trivial⟩,rfl⟩
 rw[if_neg hc]at wA ⊢;have Vd:decide (aZ (ko f)=0)=false:=decide_eq_false hc;refine zf true 0 Tryz.func51 Tryz.ntmps51 ?_;dsimp only[Tmp,TypeId,slotsOf];refine ay (ai ?_);refine aC 1 0 (.ip none [aI f.name,aw f.blocks]) rfl (by simp[ak.aD]) trivial rfl ?_ ?_;rotate_left;simp -dsimp only[simprocAttr,↓aa,zp];rotate_left
 ·exact bM.mp rfl rfl
 refine ay ?_;refine .inl ⟨_,zI,by simp only[av,ae.upto,zt,zu,ax,eI,gU,iL,Block.ag],ao ?_⟩;simp -dsimp only[simprocAttr,↓aa,zp];refine .inl ⟨_,wA,by simp only[av,ae.upto,zt,zu,ax,eI,gU,iL,Block.ag],ao ?_⟩;simp -dsimp only[simprocAttr,↓aa,zp];refine ai ?_;refine c7 ?_;simp -dsimp only[simprocAttr,↓aa,zp,Vd];refine ai ?_;refine cB rfl ?_;refine ay (ai ?_);refine aq ?_;simp -dsimp only[simprocAttr,↓aa,zp,zr,Tryz.results51];exact⟨⟨trivial,⟨trivial,trivial⟩,trivial⟩,trivial,trivial⟩
end Go.Proofs.YtjdnhamngpafmaaGreat
namespace Go.Proofs.YtjdnhamngpafmaaGreat
open Go.Av
def EF(E:Env):Prop:=∀v x,E v=some x->ca x
theorem EF.get{E:Env}(h:EF E)(v:Int):ca (lC E v):=by
 unfold lC;cases hE:E v with
 | none=>unfold ca;simp
 | some x=>exact h v x hE
theorem EF.none:EF rU:=fun v x h=>by cases h
theorem EF.up{E:Env}(h:EF E)(v:Int){x:Int}(hx:ca x):EF (wQ E v x):=fun w y hy=>by
 unfold wQ at hy;split at hy
 ·rw[Option.some.injEq]at hy;rw[<-hy];exact hx
 exact h w y hy
theorem EF.T3:∀(l:List Int) {E:Env} {nx:Int},EF E->0<=nx->nx+l.length<=2 ^ 40->EF (gj E nx l)
 | [],_,_,h,_,_=>h
 | a::r,E,nx,h,h0,h1=>by
  rw[List.length_cons]at h1;rw[gj];exact EF.T3 r (h.up a (by unfold ca;omega)) (by omega) (by omega)
theorem FV{l:List Int}(h:iv l):ca (l.headD 0):=by
 cases l with
 | nil=>unfold ca;simp
 | cons a r=>exact h a List.mem_cons_self
theorem va:∀(l:List Ins) {E:Env} {nx:Int},EF E->0<=nx->nx+l.length<=2 ^ 40->(∀i∈l,i.fit)->EF (il E nx l).1∧(il E nx l).2.2.length<=l.length∧∀i∈(il E nx l).2.2,i.fit∧i.op≠100
 | [],_,_,h,_,_,_=>⟨h,Nat.le_refl _,fun i hi=>by cases hi⟩
 | i::r,E,nx,h,h0,h1,hl=>by
  rw[List.length_cons]at h1;have hi:=hl i List.mem_cons_self;have hr:=fun x hx=>hl x (List.mem_cons_of_mem i hx);have A2:iv (i.args.map (lC E)):=fun x hx=>by
   obtain⟨a,_,rfl⟩:=List.mem_map.1 hx;exact h.get a
  rw[il];split
  ·obtain⟨q1,q2,q3⟩:=va r (h.up i.to (FV A2)) h0 (by omega) hr;exact⟨q1,by rw[List.length_cons];omega,q3⟩
  rename_i cq;have hx:ca nx:=by unfold ca;omega
  obtain⟨q1,q2,q3⟩:=va r (h.up i.to hx) (by omega:0<=nx+1) (by omega) hr;refine⟨q1,by simp only[List.length_cons];omega,fun j hj=>?_⟩;rcases List.mem_cons.1 hj with e|e
  ·subst e;exact⟨⟨hx,hi.2.1,hi.2.2.1,A2,by rw[List.length_map];exact hi.2.2.2.2⟩,cq⟩
  exact q3 j e
structure XV(b:Block):Prop where
 par:iv b.params
 Wg:b.params.length<=8192
 V9:b.ins.length<=16384
 ins:∀i∈b.ins,i.fit∧i.op≠100
 kind:ca b.term.kind
 arg:ca b.term.arg
 n:ca b.term.n
 cases:iv b.term.cases
 UH:b.term.cases.length<=2 ^ 47
structure Rz(S:Ws)(i:Nat):Prop where
 nx:0<=S.nx∧S.nx<=i*20000
 ee:∀j,EF (S.EE j)
 b:∀j b,S.B j=some b->XV b
theorem uz{n:Int}{k:Nat}(h0:0<=n)(h1:n+k<=2 ^ 40):iv (eW n k):=fun x hx=>by
 unfold eW at hx;obtain⟨i,hi,rfl⟩:=List.mem_map.1 hx;have:=List.mem_range.1 hi;unfold ca;omega
section
variable {g:Func} {ord:List Int} {inn:List (List Int)} {N:List (List Bool)} {many n:Nat}
theorem KD(h:Hj g ord inn N many n){k:Nat}(hk:k<n){S:Ws}{i:Nat}(hS:Rz S i)(hi:i<=128) :
  EF (iW g inn N k S).E∧iv (iW g inn N k S).ps∧(iW g inn N k S).ps.length<=8192∧∀j∈(iW g inn N k S).is,j.fit∧j.op≠100:=by
 obtain⟨h1,h2,h3,h4,h5⟩:=h.row hk;have hm:=h.gw.N9;have Mh:=hS.nx;have e1:=gn (N.getD k []) 0;have e2:=List.countP_le_length (p:=id) (l:=N.getD k []);unfold iW;split
 ·rename_i e;subst e;have hz:=zE (gj rU S.nx (aF g 0).params) (N.getD 0 []) (N.getD 0 []).length;have hp:=(h.gw.DB _ (List.mem_of_getElem? h5)).1;have Oy:(aF g 0).params.length<=4096:=hp;refine⟨EF.T3 _ (EF.T3 _ EF.none (by omega) (by omega)) (by omega) (by omega),uz (by omega) (by omega),by rw[jN];omega,fun j hj=>?_⟩;obtain⟨x,hx,rfl⟩:=List.mem_map.1 hj;have:=uz (n:=S.nx+(aF g 0).params.length) (k:=(sf (gj rU S.nx (aF g 0).params) (N.getD 0 []) (N.getD 0 []).length).length) (by omega) (by omega) x hx;exact⟨⟨this,by unfold ca sI;simp,by unfold ca sI;simp,fun y hy=>(by simp[sI]at hy),by simp[sI]⟩,by simp[sI]⟩
 split
 ·exact⟨hS.ee _,fun x hx=>(by simp at hx),by simp,fun j hj=>(by simp at hj)⟩
 exact⟨EF.T3 _ EF.none (by omega) (by omega),uz (by omega) (by omega),by rw[jN];omega,fun j hj=>(by simp at hj)⟩
theorem G0(h:Hj g ord inn N many n)(hg:∀b∈g.blocks,b.fit){k:Nat}(hk:k<n){S:Ws}{i:Nat}(hS:Rz S i)(hi:i<128):Rz (lu g inn N k S) (i+1):=by
 obtain⟨h1,h2,h3,h4,h5⟩:=h.row hk;obtain⟨w1,w2,w3,w4⟩:=KD h hk hS (by omega);obtain⟨c1,c2,c3⟩:=qe h hk S;have mg:=List.mem_of_getElem? h5;have Xj:=(h.gw.ins _ mg).1;obtain⟨b1,b2,b3,b4,t1,t2,t3,t4,t5,t6,t7⟩:=hg _ mg;have Mh:=hS.nx;have xq:=tB (aF g k).ins (iW g inn N k S).E (iW g inn N k S).nx;obtain⟨q1,q2,q3⟩:=va (aF g k).ins w1 (nx:=(iW g inn N k S).nx) (by omega) (by omega) b4;refine⟨?_,fun j=>?_,fun j b hb=>?_⟩
 ·show 0<=(il _ _ _).2.1∧(il _ _ _).2.1<=_;omega
 ·unfold lu;simp only;split
  ·exact q1
  exact hS.ee j
 unfold lu at hb;simp only at hb;split at hb
 ·rw[Option.some.injEq]at hb;subst hb;refine⟨w2,w3,by simp only[List.length_append];omega,fun j hj=>?_,t1,?_,t3,t4,t5⟩
  ·rcases List.mem_append.1 hj with e|e
   ·exact w4 j e
   exact q3 j e
  show ca (zQ _ _);unfold zQ;split
  ·exact q1.get _
  unfold ca;simp
 exact hS.b j b hb
theorem BR(h:Hj g ord inn N many n)(hg:∀b∈g.blocks,b.fit):∀(i:Nat),i<=ord.length->Rz (rk g inn N (ord.take i)) i
 | 0,_=>⟨by show(0:Int)<=0∧(0:Int)<=_;omega,fun j=>EF.none,fun j b hb=>by cases hb⟩
 | i+1,hi=>by
  have ih:=BR h hg i (by omega);have hk:ord[i]?=some (ord[i]'(by omega)):=List.getElem?_eq_getElem _;have hr:=h.Qq _ (List.mem_of_getElem? hk);have bF:rk g inn N (ord.take (i+1))=lu g inn N (ord[i]'(by omega)).toNat (rk g inn N (ord.take i)):=by
   rw[List.take_add_one,hk];unfold rk;rw[List.foldl_append];rfl
  rw[bF];have:=h.few;exact G0 h hg (by omega) ih (by omega)
end
section
variable {f:Func} (bo:f.fit) (hm:tL f) (hc:aZ (ko f)=0)
include bo hm hc
theorem LH:∀b∈(nO f).blocks,b.fit:=fun b hb=>by
 obtain⟨j,hj⟩:=List.mem_iff_getElem?.1 hb;have FY:=I hj;obtain⟨k,c,_,h2,rfl⟩:=xj bo hm hc hj;rw[pM bo hm hc]at FY;obtain⟨b1,b2,b3,b4,t1,t2,t3,t4,t5,t6,t7⟩:=bo.2.2 _ (List.mem_of_getElem? h2);obtain⟨e1,e2⟩:=Bm bo hm hc FY;have hf:=(RO bo hm hc).few;refine⟨b1,b2,b3,b4,t1,t2,t3,t4,t5,Nat.le_trans e1 (by decide),fun e he=>?_⟩;obtain⟨p1,p2,p3⟩:=e2 e he;exact⟨by unfold ca;omega,by rw[p3];simp[iv],by rw[p3];simp⟩
theorem RN:Rz (lA f) 128:=by
 have hW:=Ps bo hm hc;have:=BR hW (LH bo hm hc) _ (Nat.le_refl _);rw[List.take_length]at this;refine⟨⟨this.nx.1,?_⟩,this.ee,this.b⟩;have h1:=this.nx.2;have h2:=hW.few;unfold lA;omega
theorem H5{b:Block}(hb:b∈(dg f).blocks):∃j:Nat,j<(nO f).blocks.length∧b=rY (nO f) (fU (bH (ko f))) (j0 f) (lA f) j:=by
 unfold dg at hb;obtain⟨j,hj,rfl⟩:=List.mem_map.1 hb;exact⟨j,List.mem_range.1 hj,rfl⟩
theorem H6{b:Block}(hb:b∈(dg f).blocks){i:Ins}(hi:i∈b.ins):i.op≠100:=by
 obtain⟨j,_,rfl⟩:=H5 bo hm hc hb;have hS:=RN bo hm hc;unfold rY at hi;cases hB:(lA f).B j with
 | none =>
  rw[hB]at hi;cases hi
 | some c =>
  rw[hB]at hi;exact((hS.b j c hB).ins i hi).2
theorem Pq:(dg f).fit:=by
 have hW:=Ps bo hm hc;have hS:=RN bo hm hc;have Q7:=hW.gw.few;refine⟨bo.1,?_,fun b hb=>?_⟩
 ·unfold dg;rw[List.length_map,List.length_range];omega
 obtain⟨j,hj,rfl⟩:=H5 bo hm hc hb;obtain⟨h1,h2,h3,h4,h5⟩:=hW.row hj;obtain⟨p1,p2⟩:=hW.gw.to _ (List.mem_of_getElem? h5);have hz:ca 0:=by unfold ca;simp
 have rq:((aF (nO f) j).term.to.map (G7 (fU (bH (ko f))) (j0 f) ((lA f).EE j))).length<=2 ^ 47∧∀e∈(aF (nO f) j).term.to.map (G7 (fU (bH (ko f))) (j0 f) ((lA f).EE j)),e.fit:=by
  refine⟨by rw[List.length_map];exact Nat.le_trans p1 (by decide),fun e he=>?_⟩;obtain⟨x,hx,rfl⟩:=List.mem_map.1 he;obtain⟨x1,x2,x3⟩:=p2 x hx;obtain⟨_,r2,_⟩:=hW.row (k:=x.block.toNat) (by omega);have KU:=hW.gw.N9;refine⟨by show ca x.block;unfold ca;omega,?_,?_⟩
  ·unfold G7;simp only;split
   ·intro y hy;obtain⟨v,_,rfl⟩:=List.mem_map.1 hy;exact(hS.ee j).get v
   simp[iv]
  unfold G7;simp only;split
  ·rw[List.length_map];have e1:=gn ((j0 f).getD x.block.toNat []) 0;have e2:=List.countP_le_length (p:=id) (l:=(j0 f).getD x.block.toNat []);omega
  simp
 unfold rY;cases hB:(lA f).B j with
 | none=>exact⟨by simp[iv,px],by simp[px],by simp[px],fun i hi=>(by simp[px]at hi),hz,hz,hz,by simp[iv,px],by simp[px],rq.1,rq.2⟩
 | some c =>
  have q:=hS.b j c hB;exact⟨q.par,Nat.le_trans q.Wg (by decide),Nat.le_trans q.V9 (by decide),fun i hi=>(q.ins i hi).1,q.kind,q.arg,q.n,q.cases,q.UH,rq.1,rq.2⟩
end
end Go.Proofs.YtjdnhamngpafmaaGreat
namespace Go.Proofs.YtjdnhamngpafmaaGreat
open Go.Av
def j4(er:Func->Int):List Func->Int
 | []=>0
 | f::r=>n7 (er f) (j4 er r)
theorem nM{er:Func->Int}:∀{l:List Func},j4 er l=0->∀f∈l,er f=0
 | [],_,f,hf=>by cases hf
 | g::r,h,f,hf=>by
  have:=iR h;rcases List.mem_cons.1 hf with q|q
  ·subst q;exact this.1
  exact nM this.2 f q
def Pe(gM:Func->Func)(er:Func->Int)(f:Func):ae:=if er f=0 then .cw [(gM f).enc,aI 0]else .cw [.agg [aI 0,.aA 7 [] .sh],aI (er f)]
def G8(f:Func):Int:=aZ (ko f)
theorem CN(f:Func):CM f=Pe dg G8 f:=rfl
def nK(u:cd):cd:=⟨u.fns.map dg,u.main⟩
def TY:ae:=.agg [.aA 2 [] .sh,aI 0]
def yu(u:cd):Int:=if ia u=0 then(if j4 G8 u.fns=0 then(if fT (nK u)=0 then 0 else 2)else j4 G8 u.fns)else ia u
def Ia(u:cd):ae:=if yu u=0 then .cw [(nK u).enc,aI 0]else .cw [TY,aI (yu u)]
theorem pX{u:cd}(bo:u.fit)(h:ia u=0):u.fns.length<=256∧∀f∈u.fns,tL f:=by
 unfold ia at h;split at h
 ·simp at h
 split at h
 ·simp at h
 rename_i h2;split at h
 ·simp at h
 have h3:=(iR h).1;exact⟨by omega,fun f hf=>EV (bo.2.2 f hf) (pW h3 f hf)⟩
theorem Ao{u:cd}(bo:u.fit)(h:ia u=0)(he:j4 G8 u.fns=0):(nK u).fit:=by
 obtain⟨h1,h2⟩:=pX bo h;refine⟨bo.1,by unfold nK;rw[List.length_map];exact bo.2.1,fun g hg=>?_⟩;obtain⟨f,hf,rfl⟩:=List.mem_map.1 hg;exact Pq (bo.2.2 f hf) (h2 f hf) (nM he f hf)
theorem Am(u:cd)(bo:u.fit):bA Tryz.prog 22 [u.enc] (Ia u):=by
 have rn:=Ba u bo;by_cases hc:ia u=0
 ·have FT:yu u=if j4 G8 u.fns=0 then(if fT (nK u)=0 then 0 else 2)else j4 G8 u.fns:=if_pos hc
  rw[hc]at rn;obtain⟨uK,L5⟩:=pX bo hc;have dr:∀f∈u.fns,bA Tryz.prog 51 [f.enc] (Pe dg G8 f):=fun f hf=>by
   rw[<-CN];exact CP f (bo.2.2 f hf) (L5 f hf)
  obtain⟨R,hR⟩:∃R,R=j4 G8 u.fns:=⟨_,rfl⟩
  have Oq:=fun h=>uv (nK u) (Ao bo hc h);obtain⟨Y,hY⟩:∃Y,Y=Ia u:=⟨_,rfl⟩
  rw[<-hY];unfold Ia at hY;rw[FT,<-hR]at hY;rw[<-hR]at Oq;refine zf true 0 Tryz.func22 Tryz.ntmps22 ?_;dsimp only[Tmp,TypeId,slotsOf];refine ay (ai ?_);refine aC 1 0 (.ip none [bc u.fns,aI u.main]) rfl (by simp[ak.aD]) trivial rfl ?_ ?_;rotate_left;simp -dsimp only[simprocAttr,↓aa,zp]
  ·refine bV ?_;refine zi rn ?_;refine ai ?_;refine ay (ai ?_);apply aN rfl<;>intro h
   ·cases h
   refine cj ?_;refine ay (ai ?_);refine cY 2 0 rfl rfl ?_;simp -dsimp only[simprocAttr,↓aa,zp];refine bV (ai ?_);refine ah (aL (ι:={k:Nat // k<=u.fns.length∧R=j4 G8 (u.fns.drop k)}) (fun k=>⟨47,[(2,.mp 1 0),(3,aI 0),(5,.mp 2 0),(20,bc u.fns),(21,aI u.fns.length),(22,aI k.1)],[.gone,.cells [.aA 2 [] .ex,aI 0],.cells [.aA 2 (((u.fns.take k.1).map dg).map Func.enc) (.tok 3),aI u.main],.spare k.1]⟩) (fun k=>u.fns.length-k.1) ⟨0,by omega,hR⟩ ?_ ?_)
   ·refine zq rfl ?_ ?_;simp -dsimp only[simprocAttr,↓aa,zp,zc]
    all_goals rfl
   rintro⟨k,hk,FN⟩;refine ay (ai ?_);apply gJ rfl<;>intro h
   ·refine cj ?_;have bf:k<u.fns.length:=by simpa using h
    obtain⟨f,hf⟩:∃f,u.fns[k]?=some f:=⟨u.fns[k],by simp[bf]⟩
    rw[bK hf]at FN;simp only[j4]at FN;have FU:=dr f (List.mem_of_getElem? hf);unfold Pe at FU;have eo:(((u.fns.take (k+1)).map dg).map Func.enc)=((u.fns.take k).map dg).map Func.enc++[(dg f).enc]:=by
     rw[List.take_add_one,hf];simp
    have jc:(((u.fns.take k).map dg).map Func.enc).length=k:=by
     simp;omega
    have Q2:∀n,av n (((u.fns.take k).map dg).map Func.enc):=fun n=>Func.ag n _;have LP:∀n,av n (((u.fns.take k).map dg).map Func.enc++[(dg f).enc]):=fun n=>by
     rw[<-eo];exact Func.ag n _
    generalize ((u.fns.take k).map dg).map Func.enc=T at *;refine aH (ah ?_);refine aQ ?_;simp -dsimp only[simprocAttr,↓aa,zp,hf];refine ai ?_;refine aC 7 4 (.ip none [aI f.name,aw f.blocks]) rfl (by simp[ak.aD]) trivial rfl ?_ ?_;rotate_left;simp -dsimp only[simprocAttr,↓aa,zp]
    ·by_cases he:G8 f=0
     ·rw[if_pos he]at FU;rw[db he]at FN;generalize dg f=g at *;unfold Func.enc at FU;refine ay ?_;refine zi FU ?_;refine ai ?_;refine aC 8 5 (.ip none [aI g.name,aw g.blocks]) rfl (by simp[ak.aD]) trivial rfl ?_ ?_;rotate_left;simp -dsimp only[simprocAttr,↓aa,zp]
      ·refine bV (ai ?_);refine cv rfl ?_;refine cj ?_;refine jX ?_;simp -dsimp only[simprocAttr,↓aa,zp,jc]
       repeat(refine⟨by omega,?_⟩)
       refine ai ?_;refine bp 4 [(2,.mp 1 0),(3,aI 0),(5,.mp 2 0),(20,bc u.fns),(21,aI u.fns.length),(22,aI k)] (by simp) (by omega) [.gone,.cells [.aA 2 [] .ex,aI 0],.cells [.aA 2 (T++[g.enc]) (.tok 3),aI u.main],.spare (k+1)] ?_ ?_ ?_ ?_ ?_
       ·rfl
       ·simp[ak.upto,av,ae.upto,ax,Func.ag,Block.ag,Q2,LP]
       ·simp[eQ,St.get,bw,a8,Go.Av.look,Sub.refl]
       ·simp[ak.upto,av,ae.upto,ax,Func.ag,Block.ag,Q2]
       refine cM ?_
       repeat(refine⟨by omega,?_⟩)
       refine eZ ?_;refine⟨⟨k+1,bf,FN⟩,by simp;omega,?_⟩;dsimp only;rw[eo];refine zq rfl ?_ ?_;simp -dsimp only[simprocAttr,↓aa,zp,zc]
       ·exact Sub.int (by simp)
       rfl
      exact bM.mp rfl rfl
     rw[if_neg he]at FU;rw[gp he]at FN;obtain⟨e,tx⟩:∃e,e=G8 f:=⟨_,rfl⟩
     rw[<-tx]at FU he FN;have j5:decide (e=0)=false:=decide_eq_false he;rw[if_neg (show ¬(R=0) by rw[FN];exact he),if_neg (show ¬(R=0) by rw[FN];exact he),FN]at hY;refine ay ?_;refine zi FU ?_;refine ai ?_;refine c7 ?_;simp -dsimp only[simprocAttr,↓aa,zp,j5];refine ai ?_;refine cB rfl ?_;refine ay (ai ?_);refine aq ?_;simp -dsimp only[simprocAttr,↓aa,zp,zr,Tryz.results22];rw[hY];simp[av,ae.upto,TY]
    exact bM.mp rfl rfl
   refine aK ?_;simp -dsimp only[bI,ne_eq,Nat.reduceEqDiff,reduceCtorEq];have gi:k=u.fns.length:=by simp at h;omega
   subst gi;rw[List.drop_length]at FN;simp only[j4]at FN;rw[if_pos FN]at hY;rw[List.take_length];have hm:=Oq FN;unfold cd.enc nK at hm;have Q2:∀n,av n ((u.fns.map dg).map Func.enc):=fun n=>Func.ag n _;obtain⟨e,tx⟩:∃e,e=fT (nK u):=⟨_,rfl⟩
   unfold nK at tx;rw[<-tx]at hm;have Vj:fT (nK u)=e:=by rw[tx];rfl
   rw[Vj]at hY;by_cases he:e=0
   ·subst he;rw[if_pos rfl,if_pos rfl]at hY;refine bV ?_;refine zi hm ?_;refine ai ?_;refine cv rfl ?_;refine cj ?_;refine ay (ai ?_);refine aq ?_;simp -dsimp only[simprocAttr,↓aa,zp,zr,Tryz.results22];rw[hY];simp[av,ae.upto];rw[List.map_map]at Q2;exact⟨Q2 0,by simp[cd.enc,nK]⟩
   have j5:decide (e=0)=false:=decide_eq_false he;rw[if_neg he,if_neg (by decide)]at hY;refine c7 ?_;simp -dsimp only[simprocAttr,↓aa,zp,j5];refine .inl ⟨_,hm,by simp only[av,ae.upto,zt,zu,ax],ao ?_⟩;simp -dsimp only[simprocAttr,↓aa,zp,j5];refine ai ?_;apply aN rfl<;>intro h
   ·refine ay (ai ?_);refine aq ?_;simp -dsimp only[simprocAttr,↓aa,zp,zr,Tryz.results22];rw[hY];simp[av,ae.upto,TY]
   exfalso;simp[he]at h
  exact bM.mp rfl rfl
 have FT:yu u=ia u:=if_neg hc;unfold Ia;rw[FT,if_neg hc];obtain⟨e,tx⟩:∃e,e=ia u:=⟨_,rfl⟩
 rw[<-tx]at hc rn ⊢;have j5:decide (e=0)=false:=decide_eq_false hc;refine zf true 0 Tryz.func22 Tryz.ntmps22 ?_;dsimp only[Tmp,TypeId,slotsOf];refine ay (ai ?_);refine aC 1 0 (.ip none [bc u.fns,aI u.main]) rfl (by simp[ak.aD]) trivial rfl ?_ ?_;rotate_left;simp -dsimp only[simprocAttr,↓aa,zp]
 ·refine bV ?_;refine zi rn ?_;refine ai ?_;refine aQ ?_;simp -dsimp only[simprocAttr,↓aa,zp,j5];refine ai ?_;refine cB rfl ?_;refine ay (ai ?_);refine aq ?_;simp -dsimp only[simprocAttr,↓aa,zp,zr,Tryz.results22];simp[av,ae.upto,TY]
 exact bM.mp rfl rfl
theorem MU{f g:Func}(hl:f.blocks.length=g.blocks.length)(ht:∀k,(ir f k).map Edge.block=(ir g k).map Edge.block):dh f=dh g:=by
 have hn:∀b e,cW f b e=cW g b e:=fun b e=>by
  have h:∀h:Func,cW h b e=(((ir h b).map Edge.block)[e.toNat]?).getD 0:=fun h=>by
   unfold cW;rw[List.getElem?_map];cases(ir h b)[e.toNat]?<;>rfl
  rw[h f,h g,ht]
 have hs:∀S,dW f S=dW g S:=fun S=>by
  unfold dW;have hlen:∀b,(ir f b).length=(ir g b).length:=fun b=>by
   have:=congrArg List.length (ht b);simpa using this
  simp only[hn,hlen]
 have hr:∀n S,gI f n S=gI g n S:=fun n=>by
  induction n with
  | zero=>exact fun S=>rfl
  | succ n ih =>
   intro S;simp only[gI];rw[hs,ih]
 unfold dh bO gE cL;rw[hr,hl]
theorem Pr{f:Func}(bo:f.fit)(hm:tL f)(hc:aZ (ko f)=0):(dh (dg f)).length=(dg f).blocks.length:=by
 have hg:=Bn bo hm hc;have Hb:=pM bo hm hc;have hl:(dg f).blocks.length=(bH (ko f)).blocks.length:=by
  unfold dg;rw[List.length_map,List.length_range,Hb]
 rw[hl,<-xS (vB bo hm hc) (kP hg)];congr 1;refine MU hl fun k=>?_;by_cases hk:k.toNat<(nO f).blocks.length
 ·have h1:ir (dg f) k=(aF (nO f) (k.toNat:Int)).term.to.map (G7 (fU (bH (ko f))) (j0 f) ((lA f).EE k.toNat)):=by
   unfold ir aF dg;rw[List.getElem?_map,List.getElem?_range hk];rfl
  have hb:(nO f).blocks[k.toNat]?=some ((nO f).blocks[k.toNat]):=List.getElem?_eq_getElem hk;obtain⟨j,c,_,_,U7⟩:=xj bo hm hc hb;have h2:(aF (nO f) (k.toNat:Int)).term.to=ir (bH (ko f)) k:=by
   unfold aF;rw[Int.toNat_natCast,hb,U7];unfold ir aF;rw[Int.toNat_natCast];rfl
  rw[h1,h2,List.map_map];exact List.map_congr_left fun e _=>rfl
 unfold ir aF;rw[List.getElem?_eq_none (by rw[hl,<-Hb];omega),List.getElem?_eq_none (by rw[<-Hb];omega)]
theorem vf(u:cd)(bo:u.fit):bA Tryz.prog 5 [u.enc] (.v (.bool true)):=by
 have XK:=D8;have hle:=Am u bo;unfold Ia at hle;by_cases he:yu u=0
 ·rw[if_pos he]at hle;have rn:ia u=0:=by
   unfold yu at he;split at he
   ·assumption
   assumption
  have L4:j4 G8 u.fns=0:=by
   unfold yu at he;rw[if_pos rn]at he;split at he
   ·assumption
   exact he
  have Mp:fT (nK u)=0:=by
   unfold yu at he;rw[if_pos rn,if_pos L4]at he;split at he
   ·assumption
   simp at he
  obtain⟨uK,L5⟩:=pX bo rn;have OH:=Ao bo rn L4;have hlen:(nK u).fns.length=u.fns.length:=by
   unfold nK;rw[List.length_map]
  have hG:∀G∈(nK u).fns,bA Tryz.prog 23 [G.enc] (.cw [aJ (dh G),aI 0])∧(dh G).length=G.blocks.length∧G.fit∧∀b∈G.blocks,∀i∈b.ins,i.op≠100:=fun G RW=>by
   have h1:=og G (OH.2.2 G RW);unfold MG at h1;rw[if_pos ((Aa Mp).2.2.2.1 G RW)]at h1;have YO:=OH.2.2 G RW;unfold nK at RW;obtain⟨f,hf,rfl⟩:=List.mem_map.1 RW;have Ew:=nM L4 f hf;exact⟨h1,Pr (bo.2.2 f hf) (L5 f hf) Ew,YO,fun b hb i hi=>H6 (bo.2.2 f hf) (L5 f hf) Ew hb hi⟩
  generalize nK u=V at *;have Q1:V.fns.length<=256:=by omega
  unfold cd.enc at hle;refine zf true 0 Tryz.func5 Tryz.ntmps5 ?_;dsimp only[Tmp,TypeId,slotsOf];refine ay (ai ?_);refine aC 1 0 (.ip none [bc u.fns,aI u.main]) rfl (by simp[ak.aD]) trivial rfl ?_ ?_;rotate_left;simp -dsimp only[simprocAttr,↓aa,zp];rotate_left
  ·exact bM.mp rfl rfl
  refine bV ?_;refine zi XK ?_;refine ai ?_;apply aN rfl<;>intro h
  ·cases h
  refine cj ?_;refine ay ?_;refine zi hle ?_;refine ai ?_;refine aC 3 1 (.ip none [bc V.fns,aI V.main]) rfl (by simp[ak.aD]) trivial rfl ?_ ?_;rotate_left;simp -dsimp only[simprocAttr,↓aa,zp];rotate_left
  ·exact bM.mp rfl rfl
  refine bV (ai ?_);apply aN rfl<;>intro h
  ·cases h
  refine cj ?_;refine bV (ai ?_);refine ah (aL (ι:={k:Nat // k<=V.fns.length}) (fun k=>⟨75,[(1,.ip none [bc u.fns,aI u.main]),(3,.ip none [bc V.fns,aI V.main]),(27,bc V.fns),(28,aI V.fns.length),(29,aI k.1)],[.gone,.gone]⟩) (fun k=>V.fns.length-k.1) ⟨0,by omega⟩ ?_ ?_)
  ·refine zq rfl ?_ ?_;simp -dsimp only[simprocAttr,↓aa,zp,zc]
   all_goals rfl
  rintro⟨k,hk⟩;refine ay (ai ?_);apply gJ rfl<;>intro h
  ·refine cj ?_;have bf:k<V.fns.length:=by simpa using h
   obtain⟨G,WL⟩:∃G,V.fns[k]?=some G:=⟨V.fns[k],List.getElem?_eq_getElem bf⟩
   obtain⟨g1,g2,g3,g4⟩:=hG G (List.mem_of_getElem? WL);have hgb:=g3.2.1;have hd:decide (((dh G).length:Int)=(G.blocks.length:Int))=true:=decide_eq_true (by rw[g2]);unfold Func.enc at g1;refine aH (ah ?_);refine aQ ?_;simp -dsimp only[simprocAttr,↓aa,zp,WL];refine ai ?_;show bX Tryz.prog _ _ _ ⟨_,_,[.gone,.gone]++[.cells [aI G.name,aw G.blocks]]⟩;refine aV 6 ([aI G.name,aw G.blocks]) [(1,.ip none [bc u.fns,aI u.main]),(3,.ip none [bc V.fns,aI V.main]),(27,bc V.fns),(28,aI V.fns.length),(29,aI k),(6,.ip none [aI G.name,aw G.blocks])] (by simp[bw,a8,Go.Av.look]) (by rfl) (by omega) (by simp[bw,a8,Go.Av.look]) ?_ ?_ ?_
   ·simp[ak.upto]
   ·simp[ae.upto,av,ax,Edge.ag,Ins.ag,Block.ag,Func.ag]
   refine ay ?_;refine zi g1 ?_;refine ai ?_;refine c7 ?_;simp -dsimp only[simprocAttr,↓aa,zp,hd];refine ai ?_;apply aN rfl<;>intro h
   ·simp[g2]at h
   refine cj ?_;refine ay (ai ?_);refine ah (aL (ι:={j:Nat // j<=G.blocks.length}) (fun j=>⟨75,[(1,.ip none [bc u.fns,aI u.main]),(3,.ip none [bc V.fns,aI V.main]),(27,bc V.fns),(28,aI V.fns.length),(29,aI k),(49,aw G.blocks),(50,aI G.blocks.length),(51,aI j.1)],[.gone,.gone]⟩) (fun j=>G.blocks.length-j.1) ⟨0,by omega⟩ ?_ ?_)
   ·refine zq rfl ?_ ?_;simp -dsimp only[simprocAttr,↓aa,zp,zc]
    all_goals rfl
   rintro⟨j,hj⟩;refine ay (ai ?_);apply gJ rfl<;>intro h
   ·refine cj ?_;have SR:j<G.blocks.length:=by simpa using h
    obtain⟨b,hb⟩:∃b,G.blocks[j]?=some b:=⟨G.blocks[j],List.getElem?_eq_getElem SR⟩
    have mg:=List.mem_of_getElem? hb;have YB:=(g3.2.2 b mg).2.2.1;refine aH (ah ?_);refine aQ ?_;simp -dsimp only[simprocAttr,↓aa,zp,hb];refine ai ?_;show bX Tryz.prog _ _ _ ⟨_,_,[.gone,.gone]++[.cells [aJ b.params,a7 b.ins,aI b.term.kind,aI b.term.arg,aI b.term.n,aJ b.term.cases,aG b.term.to]]⟩;refine aV 10 ([aJ b.params,a7 b.ins,aI b.term.kind,aI b.term.arg,aI b.term.n,aJ b.term.cases,aG b.term.to]) [(1,.ip none [bc u.fns,aI u.main]),(3,.ip none [bc V.fns,aI V.main]),(27,bc V.fns),(28,aI V.fns.length),(29,aI k),(49,aw G.blocks),(50,aI G.blocks.length),(51,aI j),(10,.ip none [aJ b.params,a7 b.ins,aI b.term.kind,aI b.term.arg,aI b.term.n,aJ b.term.cases,aG b.term.to])] (by simp[bw,a8,Go.Av.look]) (by rfl) (by omega) (by simp[bw,a8,Go.Av.look]) ?_ ?_ ?_
    ·simp[ak.upto]
    ·simp[ae.upto,av,ax,Edge.ag,Ins.ag,Block.ag,Func.ag]
    refine ay (ai ?_);refine ah (aL (ι:={n:Nat // n<=b.ins.length}) (fun n=>⟨75,[(1,.ip none [bc u.fns,aI u.main]),(3,.ip none [bc V.fns,aI V.main]),(27,bc V.fns),(28,aI V.fns.length),(29,aI k),(49,aw G.blocks),(50,aI G.blocks.length),(51,aI j),(56,a7 b.ins),(57,aI b.ins.length),(58,aI n.1)],[.gone,.gone]⟩) (fun n=>b.ins.length-n.1) ⟨0,by omega⟩ ?_ ?_)
    ·refine zq rfl ?_ ?_;simp -dsimp only[simprocAttr,↓aa,zp,zc]
     all_goals rfl
    rintro⟨n,hn⟩;refine ay (ai ?_);apply gJ rfl<;>intro h
    ·refine cj ?_;have SS:n<b.ins.length:=by simpa using h
     obtain⟨i,hi⟩:∃i,b.ins[n]?=some i:=⟨b.ins[n],List.getElem?_eq_getElem SS⟩
     have Sj:decide (i.op=100)=false:=decide_eq_false (g4 b mg i (List.mem_of_getElem? hi));refine aH (ah ?_);refine aQ ?_;simp -dsimp only[simprocAttr,↓aa,zp,hi];refine ai ?_;show bX Tryz.prog _ _ _ ⟨_,_,[.gone,.gone]++[.cells [aI i.to,aI i.op,aI i.n,aJ i.args]]⟩;refine aV 12 ([aI i.to,aI i.op,aI i.n,aJ i.args]) [(1,.ip none [bc u.fns,aI u.main]),(3,.ip none [bc V.fns,aI V.main]),(27,bc V.fns),(28,aI V.fns.length),(29,aI k),(49,aw G.blocks),(50,aI G.blocks.length),(51,aI j),(56,a7 b.ins),(57,aI b.ins.length),(58,aI n),(12,.ip none [aI i.to,aI i.op,aI i.n,aJ i.args])] (by simp[bw,a8,Go.Av.look]) (by rfl) (by omega) (by simp[bw,a8,Go.Av.look]) ?_ ?_ ?_
     ·simp[ak.upto]
     ·simp[ae.upto,av,ax,Edge.ag,Ins.ag,Block.ag,Func.ag]
     refine aQ ?_;simp -dsimp only[simprocAttr,↓aa,zp,Sj];refine ai ?_;apply aN rfl<;>intro h
     ·cases h
     refine kp ?_;refine cM ?_
     repeat(refine⟨by omega,?_⟩)
     refine eZ ?_;refine⟨⟨n+1,SS⟩,by simp;omega,?_⟩;refine zq rfl ?_ ?_;simp -dsimp only[simprocAttr,↓aa,zp,zc]
     ·exact Sub.int (by simp)
     rfl
    refine aK ?_;simp -dsimp only[bI,ne_eq,Nat.reduceEqDiff,reduceCtorEq];refine cM ?_
    repeat(refine⟨by omega,?_⟩)
    refine eZ ?_;refine⟨⟨j+1,SR⟩,by simp;omega,?_⟩;refine zq rfl ?_ ?_;simp -dsimp only[simprocAttr,↓aa,zp,zc]
    ·exact Sub.int (by simp)
    rfl
   refine aK ?_;simp -dsimp only[bI,ne_eq,Nat.reduceEqDiff,reduceCtorEq];refine cM ?_
   repeat(refine⟨by omega,?_⟩)
   refine eZ ?_;refine⟨⟨k+1,bf⟩,by simp;omega,?_⟩;refine zq rfl ?_ ?_;simp -dsimp only[simprocAttr,↓aa,zp,zc]
   ·exact Sub.int (by simp)
   rfl
  refine aK ?_;simp -dsimp only[bI,ne_eq,Nat.reduceEqDiff,reduceCtorEq];refine aQ ?_;simp -dsimp only[simprocAttr,↓aa,zp,hlen];refine ai ?_;refine aq ?_;simp -dsimp only[simprocAttr,↓aa,zp,zr,Tryz.results5]
 rw[if_neg he]at hle;unfold TY at hle;obtain⟨e,tx⟩:∃e,e=yu u:=⟨_,rfl⟩
 rw[<-tx]at he hle;have j5:decide (e=0)=false:=decide_eq_false he;refine zf true 0 Tryz.func5 Tryz.ntmps5 ?_;dsimp only[Tmp,TypeId,slotsOf];refine ay (ai ?_);refine aC 1 0 (.ip none [bc u.fns,aI u.main]) rfl (by simp[ak.aD]) trivial rfl ?_ ?_;rotate_left;simp -dsimp only[simprocAttr,↓aa,zp];rotate_left
 ·exact bM.mp rfl rfl
 refine bV ?_;refine zi XK ?_;refine ai ?_;apply aN rfl<;>intro h
 ·cases h
 refine cj ?_;refine ay ?_;refine zi hle ?_;refine ai ?_;refine c7 ?_;simp -dsimp only[simprocAttr,↓aa,zp,j5];refine ai ?_;refine cB rfl ?_;refine ay (ai ?_);refine aq ?_;simp -dsimp only[simprocAttr,↓aa,zp,zr,Tryz.results5]
end Go.Proofs.YtjdnhamngpafmaaGreat
