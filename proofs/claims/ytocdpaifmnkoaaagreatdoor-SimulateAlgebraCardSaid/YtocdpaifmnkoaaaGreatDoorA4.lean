/-
  Texts bound together by a program of mine: YtocdpaifmnkoaaaGreatDoorPp, YtocdpaifmnkoaaaGreatDoorPq, YtocdpaifmnkoaaaGreatDoorT34, YtocdpaifmnkoaaaGreatDoorT35, YtocdpaifmnkoaaaGreatDoorPn, YtocdpaifmnkoaaaGreatDoorT36, YtocdpaifmnkoaaaGreatDoorPs, YtocdpaifmnkoaaaGreatDoorPt, YtocdpaifmnkoaaaGreatDoorT18, YtocdpaifmnkoaaaGreatDoorT19, YtocdpaifmnkoaaaGreatDoorT20, YtocdpaifmnkoaaaGreatDoorT21, YtocdpaifmnkoaaaGreatDoorT22, YtocdpaifmnkoaaaGreatDoorPu, YtocdpaifmnkoaaaGreatDoorPv, YtocdpaifmnkoaaaGreatDoorPw, YtocdpaifmnkoaaaGreatDoorPx, YtocdpaifmnkoaaaGreatDoorT23, YtocdpaifmnkoaaaGreatDoorT37, YtocdpaifmnkoaaaGreatDoorPf, YtocdpaifmnkoaaaGreatDoorT200, YtocdpaifmnkoaaaGreatDoorPe, YtocdpaifmnkoaaaGreatDoorQa, YtocdpaifmnkoaaaGreatDoorQb, YtocdpaifmnkoaaaGreatDoorQc, YtocdpaifmnkoaaaGreatDoorQd, YtocdpaifmnkoaaaGreatDoorT201, YtocdpaifmnkoaaaGreatDoorT202, YtocdpaifmnkoaaaGreatDoorT203, YtocdpaifmnkoaaaGreatDoorT204, YtocdpaifmnkoaaaGreatDoorPum.
-/
import Derived.Test.YtocdpaifmnkoaaaGreatDoorA3
import Derived.Laws.Closers25b
import Derived.Lib.FrozenHead2
import Derived.Test.YtocdpaifmnkoaaaGreatDoorChecked
import Derived.Shelf.Strings.Builder1
import Derived.KernelRfl
import Derived.WalkKit
import Derived.BigCall
import Derived.Shelf.Small.Bits
set_option linter.all false
set_option maxRecDepth 100000
set_option maxHeartbeats 4000000

namespace Go.Av
theorem nM{P:Program}{ops all:Array Oper}{k:Nat}(hk:∀i o,ops[i]?=some o->all[k+i]?=some o)(hg:∀o∈all.toList,o.guard=none):∀{l:List (Nat×Kind)} {σ τ:St},fB P ops l σ τ->fB P all (l.map fun p=>(k+p.1,p.2)) σ τ
 | [],_,_,h=>h
 | (i,q)::r,_,_,h=>by
  obtain⟨fL,⟨o,ho,h1⟩,h2⟩:=h;refine⟨fL,⟨o,hk i o ho,?_⟩,nM hk hg h2⟩;have gW:=hk i o ho;have xu:o.guard=none:=hg o (by
   rw[<-Array.getElem?_toList]at gW;exact List.mem_of_getElem? gW)
  have w1:∀(a:Array Oper) (σ:St),dy a o σ=some true:=fun a σ=>by simp[dy,xu]
  rcases h1 with⟨_,h1⟩|⟨h1,_⟩
  ·exact .inl ⟨w1 _ _,h1⟩
  rw[w1]at h1;cases h1
def GD(P:Program)(aP:ee)(md:Md)(o:Oper)(l2:List Oper)(Q:dT->St->Prop)(τ:St):Prop:=∃x m,Cert P o τ x m∧fq P aP md l2 0 [] ⟨τ.n,qW o.dst x τ.bt,m.post τ.objs⟩ [] fun ρ _=>At ρ (Q .norm)
theorem mE{P:Program}{kb:Nat}{aP:ee}(md:Md)(hT:b8 P aP){id:Nat}{l l1 l2:List Oper}{o:Oper}{Q:dT->St->Prop}{σ:St}(k:Nat)(h1:l.take k=l1)(h2:l[k]?=some o)(h3:l.drop (k+1)=l2)(hg:∀o∈l,o.guard=none)
  (h:fq P aP md l1 0 [] σ [] fun τ _=>GD P aP md o l2 Q τ):cG P kb (.region id l.toArray false) Q σ:=by
 have bd:=ag h2;obtain⟨τ,zG,c1,n1,x,m,hc,h⟩:=gd (all:=l1.toArray) hT l1 0 [] σ [] (fun j=>by simp) (fun j t hj=>by simp[kn]at hj) h;obtain⟨ρ,R7,c2,n2,hQ⟩:=gd (all:=l2.toArray) hT l2 0 [] _ [] (fun j=>by simp) (fun j t hj=>by simp[kn]at hj) h;intro base a g hb hr;have xu:o.guard=none:=hg o (List.mem_of_getElem? h2);have Yv:l1.length=k:=by rw[<-h1,List.length_take];omega
 have Zk:l2.length=l.length-(k+1):=by rw[<-h3,List.length_drop]
 have d1:=nM (all:=l.toArray) (k:=0) (fun i o' hi=>by
  have jt:l1[i]?=some o':=by simpa using hi
  have:=ag jt;rw[<-h1,List.getElem?_take]at jt;split at jt
  ·simpa using jt
  cases jt) (by simpa using hg) c1
 have d2:=nM (all:=l.toArray) (k:=k+1) (fun i o' hi=>by
  have jt:l2[i]?=some o':=by simpa using hi
  rw[<-h3,List.getElem?_drop]at jt;simpa using jt) (by simpa using hg) c2
 have dm:fB P l.toArray [(k,m.kind)] τ ⟨τ.n,qW o.dst x τ.bt,m.post τ.objs⟩:=⟨_,⟨o,by simpa using h2,.inl ⟨by simp[dy,xu],x,m,hc,rfl,rfl⟩⟩,iS.refl _⟩
 have sw:=mI d1 (mI dm d2);obtain⟨ks,RX⟩:∃ks,ks=zG++m.kind::R7:=⟨_,rfl⟩
 have e:(List.range l.toArray.size).map (fun i=>(i,ks.getD i .write))=(List.map (fun p=>(0+p.1,p.2)) (List.map (fun p=>(p.2,p.1)) (zG.zipIdx 0))++([(k,m.kind)]++List.map (fun p=>(k+1+p.1,p.2)) (List.map (fun p=>(p.2,p.1)) (R7.zipIdx 0)))):=by
  have c7:l.toArray.size=ks.length:=by
   rw[RX];simp only[List.size_toArray,List.length_append,List.length_cons];omega
  rw[c7];apply List.ext_getElem?;intro i;rw[RX];simp only[List.getElem?_map];by_cases q1:i<zG.length
  ·rw[List.getElem?_append_left (by simpa using q1),List.getElem?_range (by simp;omega)];simp[q1,List.getElem?_append_left]
  rw[List.getElem?_append_right (by simp;omega)];simp only[List.length_map,List.length_zipIdx];by_cases q2:i=zG.length
  ·subst q2;rw[List.getElem?_range (by simp)];simp[n1,Yv]
  rw[List.getElem?_append_right (by simp;omega)];obtain⟨j,hj⟩:∃j,i=zG.length+1+j:=⟨i-zG.length-1,by omega⟩
  subst hj;simp only[List.length_cons,List.length_nil,show zG.length+1+j-zG.length-(0+1)=j by omega,List.getElem?_map,List.getElem?_zipIdx];by_cases q3:j<R7.length
  ·rw[List.getElem?_range (by simp;omega)];simp only[Option.map_some,List.getElem?_eq_getElem q3,Option.some.injEq,Prod.mk.injEq];refine⟨by omega,?_⟩;rw[List.getD_eq_getElem?_getD,List.getElem?_append_right (by omega),show zG.length+1+j-zG.length=j+1 by omega,List.getElem?_cons_succ,List.getElem?_eq_getElem q3];rfl
  rw[List.getElem?_eq_none (l:=List.range _) (by simp;omega),List.getElem?_eq_none (l:=R7) (by omega)];rfl
 rw[<-e]at sw;exact lX sw hr fun a g AM=>⟨g,ρ,rfl,AM,hQ⟩
theorem yf{P:Program}{o:Oper}{σ:St}{t t':TypeId}{x y:Operand}{k:IntKind}{m n:Int}
  (ho:o.op=.binOp .add t x y t') (hd:∀d,o.dst=some d->d<σ.n) (hx:σ.ev x=some (.v (.int k m))) (hy:σ.ev y=some (.v (.int k n))) :
  Cert P o σ (.v (.int k (k.wrap (m+n)))) .pure :=
 Cert.bW .pure (.inl rfl) hd fun a g _ h _=>by
  have ex:=(h x (by simp[ho,Op.operands]) _ hx).b6.1;have ey:=(h y (by simp[ho,Op.operands]) _ hy).b6.1;have hg:=cZ (P:=P) .add t x y (.int k m) (.int k n) g.w (by simp) (by simp);refine⟨.int k (k.wrap (m+n)),?_,.v (wrap_within k _)⟩;have hb:(binOp .add t (.int k m) (.int k n)).run P g.w=.ok (.int k (k.wrap (m+n))) g.w:=by
   simp[binOp,Op.intArith]
  simp[execOp,ho,ex,ey,hg,hb]
theorem FG{P:Program}{aP:ee}{md:Md}{o:Oper}{l2:List Oper}{Q:dT->St->Prop}{τ:St}{t t':TypeId}{x y:Operand}{k:IntKind}{m n:Int}{d:Nat}
  (ho:o.op=.binOp .add t x y t') (iJ:o.dst=some d) (hd:d<τ.n) (hx:τ.ev x=some (.v (.int k m))) (hy:τ.ev y=some (.v (.int k n)))
  (h:fq P aP md l2 0 [] ⟨τ.n,qW o.dst (.v (.int k (k.wrap (m+n)))) τ.bt,τ.objs⟩ [] fun ρ _=>At ρ (Q .norm)):GD P aP md o l2 Q τ :=
 ⟨_,.pure,yf ho (fun d' e=>by rw[iJ]at e;cases e;exact hd) hx hy,h⟩
end Go.Av
namespace Go.Proofs.YtocdpaifmnkoaaaGreatDoor
open Go.Av
theorem C0(ds:Defs)(k v:Int)(p:Int×Int):gN (ds++[(k,p)]) v=match gN ds v with|some q=>some q|none=>if k=v then some p else none:=by
 induction ds with
 | nil=>rfl
 | cons e r ih =>
  obtain⟨a,q⟩:=e;simp only[List.cons_append,gN];split
  ·rfl
  exact ih
structure lh(n:Nat)(ds:Defs):Prop where
 ok:BQ n ds
 nodup:(ds.map (·.1)).Nodup
 range:∀e∈ds,0<=e.1∧e.1<=4095
theorem CZ{ds:Defs}{v:Int}(h:gN ds v=none):∀e∈ds,e.1≠v:=by
 induction ds with
 | nil=>simp
 | cons e r ih =>
  obtain⟨a,q⟩:=e;simp only[gN]at h;split at h
  ·cases h
  rename_i da;intro e he;rcases List.mem_cons.1 he with q|q
  ·subst q;exact da
  exact ih h e q
theorem nZ:∀(n:Nat) (l:List Nat),l.Nodup->(∀x∈l,x<n)->l.length<=n
 | 0,l,_,h=>by
  cases l with
  | nil=>simp
  | cons a r=>exact absurd (h a (by simp)) (by omega)
 | n+1,l,hn,h=>by
  by_cases hm:n∈l
  ·have:=nZ n (l.erase n) (hn.erase n) (fun x hx=>by
    have h1:=(List.Nodup.mem_erase_iff hn).1 hx;have h2:=h x h1.2;have h3:=h1.1;omega)
   rw[List.length_erase_of_mem hm]at this;omega
  have:=nZ n l hn (fun x hx=>by
   have h2:=h x hx;have:x≠n:=fun e=>hm (e ▸ hx);omega)
  omega
theorem lh.oX{n:Nat}{ds:Defs}(h:lh n ds):ds.length<=4096:=by
 have h1:(ds.map fun e=>e.1.toNat).Nodup:=by
  have h0:=h.nodup;have hr:=h.range;clear h;induction ds with
  | nil=>simp
  | cons e r ih =>
   simp only[List.map_cons,List.nodup_cons,List.mem_map,not_exists,not_and]at h0 ⊢;refine⟨fun x hx q=>h0.1 x hx ?_,ih h0.2 (fun e he=>hr e (by simp[he]))⟩;have a:=hr e (by simp);have b:=hr x (by simp[hx]);omega
 have:=nZ 4096 _ h1 (fun x hx=>by
  obtain⟨e,he,rfl⟩:=List.mem_map.1 hx;have:=h.range e he;omega)
 simpa using this
theorem uB{n:Nat}{ds:Defs}(h:lh n ds)(v:Int){p:Int×Int}(h0:0<=p.1)(h1:p.1.toNat<n):lh n (dq ds v p).2∧((dq ds v p).1=0->(dq ds v p).2.length=ds.length+1):=by
 unfold dq;split
 ·exact⟨h,fun q=>by simp at q⟩
 rename_i hw;split
 ·exact⟨h,fun q=>by simp at q⟩
 rename_i hl;have xw:gN ds v=none:=by simpa using hl
 have TJ:0<=v∧v<=4095:=by simpa[within]using hw
 refine⟨⟨fun w q hq=>?_,?_,fun e he=>?_⟩,fun _=>by simp⟩
 ·rw[C0]at hq;cases hd:gN ds w with
  | some q' =>
   rw[hd]at hq;simp only[Option.some.injEq]at hq;exact hq ▸ h.ok w q' hd
  | none =>
   rw[hd]at hq;simp only at hq;split at hq
   ·simp only[Option.some.injEq]at hq;exact hq ▸ ⟨h0,h1⟩
   cases hq
 ·rw[List.map_append,List.map_cons,List.map_nil,List.nodup_append];refine⟨h.nodup,by simp,fun a ha b hb=>?_⟩;obtain⟨e,he,rfl⟩:=List.mem_map.1 ha;simp only[List.mem_singleton]at hb;subst hb;exact CZ xw e he
 rcases List.mem_append.1 he with q|q
 ·exact h.range e q
 simp only[List.mem_singleton]at q;subst q;exact TJ
theorem vj{n:Nat}{k:Int}(h0:0<=k)(h1:k.toNat<n):∀(l:List Int) (ds:Defs),lh n ds->lh n (fI k ds l).2∧((fI k ds l).1=0->(fI k ds l).2.length=ds.length+l.length)
 | [],ds,h=>⟨h,fun _=>by simp[fI]⟩
 | p::r,ds,h=>by
  have hd:=uB h p (p:=(k,0)) h0 h1;simp only[fI];split
  ·rename_i da;exact⟨hd.1,fun q=>absurd q da⟩
  rename_i he;have ih:=vj h0 h1 r _ hd.1;refine⟨ih.1,fun q=>?_⟩;rw[ih.2 q,hd.2 (by simpa using he)];simp only[List.length_cons];omega
theorem Eh{n:Nat}{k:Int}(h0:0<=k)(h1:k.toNat<n):∀(l:List bI) (j:Int) (ds:Defs),lh n ds->lh n (kE k j ds l).2∧((kE k j ds l).1=0->(kE k j ds l).2.length=ds.length+l.length∧∀i∈l,fi i=0)
 | [],j,ds,h=>⟨h,fun _=>by simp[kE]⟩
 | i::r,j,ds,h=>by
  have hd:=uB h i.to (p:=(k,j+1)) h0 h1;simp only[kE];split
  ·rename_i da;exact⟨hd.1,fun q=>absurd q da⟩
  rename_i he;split
  ·rename_i hf;exact⟨hd.1,fun q=>absurd q hf⟩
  rename_i hf;have ih:=Eh h0 h1 r (j+1) _ hd.1;refine⟨ih.1,fun q=>?_⟩;obtain⟨a,b⟩:=ih.2 q;refine⟨?_,fun x hx=>?_⟩
  ·rw[a,hd.2 (by simpa using he)];simp only[List.length_cons];omega
  rcases List.mem_cons.1 hx with e|e
  ·subst e;simpa using hf
  exact b x e
structure Kw(f:Func)(b:Block):Prop where
 Og:∀i∈b.ins,fi i=0
 fin:yt f b.term=0
 oX:b.params.length+b.ins.length<=4096
theorem EI{f:Func}{ds:Defs}{k:Int}(h:lh f.blocks.length ds)(h0:0<=k)(h1:k.toNat<f.blocks.length):lh f.blocks.length (iT f ds k).2∧((iT f ds k).1=0->Kw f (bQ f k)):=by
 have hp:=vj h0 h1 (bQ f k).params ds h;have hi:=Eh h0 h1 (bQ f k).ins 0 _ hp.1;unfold iT;split
 ·rename_i da;exact⟨hp.1,fun q=>absurd q da⟩
 rename_i Vu;split
 ·rename_i da;exact⟨hi.1,fun q=>absurd q da⟩
 rename_i XX;refine⟨hi.1,fun q=>?_⟩;have a:=hp.2 (by simpa using Vu);have b:=hi.2 (by simpa using XX);have c:=hi.1.oX;exact⟨b.2,q,by rw[b.1,a]at c;omega⟩
theorem qE{f:Func}{t:Term}(h:yt f t=0):gD t=true∧t.cases.length<=256∧(t.kind=4->1<=t.n∧t.n<=6)∧∀e∈t.to,(1<=e.block∧e.block<=(f.blocks.length:Int)-1)∧e.args.length=(bQ f e.block).params.length:=by
 unfold yt at h;split at h
 ·simp at h
 rename_i hs;split at h
 ·simp at h
 rename_i hc;split at h
 ·simp at h
 rename_i hk;split at h
 ·rename_i da;exact absurd h da
 refine⟨by simpa using hs,by omega,fun k4=>?_,?_⟩
 ·by_cases hw:within t.n 1 6=false
  ·exact absurd ⟨k4,hw⟩ hk
  simpa[within]using hw
 generalize t.to=l at h;induction l with
 | nil=>simp
 | cons e r ih =>
  simp only[pH]at h;split at h
  ·simp at h
  rename_i h1;split at h
  ·simp at h
  rename_i h2;intro x hx;rcases List.mem_cons.1 hx with q|q
  ·subst q;exact⟨by simpa[within]using h1,by simpa using h2⟩
  exact ih h x q
def tl:Int->List Block->Int
 | m,[]=>m
 | m,b::r=>tl (IntKind.i64.wrap (m+b.ins.length)) r
def fG(f:Func):Nat->Int->Defs->Int×Defs
 | 0,_,ds=>(0,ds)
 | n+1,k,ds=>if(iT f ds k).1≠0 then iT f ds k else fG f n (k+1) (iT f ds k).2
def bM(f:Func):Int :=
 if f.blocks.length=0 then 3
 else if 128<f.blocks.length∨1024<tl 0 f.blocks∨6<(bQ f 0).params.length then 2
 else if within f.name (-1) 1048575=false then 4
 else if(fG f f.blocks.length 0 []).1≠0 then(fG f f.blocks.length 0 []).1
 else xS f (fG f f.blocks.length 0 []).2
theorem pz{f:Func}:∀(n:Nat) (k:Int) (ds:Defs),lh f.blocks.length ds->0<=k->k.toNat+n<=f.blocks.length->(fG f n k ds).1=0->lh f.blocks.length (fG f n k ds).2∧∀j:Nat,j<n->Kw f (bQ f (k+j))
 | 0,k,ds,h,_,_,_=>⟨h,fun j hj=>absurd hj (by omega)⟩
 | n+1,k,ds,h,h0,h1,he=>by
  have hb:=EI (k:=k) h h0 (by omega);simp only[fG]at he ⊢;split at he
  ·rename_i da;exact absurd he da
  rename_i da;rw[if_neg da];have ih:=pz n (k+1) _ hb.1 (by omega) (by omega) he;refine⟨ih.1,fun j hj=>?_⟩;cases j with
  | zero=>simpa using hb.2 (by simpa using da)
  | succ j =>
   have:=ih.2 j (by omega)
   rwa [show k+((j+1:Nat):Int)=k+1+(j:Int) by omega]
theorem lh.nil(n:Nat):lh n []:=⟨fun v p h=>(by cases h),by simp,by simp⟩
theorem FF{f:Func}{b:Block}(h:b∈f.blocks):∃j:Nat,j<f.blocks.length∧b=bQ f (j:Int):=by
 obtain⟨j,hj,rfl⟩:=List.getElem_of_mem h;exact⟨j,hj,by simp[bQ,hj]⟩
theorem sj{f:Func}(he:(fG f f.blocks.length 0 []).1=0):∀b∈f.blocks,Kw f b:=fun b hb=>by
 obtain⟨j,hj,rfl⟩:=FF hb;have:=(pz f.blocks.length 0 [] (.nil _) (by omega) (by simp) he).2 j hj;simpa using this
theorem gM(f:Func)(fU:f.fit):bw Tryz.prog 21 [f.enc] (aI (bM f)):=by
 have hw:=dX f.name (-1) 1048575;have PS:f.blocks.length<=2 ^ 47:=fU.2.1;obtain⟨R,hR⟩:∃R,R=bM f:=⟨_,rfl⟩
 rw[<-hR];unfold bM at hR;refine zf true 0 Tryz.func21 Tryz.ntmps21 ?_;dsimp only[Tmp,TypeId,slotsOf];refine az (ai ?_);refine aR 1 0 (.ip none [aI f.name,aM f.blocks]) rfl (by simp[aq.aJ]) trivial rfl ?_ ?_;rotate_left;simp -dsimp only[simprocAttr,↓I,zp]
 ·refine az (ai ?_);refine bS (ai ?_);refine ah (a8 (ι:={x:Nat×Int // x.1<=f.blocks.length∧tl 0 f.blocks=tl x.2 (f.blocks.drop x.1)}) (fun x=>⟨69,[(1,.ip none [aI f.name,aM f.blocks]),(2,aI 0),(3,aI x.1.2),(10,aM f.blocks),(11,aI f.blocks.length),(12,aI x.1.1)],[.gone]⟩) (fun x=>f.blocks.length-x.1.1) ⟨(0,0),by simp,rfl⟩ ?_ ?_)
  ·refine zq rfl ?_ ?_;simp -dsimp only[simprocAttr,↓I,zp,zc];rfl
  rintro⟨⟨k,m⟩,hk,gV⟩;simp only at hk gV;refine az (ai ?_);apply fK rfl<;>intro h
  ·refine bZ ?_;have bd:k<f.blocks.length:=by simpa using h
   obtain⟨b,hb⟩:∃b,f.blocks[k]?=some b:=⟨f.blocks[k],by simp[bd]⟩
   rw[dL hb]at gV;simp only[tl]at gV;refine aL (ah ?_);refine aG ?_;simp -dsimp only[simprocAttr,↓I,zp,hb];refine ai ?_;refine aR 5 1 (.ip none [bp b.params,cS b.ins,aI b.term.kind,aI b.term.arg,aI b.term.n,bp b.term.cases,bq b.term.to]) rfl (by simp[aq.aJ]) trivial rfl ?_ ?_;rotate_left;simp -dsimp only[simprocAttr,↓I,zp]
   ·refine mE ⟨false,false⟩ hT 4 rfl rfl rfl (by simp) ?_;simp -dsimp only[simprocAttr,↓I,zp];refine FG rfl rfl (by simp) rfl rfl ?_;simp -dsimp only[simprocAttr,↓I,zp];refine ai ?_;refine cK 1 [(1,.ip none [aI f.name,aM f.blocks]),(2,aI 0),(3,aI (IntKind.i64.wrap (m+b.ins.length))),(10,aM f.blocks),(11,aI f.blocks.length),(12,aI k)] (by simp) (by omega) [.gone] ?_ ?_ ?_ ?_ ?_
    ·rfl
    ·simp[aq.upto,av,aa.upto,ay,Block.aj]
    ·simp[jw,St.get,cd,bG,Go.Av.look,Sub.refl]
    ·simp[aq.upto,av,aa.upto,ay,Block.aj]
    refine dA ?_
    repeat(refine⟨by omega,?_⟩)
    refine kv ?_;refine⟨⟨(k+1,IntKind.i64.wrap (m+b.ins.length)),by simp only;omega,gV⟩,by simp;omega,?_⟩;refine zq rfl ?_ ?_;simp -dsimp only[simprocAttr,↓I,zp,zc]
    ·exact Sub.int (by simp)
    rfl
   exact cw.mp rfl rfl
  refine aN ?_;simp -dsimp only[bH,ne_eq,Nat.reduceEqDiff,reduceCtorEq];have fk:k=f.blocks.length:=by simp at h;omega
  subst fk;rw[List.drop_length]at gV;simp only[tl]at gV;rw[gV]at hR;refine aL (ah ?_);refine az (ai ?_);apply aF rfl<;>intro h
  ·have hl:f.blocks.length=0:=by simpa using h
   rw[if_pos hl]at hR;refine az (ai ?_);refine ak ?_;simp -dsimp only[simprocAttr,↓I,zp,zr,Tryz.results21];rw[hR]
  have hl:¬f.blocks.length=0:=by simpa using h
  rw[if_neg hl]at hR;have hB:f.blocks[0]?=some (bQ f 0):=fg (f:=f) (k:=0) (by omega) (by omega);generalize bQ f 0=B at *;refine jb (⟨69,[(1,.ip none [aI f.name,aM f.blocks]),(2,aI 0),(27,.v (.bool (decide ((128:Int)<f.blocks.length) ||decide ((1024:Int)<m) ||decide ((6:Int)<B.params.length))))],[.gone]⟩) ?_ ?_
  ·cases hA:decide ((128:Int)<f.blocks.length)<;>cases UM:decide ((1024:Int)<m)<;>cases hC:decide ((6:Int)<B.params.length)
   all_goals
    refine dw hT hm ?_;simp -dsimp only[simprocAttr,↓I,zp,hA,UM,hC,hB];refine aY ?_;show bn _ _;refine zq rfl ?_ ?_;simp -dsimp only[simprocAttr,↓I,zp,zc]
    ·exact Sub.refl _
    rfl
  by_cases Fc:128<f.blocks.length∨1024<m∨6<B.params.length
  ·rw[if_pos Fc]at hR;have hd:(decide ((128:Int)<f.blocks.length) ||decide ((1024:Int)<m) ||decide ((6:Int)<B.params.length))=true:=by
    simp only[Bool.or_eq_true,decide_eq_true_eq];omega
   rw[hd];refine dS rfl ?_;refine az (ai ?_);refine ak ?_;simp -dsimp only[simprocAttr,↓I,zp,zr,Tryz.results21];rw[hR]
  rw[if_neg Fc]at hR;have hd:(decide ((128:Int)<f.blocks.length) ||decide ((1024:Int)<m) ||decide ((6:Int)<B.params.length))=false:=by
   simp only[Bool.or_eq_false_iff,decide_eq_false_iff_not];omega
  rw[hd];have S0:f.blocks.length<=128:=by omega
  have da:f.blocks≠[]:=fun e=>hl (by rw[e];rfl);cases hn:within f.name (-1) 1048575 with
  | false =>
   rw[if_pos hn]at hR;rw[hn]at hw;refine cP rfl ?_;refine az ?_;refine .inl ⟨_,hw,by simp only[av,aa.upto,zt,zu,ay,fN],ae ?_⟩;simp -dsimp only[simprocAttr,↓I,zp];refine ai ?_;refine dS rfl ?_;refine az (ai ?_);refine ak ?_;simp -dsimp only[simprocAttr,↓I,zp,zr,Tryz.results21];rw[hR]
  | true =>
   rw[if_neg (by simp[hn])]at hR;rw[hn]at hw;apply aF rfl<;>intro h
   ·cases h
   refine az ?_;refine .inl ⟨_,hw,by simp only[av,aa.upto,zt,zu,ay,fN],ae ?_⟩;simp -dsimp only[simprocAttr,↓I,zp];refine ai ?_;apply aF rfl<;>intro h
   ·cases h
   refine k7 ?_;refine az (ai ?_);refine bS (ai ?_);have s8:∀(ds:Defs) (k:Nat),k<f.blocks.length->aK Tryz.prog 33 [.gone,.map (.int .i64) (ds.map fD),.cells [aI f.name,aM f.blocks,.mm 1]] [.mp 2 0,aI k] (fun r O'=>r=aI (iT f ds k).1∧O'=[.gone,.map (.int .i64) ((iT f ds k).2.map fD),.cells [aI f.name,aM f.blocks,.mm 1]]):=fun ds k hk=>by
    have kB:(bQ f k).term.cases.length<=2 ^ 60:=by
     have hb:=List.mem_of_getElem? (fg (f:=f) (k:=k) (by omega) (by omega));have:=(fU.2.2 _ hb).2.2.2.2.2.2.2.2.1;omega
    exact B7 (O:=[.gone,.map (.int .i64) (ds.map fD),.cells [aI f.name,aM f.blocks,.mm 1]]) (c:=2) (d:=1) (by simp[aq.upto,av,aa.upto,Block.aj,fN]) (by omega) rfl rfl k (by omega) (by omega) (by omega) kB
   refine ah (a8 (ι:={x:Nat×Defs // x.1<=f.blocks.length∧fG f f.blocks.length 0 []=fG f (f.blocks.length-x.1) x.1 x.2}) (fun x=>⟨69,[(1,.ip none [aI f.name,aM f.blocks]),(2,aI 0),(6,.mp 2 0),(56,aI f.blocks.length),(57,aI x.1.1)],[.gone,.map (.int .i64) (x.1.2.map fD),.cells [aI f.name,aM f.blocks,.mm 1]]⟩) (fun x=>f.blocks.length-x.1.1) ⟨(0,[]),by simp,rfl⟩ ?_ ?_)
   ·refine zq rfl ?_ ?_;simp -dsimp only[simprocAttr,↓I,zp,zc];rfl
   rintro⟨⟨k,ds⟩,hk,gV⟩;simp only at hk gV;refine az (ai ?_);apply fK rfl<;>intro h
   ·refine bZ ?_;have bd:k<f.blocks.length:=by simpa using h
    rw[show f.blocks.length-k=f.blocks.length-(k+1)+1 by omega]at gV;simp only[fG]at gV;have hb:=s8 ds k bd;generalize iT f ds k=X at *;refine aL (ah ?_);refine az (ai ?_);refine az ?_;refine .inr (.inl ⟨_,_,hb,.inl (ae (zj ?_))⟩);refine ai ?_;by_cases hX:X.1=0
    ·have HE:decide (X.1=0)=true:=decide_eq_true hX;rw[if_neg (by simp[hX])]at gV;refine aG ?_;simp -dsimp only[simprocAttr,↓I,zp,HE];refine ai ?_;refine cP rfl ?_;refine k7 ?_;refine dA ?_
     repeat(refine⟨by omega,?_⟩)
     refine kv ?_;refine⟨⟨(k+1,X.2),by simp only;omega,gV⟩,by simp;omega,?_⟩;refine zq rfl ?_ ?_;simp -dsimp only[simprocAttr,↓I,zp,zc]
     ·exact Sub.int (by simp)
     rfl
    have HE:decide (X.1=0)=false:=decide_eq_false hX;rw[if_pos hX]at gV;rw[gV,if_pos hX]at hR;refine aG ?_;simp -dsimp only[simprocAttr,↓I,zp,HE];refine ai ?_;refine dS rfl ?_;refine az (ai ?_);refine ak ?_;simp -dsimp only[simprocAttr,↓I,zp,zr,Tryz.results21];rw[hR]
   refine aN ?_;simp -dsimp only[bH,ne_eq,Nat.reduceEqDiff,reduceCtorEq];have fk:k=f.blocks.length:=by simp at h;omega
   subst fk;rw[Nat.sub_self]at gV;simp only[fG]at gV;have Gq:(fG f f.blocks.length 0 []).1=0:=by rw[gV]
   have dt:=sj Gq;have WA:=(pz f.blocks.length 0 [] (.nil _) (by omega) (by simp) Gq).1;rw[gV]at WA;rw[gV,if_neg (by simp)]at hR;have Ut:=Gf f ds da S0 (fun b hb e he=>by
    have:=(qE (dt b hb).fin).2.2.2 e he;omega) WA.ok
   simp only at hR;rw[<-hR]at Ut;refine iG 1 rfl (by simp[aq.aJ]) trivial [(2,aI 0),(6,.mp 2 0)] ?_ 2 (by omega) _ [aI f.name,aM f.blocks,.im (.int .i64) (ds.map fD)] rfl rfl ?_ ?_ ?_
   ·intro s y hy;simp only[Go.Av.look]at hy;split at hy
    ·cases hy;rename_i e;subst e;exact⟨_,rfl,.refl _⟩
    split at hy
    ·cases hy;rename_i e;subst e;exact⟨_,rfl,.refl _⟩
    cases hy
   ·simp[aa.scalar]
   ·intro j c d hc hd
    match j,hc,hd with
    | 0,hc,hd =>
     cases hc;cases hd;exact .refl _
    | 1,hc,hd =>
     cases hc;cases hd;exact .refl _
    | 2,hc,hd =>
     cases hc;cases hd;exact .mm rfl
   show cG Tryz.prog _ _ _ ⟨_,_,[.gone,.gone,.cells [aI f.name,aM f.blocks,.im (.int .i64) (ds.map fD)]]⟩;refine aR 6 2 (.ip none [aI f.name,aM f.blocks,.im (.int .i64) (ds.map fD)]) rfl (by simp[aq.aJ]) trivial rfl ?_ ?_;rotate_left;simp -dsimp only[simprocAttr,↓I,zp]
   ·refine az ?_;refine .inl ⟨_,Ut,by simp only[av,aa.upto,zt,zu,ay,fN],ae ?_⟩;simp -dsimp only[simprocAttr,↓I,zp];refine ai ?_;refine ak ?_;simp -dsimp only[simprocAttr,↓I,zp,zr,Tryz.results21]
   exact cw.mp rfl rfl
 exact cw.mp rfl rfl
def kQ(u:cL)(i:bI):Int :=
 if i.op≠13∧i.op≠9 then 0
 else if(u.fns.length:Int)<=i.n then 4
 else if(i.op=13∧(bQ (dc u i.n) 0).params.length≠i.args.length)∨(i.op=9∧(bQ (dc u i.n) 0).params.length=0)then 3
 else 0
theorem B'(u:cL)(i:bI)(hn:i.op=13∨i.op=9->0<=i.n)(da:∀f∈u.fns,f.blocks≠[]):bw Tryz.prog 29 [u.enc,i.enc] (aI (kQ u i)):=by
 obtain⟨R,hR⟩:∃R,R=kQ u i:=⟨_,rfl⟩
 rw[<-hR];unfold kQ at hR;rcases(show(i.op≠13∧i.op≠9)∨i.op=13∨i.op=9 by omega)with h|h|h
 ·rw[if_pos h]at hR;have h1:decide (i.op=13)=false:=decide_eq_false h.1;have h2:decide (i.op=9)=false:=decide_eq_false h.2;refine zf true 0 Tryz.func29 Tryz.ntmps29 ?_;dsimp only[Tmp,TypeId,slotsOf];refine az (ai ?_);refine bR ?_;simp -dsimp only[simprocAttr,↓I,zp,h1,h2];refine ai ?_;refine dS rfl ?_;refine az (ai ?_);refine ak ?_;simp -dsimp only[simprocAttr,↓I,zp,zr,Tryz.results29];rw[hR]
 all_goals
  have hn:=hn (by omega);rw[if_neg (by omega)]at hR;by_cases hl:(u.fns.length:Int)<=i.n
  ·rw[if_pos hl]at hR;have h3:decide ((u.fns.length:Int)<=i.n)=true:=decide_eq_true hl;have KX:(decide (i.op=13)=true∧decide (i.op=9)=false)∨(decide (i.op=13)=false∧decide (i.op=9)=true):=by
    simp only[decide_eq_true_eq,decide_eq_false_iff_not];omega
   rcases KX with⟨h1,h2⟩|⟨h1,h2⟩
   all_goals
    refine zf true 0 Tryz.func29 Tryz.ntmps29 ?_;dsimp only[Tmp,TypeId,slotsOf];refine az (ai ?_);refine bR ?_;simp -dsimp only[simprocAttr,↓I,zp,h1,h2];refine ai ?_;refine cP rfl ?_;refine bZ ?_;refine bR ?_;simp -dsimp only[simprocAttr,↓I,zp,h3];refine ai ?_;refine dS rfl ?_;refine az (ai ?_);refine ak ?_;simp -dsimp only[simprocAttr,↓I,zp,zr,Tryz.results29];rw[hR]
  rw[if_neg hl]at hR;have h3:decide ((u.fns.length:Int)<=i.n)=false:=decide_eq_false hl;have hF:=lz (u:=u) (k:=i.n) hn (by omega);have U':=da _ (List.mem_of_getElem? hF);have ix:0<(dc u i.n).blocks.length:=by
   cases hb:(dc u i.n).blocks with
   | nil=>exact absurd hb U'
   | cons=>simp
  have hB:(dc u i.n).blocks[0]?=some (bQ (dc u i.n) 0):=fg (f:=dc u i.n) (k:=0) (by omega) (by omega);generalize bQ (dc u i.n) 0=B at *;generalize dc u i.n=F at *;have KX:(decide (i.op=13)=true∧decide (i.op=9)=false)∨(decide (i.op=13)=false∧decide (i.op=9)=true):=by
   simp only[decide_eq_true_eq,decide_eq_false_iff_not];omega
  rcases KX with⟨h1,h2⟩|⟨h1,h2⟩
  ·have g1:=of_decide_eq_true h1;have g2:=of_decide_eq_false h2;by_cases Tv:B.params.length=i.args.length
   ·rw[if_neg (by omega)]at hR;have hq:decide ((B.params.length:Int)=i.args.length)=true:=decide_eq_true (by omega);refine zf true 0 Tryz.func29 Tryz.ntmps29 ?_;dsimp only[Tmp,TypeId,slotsOf];refine az (ai ?_);refine bR ?_;simp -dsimp only[simprocAttr,↓I,zp,h1,h2];refine ai ?_;refine cP rfl ?_;refine bZ ?_;refine bR ?_;simp -dsimp only[simprocAttr,↓I,zp,h3];refine ai ?_;refine cP rfl ?_;refine bZ ?_;refine aG ?_;simp -dsimp only[simprocAttr,↓I,zp,hF,hB]
    repeat(refine⟨by omega,?_⟩)
    refine ai ?_;refine bR ?_;simp -dsimp only[simprocAttr,↓I,zp,h1,h2,hq];refine ai ?_;refine cP rfl ?_;refine bZ ?_;refine az (ai ?_);refine ak ?_;simp -dsimp only[simprocAttr,↓I,zp,zr,Tryz.results29];rw[hR]
   rw[if_pos (.inl ⟨g1,Tv⟩)]at hR;have hq:decide ((B.params.length:Int)=i.args.length)=false:=decide_eq_false (by omega);refine zf true 0 Tryz.func29 Tryz.ntmps29 ?_;dsimp only[Tmp,TypeId,slotsOf];refine az (ai ?_);refine bR ?_;simp -dsimp only[simprocAttr,↓I,zp,h1,h2];refine ai ?_;refine cP rfl ?_;refine bZ ?_;refine bR ?_;simp -dsimp only[simprocAttr,↓I,zp,h3];refine ai ?_;refine cP rfl ?_;refine bZ ?_;refine aG ?_;simp -dsimp only[simprocAttr,↓I,zp,hF,hB]
   repeat(refine⟨by omega,?_⟩)
   refine ai ?_;refine bR ?_;simp -dsimp only[simprocAttr,↓I,zp,h1,h2,hq];refine ai ?_;refine dS rfl ?_;refine az (ai ?_);refine ak ?_;simp -dsimp only[simprocAttr,↓I,zp,zr,Tryz.results29];rw[hR]
  have g1:=of_decide_eq_false h1;have g2:=of_decide_eq_true h2;by_cases Tv:B.params.length=0
  ·rw[if_pos (.inr ⟨g2,Tv⟩)]at hR;have hq:decide ((B.params.length:Int)=0)=true:=decide_eq_true (by omega);refine zf true 0 Tryz.func29 Tryz.ntmps29 ?_;dsimp only[Tmp,TypeId,slotsOf];refine az (ai ?_);refine bR ?_;simp -dsimp only[simprocAttr,↓I,zp,h1,h2];refine ai ?_;refine cP rfl ?_;refine bZ ?_;refine bR ?_;simp -dsimp only[simprocAttr,↓I,zp,h3];refine ai ?_;refine cP rfl ?_;refine bZ ?_;refine aG ?_;simp -dsimp only[simprocAttr,↓I,zp,hF,hB]
   repeat(refine⟨by omega,?_⟩)
   refine ai ?_;refine bR ?_;simp -dsimp only[simprocAttr,↓I,zp,h1,h2,hq];refine ai ?_;refine dS rfl ?_;refine az (ai ?_);refine ak ?_;simp -dsimp only[simprocAttr,↓I,zp,zr,Tryz.results29];rw[hR]
  rw[if_neg (by omega)]at hR;have hq:decide ((B.params.length:Int)=0)=false:=decide_eq_false (by omega);refine zf true 0 Tryz.func29 Tryz.ntmps29 ?_;dsimp only[Tmp,TypeId,slotsOf];refine az (ai ?_);refine bR ?_;simp -dsimp only[simprocAttr,↓I,zp,h1,h2];refine ai ?_;refine cP rfl ?_;refine bZ ?_;refine bR ?_;simp -dsimp only[simprocAttr,↓I,zp,h3];refine ai ?_;refine cP rfl ?_;refine bZ ?_;refine aG ?_;simp -dsimp only[simprocAttr,↓I,zp,hF,hB]
  repeat(refine⟨by omega,?_⟩)
  refine ai ?_;refine bR ?_;simp -dsimp only[simprocAttr,↓I,zp,h1,h2,hq];refine ai ?_;refine cP rfl ?_;refine bZ ?_;refine az (ai ?_);refine ak ?_;simp -dsimp only[simprocAttr,↓I,zp,zr,Tryz.results29];rw[hR]
theorem EA:∀(l:List Block) (m:Int),0<=m->m+2 ^ 48*(l.length:Int)<=2 ^ 60->(∀b∈l,b.ins.length<=2 ^ 47)->m<=tl m l∧∀b∈l,(b.ins.length:Int)<=tl m l
 | [],m,_,_,_=>⟨by simp[tl],by simp⟩
 | b::r,m,h0,h1,h2=>by
  have hb:=h2 b (by simp);simp only[List.length_cons]at h1;have hw:IntKind.i64.wrap (m+b.ins.length)=m+b.ins.length:=nc _ _ (by simp[IntKind.min,IntKind.bits,IntKind.signed];omega) (by simp[IntKind.max,IntKind.bits,IntKind.signed];omega);have ih:=EA r (m+b.ins.length) (by omega) (by omega) (fun x hx=>h2 x (by simp[hx]));simp only[tl,hw];refine⟨by omega,fun x hx=>?_⟩;rcases List.mem_cons.1 hx with q|q
  ·subst q;omega
  exact ih.2 x q
structure Sc(f:Func):Prop where
 ne:f.blocks≠[]
 oX:f.blocks.length<=128
 name:-1<=f.name∧f.name<=1048575
 args:(bQ f 0).params.length<=6
 ins:∀b∈f.blocks,b.ins.length<=1024
 blk:∀b∈f.blocks,Kw f b
 YI:xS f (fG f f.blocks.length 0 []).2=0
theorem gX{f:Func}(fU:f.fit)(h:bM f=0):Sc f:=by
 unfold bM at h;split at h
 ·simp at h
 rename_i h1;split at h
 ·simp at h
 rename_i h2;split at h
 ·simp at h
 rename_i h3;split at h
 ·rename_i h4;exact absurd h h4
 rename_i h4;have hw:=EA f.blocks 0 (by omega) (by omega) (fun b hb=>(fU.2.2 b hb).2.2.1);refine⟨fun e=>h1 (by rw[e];rfl),by omega,by simpa[within]using h3,by omega,fun b hb=>?_,sj (by simpa using h4),h⟩;have:=hw.2 b hb;omega
structure Sd(i:bI):Prop where
 op:0<=i.op∧i.op<=24
 len:i.args.length<=16
 c0:i.op=0->cu i.n∧i.args.length=0
 c2:(1<=i.op∧i.op<=7)∨i.op=16∨i.op=18∨i.op=19∨i.op=21∨i.op=23->i.args.length=2
 c1:i.op=10∨i.op=11∨i.op=12∨i.op=15∨i.op=17∨i.op=24->i.args.length=1
 c3:i.op=20->i.args.length=3
 T8:i.op=8->0<=i.n∧i.n<=255
 call:i.op=9∨i.op=13->0<=i.n∧i.n<=255
 app:i.op=14->1<=i.args.length
 Ux:i.op=11∨i.op=24->0<=i.n
 pack:i.op=22->(i.n=2∨i.n=4)∧(i.args.length:Int)=i.n
 vec:i.op=23->i.n=1∨i.n=2∨i.n=3
theorem D0{i:bI}(h:fi i=0):Sd i:=by
 unfold fi at h;split at h
 ·simp at h
 rename_i hA;split at h
 ·simp at h
 rename_i UN;split at h
 ·rename_i hN;have Xp:(bh i).2=true∧(0<=(bh i).1->(i.args.length:Int)=(bh i).1)∧(i.op=14->¬(i.args.length:Int)=0):=by
   simp only[xm,Bool.or_eq_true,Bool.not_eq_true',Bool.and_eq_true,decide_eq_true_eq,decide_eq_false_iff_not,not_or,not_and,Bool.not_eq_false,Decidable.not_not]at hA;exact⟨hA.1.1,hA.1.2,hA.2⟩
  obtain⟨a1,a2,a3⟩:=Xp;have hB:(i.op=8∨i.op=9->i.args.length<=16)∧(i.op=13∨i.op=14->i.args.length<=6):=by
   simp only[su,xn,Bool.or_eq_true,Bool.and_eq_true,decide_eq_true_eq,not_or,not_and]at UN;exact⟨fun q=>by have:=UN.1 q;omega,fun q=>by have:=UN.2 q;omega⟩
  obtain⟨b1,b2⟩:=hB;have gz:0<=i.op∧i.op<=24:=by
   unfold bh at a1;split at a1
   ·omega
   split at a1
   ·omega
   split at a1
   ·omega
   split at a1
   ·omega
   split at a1
   ·omega
   split at a1
   ·omega
   simp at a1
  have o0:i.op=0->bh i=(0,true):=fun q=>by unfold bh;rw[if_pos q]
  have o2:(1<=i.op∧i.op<=7)∨i.op=16∨i.op=18∨i.op=19∨i.op=21∨i.op=23->bh i=(2,true):=fun q=>by unfold bh;rw[if_neg (by omega),if_pos q]
  have o3:i.op=20->bh i=(3,true):=fun q=>by unfold bh;rw[if_neg (by omega),if_neg (by omega),if_pos q]
  have o1:i.op=10∨i.op=11∨i.op=12∨i.op=15∨i.op=17∨i.op=24->bh i=(1,true):=fun q=>by unfold bh;rw[if_neg (by omega),if_neg (by omega),if_neg (by omega),if_pos q]
  have YC:i.op=22->bh i=(i.n,decide (i.n=2∨i.n=4)):=fun q=>by unfold bh;rw[if_neg (by omega),if_neg (by omega),if_neg (by omega),if_neg (by omega),if_neg (by omega),if_pos q]
  have l0:i.op=0->i.args.length=0:=fun q=>by rw[o0 q]at a2;have:=a2 (by decide);simp only at this;omega
  have l2:=fun q=>by have:=a2;rw[o2 q]at this;exact this (by decide)
  have l3:=fun q=>by have:=a2;rw[o3 q]at this;exact this (by decide)
  have l1:=fun q=>by have:=a2;rw[o1 q]at this;exact this (by decide)
  have W7:i.op=22->(i.n=2∨i.n=4)∧(i.args.length:Int)=i.n:=fun q=>by
   rw[YC q]at a1 a2;have:i.n=2∨i.n=4:=of_decide_eq_true a1;exact⟨this,a2 (by simp only;omega)⟩
  have n0:i.op=0->cu i.n:=fun q=>by unfold cA at hN;rw[if_pos q]at hN;exact of_decide_eq_true hN
  have n8:i.op=8->0<=i.n∧i.n<=255:=fun q=>by unfold cA at hN;rw[if_neg (by omega),if_pos q]at hN;exact within_iff.1 hN
  have Yz:i.op=11->0<=i.n∧i.n<=15:=fun q=>by unfold cA at hN;rw[if_neg (by omega),if_neg (by omega),if_pos q]at hN;exact within_iff.1 hN
  have n9:i.op=9∨i.op=13->0<=i.n∧i.n<=255:=fun q=>by unfold cA at hN;rw[if_neg (by omega),if_neg (by omega),if_neg (by omega),if_pos q]at hN;exact within_iff.1 hN
  have YA:i.op=23->i.n=1∨i.n=2∨i.n=3:=fun q=>by unfold cA at hN;rw[if_neg (by omega),if_neg (by omega),if_neg (by omega),if_neg (by omega),if_pos q]at hN;exact of_decide_eq_true hN
  have YB:i.op=24->0<=i.n∧i.n<=3:=fun q=>by unfold cA at hN;rw[if_neg (by omega),if_neg (by omega),if_neg (by omega),if_neg (by omega),if_neg (by omega),if_pos q]at hN;exact within_iff.1 hN
  have L2:(1<=i.op∧i.op<=7)∨i.op=16∨i.op=18∨i.op=19∨i.op=21∨i.op=23->i.args.length=2:=fun q=>by have:=l2 q;omega
  have L1:i.op=10∨i.op=11∨i.op=12∨i.op=15∨i.op=17∨i.op=24->i.args.length=1:=fun q=>by have:=l1 q;omega
  have L3:i.op=20->i.args.length=3:=fun q=>by have:=l3 q;omega
  refine⟨gz,?_,fun q=>⟨n0 q,l0 q⟩,L2,L1,L3,n8,n9,fun q=>by have:=a3 q;omega,fun q=>?_,W7,YA⟩
  ·rcases(show i.op=0∨((1<=i.op∧i.op<=7)∨i.op=16∨i.op=18∨i.op=19∨i.op=21∨i.op=23)∨i.op=20∨(i.op=10∨i.op=11∨i.op=12∨i.op=15∨i.op=17∨i.op=24)∨(i.op=8∨i.op=9)∨(i.op=13∨i.op=14)∨i.op=22 by omega)with q|q|q|q|q|q|q
   ·have:=l0 q;omega
   ·have:=L2 q;omega
   ·have:=L3 q;omega
   ·have:=L1 q;omega
   ·have:=b1 q;omega
   ·have:=b2 q;omega
   have:=W7 q;omega
  rcases q with q|q
  ·exact(Yz q).1
  exact(YB q).1
 simp at h
structure Sb(f:Func)(t:Term):Prop where
 kind:0<=t.kind∧t.kind<=4
 to:t.kind=0∨t.kind=4->t.to=[]
 jump:t.kind=1->t.to.length=1
 cond:t.kind=2->t.to.length=2
 switch:t.kind=3->t.to.length=t.cases.length+1
 cases:t.cases.length<=256
 N6:t.kind=4->1<=t.n∧t.n<=6
 n:t.kind≠4->t.n=0
 ni:∀e∈t.to,(1<=e.block∧e.block<=(f.blocks.length:Int)-1)∧e.args.length=(bQ f e.block).params.length
theorem yu{f:Func}{t:Term}(h:yt f t=0):Sb f t:=by
 obtain⟨h1,h2,h3,h4⟩:=qE h;simp only[gD,Bool.and_eq_true,Bool.or_eq_true,decide_eq_true_eq]at h1;obtain⟨hk,⟨⟨he,_⟩,hn⟩,hc⟩:=h1;refine⟨hk,fun q=>?_,fun q=>?_,fun q=>?_,fun q=>?_,h2,h3,fun q=>hn.resolve_left q,h4⟩
 ·have:gi t=0:=by rcases q with q|q<;>simp[gi,q]
  rw[this]at he;exact List.length_eq_zero_iff.1 (by omega)
 ·have:gi t=1:=by simp[gi,q]
  omega
 ·have:gi t=2:=by simp[gi,q]
  omega
 have:gi t=t.cases.length+1:=by simp[gi,q]
 omega
def A6(a b:Int):Int:=if a≠0 then a else b
theorem j2{a b:Int}(h:a=0):A6 a b=b:=by simp[A6,h]
theorem pW{a b:Int}(h:¬a=0):A6 a b=a:=by simp[A6,h]
theorem xD(a b c:Int):A6 (A6 a b) c=A6 a (A6 b c):=by
 by_cases h:a=0
 ·rw[j2 h,j2 h]
 rw[pW h,pW h,pW h]
theorem vf{a b:Int}(h:A6 a b=0):a=0∧b=0:=by
 by_cases q:a=0
 ·exact⟨q,by rwa [j2 q]at h⟩
 rw[pW q]at h;exact absurd h q
def pI:List Func->Int
 | []=>0
 | f::r=>A6 (bM f) (pI r)
def uh(u:cL):List bI->Int
 | []=>0
 | i::r=>A6 (kQ u i) (uh u r)
def rC(u:cL):List Block->Int
 | []=>0
 | b::r=>A6 (uh u b.ins) (rC u r)
def pA(u:cL):List Func->Int
 | []=>0
 | f::r=>A6 (rC u f.blocks) (pA u r)
def lN(u:cL):Int :=
 if u.fns.length=0 then 3
 else if 256<u.fns.length then 2
 else if within u.main 0 ((u.fns.length:Int)-1)=false then 4
 else A6 (pI u.fns) (if 0<(bQ (dc u u.main) 0).params.length then 3 else pA u u.fns)
theorem pJ:∀{l:List Func},pI l=0->∀f∈l,bM f=0
 | [],_,f,h=>by simp at h
 | g::r,h,f,hf=>by
  have:=vf h;rcases List.mem_cons.1 hf with q|q
  ·subst q;exact this.1
  exact pJ this.2 f q
theorem Ck(u:cL)(fU:u.fit):bw Tryz.prog 15 [u.enc] (aI (lN u)):=by
 obtain⟨R,hR⟩:∃R,R=lN u:=⟨_,rfl⟩
 rw[<-hR];unfold lN at hR;have hw:=dX u.main 0 ((u.fns.length:Int)-1);have PS:u.fns.length<=2 ^ 47:=fU.2.1;refine zf true 0 Tryz.func15 Tryz.ntmps15 ?_;dsimp only[Tmp,TypeId,slotsOf];refine az (ai ?_);refine aR 1 0 (.ip none [cn u.fns,aI u.main]) rfl (by simp[aq.aJ]) trivial rfl ?_ ?_;rotate_left;simp -dsimp only[simprocAttr,↓I,zp]
 ·refine aL (ah ?_);by_cases h0:u.fns.length=0
  ·rw[if_pos h0]at hR;have hd:decide ((u.fns.length:Int)=0)=true:=decide_eq_true (by omega);refine aG ?_;simp -dsimp only[simprocAttr,↓I,zp,hd];refine ai ?_;refine dS rfl ?_;refine az (ai ?_);refine ak ?_;simp -dsimp only[simprocAttr,↓I,zp,zr,Tryz.results15];rw[hR]
  rw[if_neg h0]at hR;have hd:decide ((u.fns.length:Int)=0)=false:=decide_eq_false (by omega);refine aG ?_;simp -dsimp only[simprocAttr,↓I,zp,hd];refine ai ?_;apply aF rfl<;>intro h
  ·cases h
  by_cases h1:256<u.fns.length
  ·rw[if_pos h1]at hR;have hd:decide ((256:Int)<u.fns.length)=true:=decide_eq_true (by omega);refine aG ?_;simp -dsimp only[simprocAttr,↓I,zp,hd];refine ai ?_;refine dS rfl ?_;refine az (ai ?_);refine ak ?_;simp -dsimp only[simprocAttr,↓I,zp,zr,Tryz.results15];rw[hR]
  rw[if_neg h1]at hR;have hd:decide ((256:Int)<u.fns.length)=false:=decide_eq_false (by omega);refine aG ?_;simp -dsimp only[simprocAttr,↓I,zp,hd];refine ai ?_;apply aF rfl<;>intro h
  ·cases h
  cases HZ:within u.main 0 ((u.fns.length:Int)-1)with
  | false =>
   rw[if_pos HZ]at hR;rw[HZ]at hw;refine az ?_
   repeat(refine⟨by omega,?_⟩)
   refine zi hw ?_;refine ai ?_;refine dS rfl ?_;refine az (ai ?_);refine ak ?_;simp -dsimp only[simprocAttr,↓I,zp,zr,Tryz.results15];rw[hR]
  | true =>
   have D8:=within_iff.1 HZ;rw[if_neg (by simp[HZ])]at hR;rw[HZ]at hw;refine az ?_
   repeat(refine⟨by omega,?_⟩)
   refine zi hw ?_;refine ai ?_;apply aF rfl<;>intro h
   ·cases h
   refine k7 ?_;refine bS (ai ?_);refine ah (a8 (ι:={k:Nat // k<=u.fns.length∧pI u.fns=pI (u.fns.drop k)}) (fun k=>⟨87,[(1,.ip none [cn u.fns,aI u.main]),(2,aI 0),(33,cn u.fns),(34,aI u.fns.length),(35,aI k.1)],[.gone]⟩) (fun k=>u.fns.length-k.1) ⟨0,by omega,rfl⟩ ?_ ?_)
   ·refine zq rfl ?_ ?_;simp -dsimp only[simprocAttr,↓I,zp,zc];rfl
   rintro⟨k,hk,gV⟩;refine az (ai ?_);apply fK rfl<;>intro h
   ·refine bZ ?_;have bd:k<u.fns.length:=by simpa using h
    obtain⟨f,hf⟩:∃f,u.fns[k]?=some f:=⟨u.fns[k],by simp[bd]⟩
    have U0:=gM f (fU.2.2 f (List.mem_of_getElem? hf));rw[dL hf]at gV;simp only[pI]at gV;obtain⟨e,RS⟩:∃e,e=bM f:=⟨_,rfl⟩
    rw[<-RS]at gV U0;refine aL (ah ?_);refine aG ?_;simp -dsimp only[simprocAttr,↓I,zp,hf];refine ai ?_;refine aR 4 1 (.ip none [aI f.name,aM f.blocks]) rfl (by simp[aq.aJ]) trivial rfl ?_ ?_;rotate_left;simp -dsimp only[simprocAttr,↓I,zp]
    ·refine cK 1 [(1,.ip none [cn u.fns,aI u.main]),(2,aI 0),(33,cn u.fns),(34,aI u.fns.length),(35,aI k),(4,.ip none [aI f.name,aM f.blocks])] (by simp) (by omega) [.gone] ?_ ?_ ?_ ?_ ?_
     ·rfl
     ·simp[aq.upto,av,aa.upto,ay,Func.aj,Block.aj,Edge.aj,bI.aj]
     ·simp[jw,St.get,cd,bG,Go.Av.look,Sub.refl]
     ·simp[aq.upto,av,aa.upto,ay,Func.aj,Block.aj,Edge.aj,bI.aj]
     refine az ?_;refine zi U0 ?_;refine ai ?_;by_cases he:e=0
     ·have tv:decide (e=0)=true:=decide_eq_true he;rw[j2 he]at gV;refine aG ?_;simp -dsimp only[simprocAttr,↓I,zp,tv];refine ai ?_;refine cP rfl ?_;refine k7 ?_;refine dA ?_
      repeat(refine⟨by omega,?_⟩)
      refine kv ?_;refine⟨⟨k+1,bd,gV⟩,by simp;omega,?_⟩;refine zq rfl ?_ ?_;simp -dsimp only[simprocAttr,↓I,zp,zc]
      ·exact Sub.int (by simp)
      rfl
     have tv:decide (e=0)=false:=decide_eq_false he;rw[pW he]at gV;rw[gV,pW he]at hR;refine aG ?_;simp -dsimp only[simprocAttr,↓I,zp,tv];refine ai ?_;refine dS rfl ?_;refine az (ai ?_);refine ak ?_;simp -dsimp only[simprocAttr,↓I,zp,zr,Tryz.results15];rw[hR]
    exact cw.mp rfl rfl
   refine aN ?_;simp -dsimp only[bH,ne_eq,Nat.reduceEqDiff,reduceCtorEq];have fk:k=u.fns.length:=by simp at h;omega
   subst fk;rw[List.drop_length]at gV;have WD:pI u.fns=0:=by rw[gV];rfl
   rw[j2 WD]at hR;have dt:∀f∈u.fns,Sc f:=fun f hf=>gX (fU.2.2 f hf) (pJ WD f hf);have hM:=lz (u:=u) (k:=u.main) D8.1 (by omega);have YX:0<(dc u u.main).blocks.length:=by
    have:=(dt _ (List.mem_of_getElem? hM)).ne;cases hb:(dc u u.main).blocks with
    | nil=>exact absurd hb this
    | cons=>simp
   have hB:(dc u u.main).blocks[0]?=some (bQ (dc u u.main) 0):=fg (f:=dc u u.main) (k:=0) (by omega) (by omega);generalize bQ (dc u u.main) 0=B at *;generalize dc u u.main=F at *;by_cases hp:0<B.params.length
   ·rw[if_pos hp]at hR;have SL:decide ((0:Int)<B.params.length)=true:=decide_eq_true (by omega);refine bR ?_;simp -dsimp only[simprocAttr,↓I,zp,hM,hB,SL]
    repeat(refine⟨by omega,?_⟩)
    refine ai ?_;refine dS rfl ?_;refine az (ai ?_);refine ak ?_;simp -dsimp only[simprocAttr,↓I,zp,zr,Tryz.results15];rw[hR]
   rw[if_neg hp]at hR;have SL:decide ((0:Int)<B.params.length)=false:=decide_eq_false (by omega);refine bR ?_;simp -dsimp only[simprocAttr,↓I,zp,hM,hB,SL]
   repeat(refine⟨by omega,?_⟩)
   refine ai ?_;apply aF rfl<;>intro h
   ·cases h
   refine bZ ?_;refine bS (ai ?_);refine ah (a8 (ι:={k:Nat // k<=u.fns.length∧R=pA u (u.fns.drop k)}) (fun k=>⟨87,[(1,.ip none [cn u.fns,aI u.main]),(2,aI 0),(58,cn u.fns),(59,aI u.fns.length),(60,aI k.1)],[.gone]⟩) (fun k=>u.fns.length-k.1) ⟨0,by omega,hR⟩ ?_ ?_)
   ·refine zq rfl ?_ ?_;simp -dsimp only[simprocAttr,↓I,zp,zc];rfl
   rintro⟨k,hk,gV⟩;refine az (ai ?_);apply fK rfl<;>intro h
   ·refine bZ ?_;have bd:k<u.fns.length:=by simpa using h
    obtain⟨f,hf⟩:∃f,u.fns[k]?=some f:=⟨u.fns[k],by simp[bd]⟩
    have RU:=List.mem_of_getElem? hf;have ru:=(dt f RU).oX;rw[dL hf]at gV;simp only[pA]at gV;refine aL (ah ?_);refine aG ?_;simp -dsimp only[simprocAttr,↓I,zp,hf];refine ai ?_;refine aR 7 1 (.ip none [aI f.name,aM f.blocks]) rfl (by simp[aq.aJ]) trivial rfl ?_ ?_;rotate_left;simp -dsimp only[simprocAttr,↓I,zp]
    ·refine cK 1 [(1,.ip none [cn u.fns,aI u.main]),(2,aI 0),(58,cn u.fns),(59,aI u.fns.length),(60,aI k),(7,.ip none [aI f.name,aM f.blocks])] (by simp) (by omega) [.gone] ?_ ?_ ?_ ?_ ?_
     ·rfl
     ·simp[aq.upto,av,aa.upto,ay,Func.aj,Block.aj,Edge.aj,bI.aj]
     ·simp[jw,St.get,cd,bG,Go.Av.look,Sub.refl]
     ·simp[aq.upto,av,aa.upto,ay,Func.aj,Block.aj,Edge.aj,bI.aj]
     refine az (ai ?_);refine ah (a8 (ι:={j:Nat // j<=f.blocks.length∧R=A6 (rC u (f.blocks.drop j)) (pA u (u.fns.drop (k+1)))}) (fun j=>⟨87,[(1,.ip none [cn u.fns,aI u.main]),(2,aI 0),(58,cn u.fns),(59,aI u.fns.length),(60,aI k),(65,aM f.blocks),(66,aI f.blocks.length),(67,aI j.1)],[.gone]⟩) (fun j=>f.blocks.length-j.1) ⟨0,by omega,gV⟩ ?_ ?_)
     ·refine zq rfl ?_ ?_;simp -dsimp only[simprocAttr,↓I,zp,zc];rfl
     rintro⟨j,hj,k9⟩;refine az (ai ?_);apply fK rfl<;>intro h
     ·refine bZ ?_;have OB:j<f.blocks.length:=by simpa using h
      obtain⟨b,hb⟩:∃b,f.blocks[j]?=some b:=⟨f.blocks[j],by simp[OB]⟩
      have Gr:=List.mem_of_getElem? hb;have sx:=(dt f RU).ins b Gr;rw[dL hb]at k9;simp only[rC]at k9;rw[xD]at k9;refine aL (ah ?_);refine aG ?_;simp -dsimp only[simprocAttr,↓I,zp,hb];refine ai ?_;refine aR 9 1 (.ip none [bp b.params,cS b.ins,aI b.term.kind,aI b.term.arg,aI b.term.n,bp b.term.cases,bq b.term.to]) rfl (by simp[aq.aJ]) trivial rfl ?_ ?_;rotate_left;simp -dsimp only[simprocAttr,↓I,zp]
      ·refine cK 1 [(1,.ip none [cn u.fns,aI u.main]),(2,aI 0),(58,cn u.fns),(59,aI u.fns.length),(60,aI k),(65,aM f.blocks),(66,aI f.blocks.length),(67,aI j),(9,.ip none [bp b.params,cS b.ins,aI b.term.kind,aI b.term.arg,aI b.term.n,bp b.term.cases,bq b.term.to])] (by simp) (by omega) [.gone] ?_ ?_ ?_ ?_ ?_
       ·rfl
       ·simp[aq.upto,av,aa.upto,ay,Func.aj,Block.aj,Edge.aj,bI.aj]
       ·simp[jw,St.get,cd,bG,Go.Av.look,Sub.refl]
       ·simp[aq.upto,av,aa.upto,ay,Func.aj,Block.aj,Edge.aj,bI.aj]
       refine az (ai ?_);refine ah (a8 (ι:={z:Nat // z<=b.ins.length∧R=A6 (uh u (b.ins.drop z)) (A6 (rC u (f.blocks.drop (j+1))) (pA u (u.fns.drop (k+1))))}) (fun z=>⟨87,[(1,.ip none [cn u.fns,aI u.main]),(2,aI 0),(58,cn u.fns),(59,aI u.fns.length),(60,aI k),(65,aM f.blocks),(66,aI f.blocks.length),(67,aI j),(72,cS b.ins),(73,aI b.ins.length),(74,aI z.1)],[.gone]⟩) (fun z=>b.ins.length-z.1) ⟨0,by omega,k9⟩ ?_ ?_)
       ·refine zq rfl ?_ ?_;simp -dsimp only[simprocAttr,↓I,zp,zc];rfl
       rintro⟨z,hz,ql⟩;refine az (ai ?_);apply fK rfl<;>intro h
       ·refine bZ ?_;have Uo:z<b.ins.length:=by simpa using h
        obtain⟨i,hi⟩:∃i,b.ins[z]?=some i:=⟨b.ins[z],by simp[Uo]⟩
        rw[dL hi]at ql;simp only[uh]at ql;rw[xD]at ql;have XQ:=D0 (((dt f RU).blk b Gr).Og i (List.mem_of_getElem? hi));have iq:=B' u i (fun q=>(XQ.call (by omega)).1) (fun f hf=>(dt f hf).ne);obtain⟨e,RS⟩:∃e,e=kQ u i:=⟨_,rfl⟩
        rw[<-RS]at ql iq;refine aL (ah ?_);refine aG ?_;simp -dsimp only[simprocAttr,↓I,zp,hi];refine ai ?_;refine aR 11 1 (.ip none [aI i.to,aI i.op,aI i.n,bp i.args]) rfl (by simp[aq.aJ]) trivial rfl ?_ ?_;rotate_left;simp -dsimp only[simprocAttr,↓I,zp]
        ·refine cK 1 [(1,.ip none [cn u.fns,aI u.main]),(2,aI 0),(58,cn u.fns),(59,aI u.fns.length),(60,aI k),(65,aM f.blocks),(66,aI f.blocks.length),(67,aI j),(72,cS b.ins),(73,aI b.ins.length),(74,aI z),(11,.ip none [aI i.to,aI i.op,aI i.n,bp i.args])] (by simp) (by omega) [.gone] ?_ ?_ ?_ ?_ ?_
         ·rfl
         ·simp[aq.upto,av,aa.upto,ay,Func.aj,Block.aj,Edge.aj,bI.aj]
         ·simp[jw,St.get,cd,bG,Go.Av.look,Sub.refl]
         ·simp[aq.upto,av,aa.upto,ay,Func.aj,Block.aj,Edge.aj,bI.aj]
         refine az ?_;refine zi iq ?_;refine ai ?_;by_cases he:e=0
         ·have tv:decide (e=0)=true:=decide_eq_true he;rw[j2 he]at ql;refine aG ?_;simp -dsimp only[simprocAttr,↓I,zp,tv];refine ai ?_;refine cP rfl ?_;refine k7 ?_;refine dA ?_
          repeat(refine⟨by omega,?_⟩)
          refine kv ?_;refine⟨⟨z+1,Uo,ql⟩,by simp;omega,?_⟩;refine zq rfl ?_ ?_;simp -dsimp only[simprocAttr,↓I,zp,zc]
          ·exact Sub.int (by simp)
          rfl
         have tv:decide (e=0)=false:=decide_eq_false he;rw[pW he]at ql;refine aG ?_;simp -dsimp only[simprocAttr,↓I,zp,tv];refine ai ?_;refine dS rfl ?_;refine az (ai ?_);refine ak ?_;simp -dsimp only[simprocAttr,↓I,zp,zr,Tryz.results15];rw[ql]
        exact cw.mp rfl rfl
       refine aN ?_;simp -dsimp only[bH,ne_eq,Nat.reduceEqDiff,reduceCtorEq];have Qs:z=b.ins.length:=by simp at h;omega
       subst Qs;rw[List.drop_length]at ql;rw[j2 (by rfl)]at ql;refine dA ?_
       repeat(refine⟨by omega,?_⟩)
       refine kv ?_;refine⟨⟨j+1,OB,ql⟩,by simp;omega,?_⟩;refine zq rfl ?_ ?_;simp -dsimp only[simprocAttr,↓I,zp,zc]
       ·exact Sub.int (by simp)
       rfl
      exact cw.mp rfl rfl
     refine aN ?_;simp -dsimp only[bH,ne_eq,Nat.reduceEqDiff,reduceCtorEq];have uR:j=f.blocks.length:=by simp at h;omega
     subst uR;rw[List.drop_length]at k9;rw[j2 (by rfl)]at k9;refine dA ?_
     repeat(refine⟨by omega,?_⟩)
     refine kv ?_;refine⟨⟨k+1,bd,k9⟩,by simp;omega,?_⟩;refine zq rfl ?_ ?_;simp -dsimp only[simprocAttr,↓I,zp,zc]
     ·exact Sub.int (by simp)
     rfl
    exact cw.mp rfl rfl
   refine aN ?_;simp -dsimp only[bH,ne_eq,Nat.reduceEqDiff,reduceCtorEq];have fk:k=u.fns.length:=by simp at h;omega
   subst fk;rw[List.drop_length]at gV;refine az (ai ?_);refine ak ?_;simp -dsimp only[simprocAttr,↓I,zp,zr,Tryz.results15];rw[gV];rfl
 exact cw.mp rfl rfl
theorem gE.mono{u:cL}{m m':Mach}(h:∀a∈m.heap,∃b∈m'.heap,b.lI=a.lI){v:SV}(k:gE u m v):gE u m' v :=
 SV.Wf.mono (fun id ⟨a,ha,e⟩=>by
  obtain⟨b,hb,e'⟩:=h a ha;exact⟨b,hb,e'.trans e⟩) k
theorem gE.of_heap{u:cL}{m m':Mach}(h:m'.heap=m.heap){v:SV}(k:gE u m v):gE u m' v :=
 k.mono fun a ha=>⟨a,by rw[h];exact ha,rfl⟩
theorem gE.word{u:cL}{m:Mach}{n:Int}(h:cu n):gE u m (.word n):=SV.Wf.word h
theorem gE.zero{u:cL}{m:Mach}:gE u m .zero:=SV.Wf.zero
theorem jK{u:cL}{m:Mach}{l:List SV}(h:∀v∈l,gE u m v)(k:Nat):gE u m (cJ l k):=by
 unfold cJ;cases hk:l[k]? with
 | none=>exact gE.zero
 | some v=>exact h v (List.mem_of_getElem? hk)
theorem yA{u:cL}{m:Mach}{es:List (Int×SV)}(h:∀e∈es,gE u m e.2)(k:Int):gE u m (jA es k):=by
 unfold jA;cases hl:jk es k with
 | none=>exact gE.zero
 | some v =>
  obtain⟨e,h1,rfl⟩:=xC hl;exact h e h1
theorem rn{u:cL}{m:Mach}{es:List (Int×SV)}(h:∀e∈es,gE u m e.2)(l:List Int):∀v∈gH es l,gE u m v:=fun v hv=>by
 obtain⟨k,_,rfl⟩:=List.mem_map.1 hv;exact yA h k
theorem r7(es:List (Int×SV))(l:List Int):(gH es l).length=l.length:=by simp[gH]
theorem yW{u:cL}{m:Mach}{es:List (Int×SV)}(h:∀e∈es,gE u m e.2){k:Int}{v:SV}(hv:gE u m v):∀e∈fR es k v,gE u m e.2:=fun e he=>by
 rcases jF he with q|q
 ·exact h e q
 rw[q];exact hv
theorem zT{u:cL}{m:Mach}{es:List (Int×SV)}(h:∀e∈es,gE u m e.2){ps:List Int}{l:List SV}(hl:∀v∈l,gE u m v):∀e∈gL es ps l,gE u m e.2:=fun e he=>by
 rcases kL he with q|q
 ·exact h e q
 exact hl _ q
theorem qq(op a b:Int)(hb:cu b):(∃n,cu n∧(dp op a b).1=.word n)∧0<=(dp op a b).2∧(dp op a b).2<=6:=by
 have w1:=j9 (a+b);have w2:=j9 (a-b);have w3:=j9 (a*b);have w4:=j9 (a.tdiv b);have w0:cu 0:=by unfold cu;omega
 have YJ:cu 1:=by unfold cu;omega
 unfold dp
 repeat' split
 all_goals first
  | exact⟨⟨_,w1,rfl⟩,by simp⟩
  | exact⟨⟨_,w2,rfl⟩,by simp⟩
  | exact⟨⟨_,w3,rfl⟩,by simp⟩
  | exact⟨⟨_,w4,rfl⟩,by simp⟩
  | exact⟨⟨_,w0,rfl⟩,by simp⟩
  | exact⟨⟨_,YJ,rfl⟩,by simp⟩
  | exact⟨⟨_,vH hb (by assumption),rfl⟩,by simp⟩
theorem ve{u:cL}{m:Mach}{i:bI}{args:List SV}(h:∀v∈args,gE u m v):gE u m (c8 i args).1∧0<=(c8 i args).2∧(c8 i args).2<=6:=by
 have h0:=jK h 0;have hk:∀k,gE u m (cJ (cJ args 0).list k):=jK (SV.Wf.kids h0);have hl:=SV.Wf.len h0;unfold c8
 repeat' split
 all_goals first
  | exact⟨gE.zero,by simp⟩
  | exact⟨hk _,by simp⟩
  | exact⟨gE.word (SV.Wf.num h0 (by omega)),by simp⟩
  | exact⟨gE.word (by unfold cu;omega),by simp⟩
theorem EC{u:cL}{m:Mach}{op:Int}:∀(l r:List SV),(∀v∈r,cu v.n)->∀v∈kK op l r,gE u m v∧v.kind=0
 | [],_,_,v,h=>by simp[kK]at h
 | _::_,[],_,v,h=>by simp[kK]at h
 | a::l,b::r,hr,v,h=>by
  simp only[kK,List.mem_cons]at h;rcases h with rfl|h
  ·obtain⟨⟨n,h1,h2⟩,_⟩:=qq op a.n b.n (hr b (by simp));rw[h2];exact⟨gE.word h1,rfl⟩
  exact EC l r (fun v hv=>hr v (by simp[hv])) v h
theorem sa{u:cL}{m:Mach}{v:SV}(h:gE u m v)(hk:v.kind=4):v.list.length<=1000∧∀x∈v.list,cu x.n :=
 ⟨SV.Wf.len h,fun x hx=>SV.Wf.num (SV.Wf.kids h x hx) (.inl (SV.Wf.vec h hk x hx))⟩
theorem vP{u:cL}{m:Mach}{i:bI}{args:List SV}(h:∀v∈args,gE u m v)(hl:i.op=22->args.length<=1000)(h2:i.op≠22->i.op≠24->∃x y,args=[x,y]) :
  gE u m (dr i args).1∧0<=(dr i args).2∧(dr i args).2<=6:=by
 have h0:=jK h 0;have hk:∀k,gE u m (cJ (cJ args 0).list k):=jK (SV.Wf.kids h0);by_cases J9:i.op=22
 ·unfold dr;rw[if_pos J9];split
  ·rename_i ha;refine⟨.mk (by omega) (by omega) (by omega) (by omega) (fun _ v hv=>?_) (hl J9) (by simp) h,by simp⟩;simp only[kN,List.all_eq_true,decide_eq_true_eq]at ha;exact ha v hv
  exact⟨gE.zero,by simp⟩
 by_cases Of:i.op=24
 ·unfold dr;rw[if_neg J9,if_pos Of];split
  ·exact⟨gE.zero,by simp⟩
  exact⟨hk _,by simp⟩
 obtain⟨x,y,e⟩:=h2 J9 Of;subst e;unfold dr;rw[if_neg J9,if_neg Of];split
 ·exact⟨gE.zero,by simp⟩
 rename_i hn;have dt:kN [x,y] 4=true:=by
  cases hh:kN [x,y] 4
  ·exact absurd (.inl (by simp[hh])) hn
  rfl
 have fk:x.kind=4∧y.kind=4:=by simpa[kN]using dt
 have hx:=sa (h x (by simp)) fk.1;have hy:=sa (h y (by simp)) fk.2;have hz:=fun v hv=>EC (u:=u) (m:=m) (op:=i.n) x.list y.list hy.2 v hv;refine⟨.mk (by omega) (by omega) (by omega) (by omega) (fun _ v hv=>(hz v hv).2) ?_ (by simp) (fun v hv=>(hz v hv).1),by simp⟩;show(kK i.n x.list y.list).length<=1000;rw[vS];omega
structure ed(u:cL)(m:Mach)(r:Mach×SV×Int):Prop where
 frames:r.1.frames=m.frames
 u9:∀a∈m.heap,∃b∈r.1.heap,b.lI=a.lI
 val:gE u r.1 r.2.1
 N6:0<=r.2.2∧r.2.2<=6
 iF:∀a∈r.1.heap,a.l.length<=1024∧∀v∈a.l,gE u r.1 v
 left:0<=r.1.left∧r.1.left<=m.left
 out:r.1.out.length<=1000
 words:∀n∈r.1.out,cu n
 fin:r.1.fin=m.fin∧r.1.val=m.val
 over:r.1.over=false->m.over=false∧r.1.short=false
theorem ed.same{u:cL}{m:Mach}(hm:cx u m){v:SV}{t:Int}(hv:gE u m v)(ht:0<=t∧t<=6):ed u m (m,v,t) where
 frames:=rfl
 u9:=fun a ha=>⟨a,ha,rfl⟩
 val:=hv
 N6:=ht
 iF:=hm.iF
 left:=⟨hm.left,Int.le_refl _⟩
 out:=hm.out
 words:=hm.words
 fin:=⟨rfl,rfl⟩
 over:=fun h=>⟨h,(hm.over h).2⟩
theorem sL:∀(l:List BP) (id:Option Nat) (x:List SV),(∀a∈l,∃b∈Mach.kk l id x,b.lI=a.lI)∧(∀b∈Mach.kk l id x,∃a∈l,a.lI=b.lI∧a.nJ=b.nJ∧(b=a∨b.l=x))
 | [],_,_=>⟨by simp,by simp[Mach.kk]⟩
 | a::r,id,x=>by
  obtain⟨h1,h2⟩:=sL r id x;unfold Mach.kk;split
  ·exact⟨fun c hc=>by
    rcases List.mem_cons.1 hc with rfl|hc
    ·exact⟨⟨c.lI,c.nJ,x⟩,List.mem_cons_self,rfl⟩
    ·exact⟨c,by simp[hc],rfl⟩,fun b hb=>by
    rcases List.mem_cons.1 hb with rfl|hb
    ·exact⟨a,by simp,rfl,rfl,.inr rfl⟩
    exact⟨b,by simp[hb],rfl,rfl,.inl rfl⟩⟩
  exact⟨fun c hc=>by
   rcases List.mem_cons.1 hc with rfl|hc
   ·exact⟨_,by simp,rfl⟩
   ·obtain⟨b,hb,e⟩:=h1 c hc;exact⟨b,by simp[hb],e⟩,fun b hb=>by
   rcases List.mem_cons.1 hb with rfl|hb
   ·exact⟨b,by simp,rfl,rfl,.inl rfl⟩
   obtain⟨c,hc,e⟩:=h2 b hb;exact⟨c,by simp[hc],e⟩⟩
theorem oy:∀(l:List BP) (id:Nat),(∃a∈l,a.lI=id)->∃a∈l,a.lI=id∧Mach.jU l (some id)=a.l
 | [],_,h=>by simp at h
 | a::r,id,h=>by
  unfold Mach.jU;by_cases e:id=a.lI
  ·exact⟨a,by simp,e.symm,by simp[e]⟩
  obtain⟨b,hb,hv⟩:=h;rcases List.mem_cons.1 hb with rfl|hb
  ·exact absurd hv.symm e
  obtain⟨c,hc,h1,h2⟩:=oy r id ⟨b,hb,hv⟩;exact⟨c,by simp[hc],h1,by simp[e,h2]⟩
theorem GI{u:cL}{m:Mach}(hm:cx u m){v:SV}(hv:gE u m v)(hk:v.kind=3):∃a∈m.heap,v.arr=some a.lI∧Mach.jU m.heap v.arr=a.l:=by
 obtain⟨id,e⟩:=SV.Wf.array hv hk;obtain⟨a,ha,h1,h2⟩:=oy m.heap id (SV.Wf.ref hv id e);exact⟨a,ha,by rw[h1];exact e,by rw[e];exact h2⟩
theorem gO(m:Mach)(n:Int):(m.gn n).frames=m.frames∧(m.gn n).heap=m.heap∧(m.gn n).out=m.out∧(m.gn n).fin=m.fin∧(m.gn n).val=m.val∧(m.gn n).sid=m.sid∧(m.gn n).next=m.next:=by
 unfold Mach.gn;split<;>simp
theorem It{m:Mach}{n:Int}(h:0<=m.left)(hn:0<=n):0<=(m.gn n).left∧(m.gn n).left<=m.left:=by
 unfold Mach.gn;split<;>simp<;>omega
theorem zN{u:cL}{m:Mach}(hm:cx u m){x y:SV}(hy:gE u m y):ed u m (m.bU x y):=by
 obtain⟨p1,p2,p3,p4,p5,p6,p7⟩:=gO m x.n;unfold Mach.bU;split
 ·exact ed.same hm gE.zero (by omega)
 split
 ·exact ed.same hm gE.zero (by omega)
 rename_i hx hr;have AM:0<=x.n∧x.n<=1024:=by omega
 obtain⟨q1,q2⟩:=It hm.left AM.1;split
 ·rename_i hs;exact⟨p1,fun a ha=>⟨a,by rw[p2];exact ha,rfl⟩,gE.zero,by simp,fun a ha=>by
   have Gp:a∈m.heap:=p2 ▸ ha;exact⟨(hm.iF a Gp).1,fun v hv=>((hm.iF a Gp).2 v hv).of_heap p2⟩,⟨q1,q2⟩,by rw[p3];exact hm.out,by rw[p3];exact hm.words,⟨p4,p5⟩,fun h=>by
   exfalso;unfold Mach.gn at hs h;split at hs
   ·rename_i bd;rw[if_pos bd]at h;cases h
   rename_i bd;rw[if_neg bd]at h;have:=(hm.over h).2;simp only at hs;rw[this]at hs;cases hs⟩
 rename_i hs;refine⟨p1,fun a ha=>⟨a,by simp[ha],rfl⟩,?_,by simp,fun a ha=>?_,⟨q1,q2⟩,by simp only[p3];exact hm.out,by simp only[p3];exact hm.words,⟨p4,p5⟩,fun h=>⟨?_,by simpa using hs⟩⟩
 ·exact .mk (by omega) (by omega) (by omega) (fun _=>⟨_,rfl⟩) (by omega) (by simp) (fun id e=>by
   simp only[Option.some.injEq]at e;exact⟨_,List.mem_append_right _ (List.mem_singleton.2 rfl),e⟩) (by simp)
 ·have hk:∀v,gE u m v->gE u ({ m.gn x.n with heap:=m.heap++[⟨m.next+8,m.next+7,List.replicate x.n.toNat y⟩],next:=m.next+9 }:Mach) v:=fun v hv=>hv.mono fun b hb=>⟨b,by simp[hb],rfl⟩
  simp only[List.mem_append,List.mem_singleton]at ha;rcases ha with ha|rfl
  ·exact⟨(hm.iF a ha).1,fun v hv=>hk v ((hm.iF a ha).2 v hv)⟩
  refine⟨by simp;omega,fun v hv=>?_⟩;rw[(List.mem_replicate.1 hv).2];exact hk y hy
 simp only at h;unfold Mach.gn at h;split at h
 ·cases h
 exact h
theorem xi{u:cL}{m:Mach}(hm:cx u m){i:bI}{args:List SV}(h:∀v∈args,gE u m v):ed u m (m.effect i args):=by
 have w0:cu 0:=by unfold cu;omega
 have h0:=jK h 0;have h1:=jK h 1;have h2:=jK h 2;unfold Mach.effect;split
 ·split
  ·exact ed.same hm gE.zero (by omega)
  split
  ·exact ed.same hm gE.zero (by omega)
  rename_i hk hl;refine⟨rfl,fun a ha=>⟨a,ha,rfl⟩,gE.word w0,by simp,fun a ha=>⟨(hm.iF a ha).1,fun v hv=>((hm.iF a ha).2 v hv).of_heap rfl⟩,⟨hm.left,Int.le_refl _⟩,?_,fun n hn=>?_,⟨rfl,rfl⟩,fun h=>⟨h,(hm.over h).2⟩⟩
  ·have:=hm.out;simp;omega
  simp only[List.mem_append,List.mem_singleton]at hn;rcases hn with hn|rfl
  ·exact hm.words n hn
  exact SV.Wf.num h0 (.inl (by omega))
 split
 ·exact zN hm h1
 split
 ·split
  ·exact ed.same hm gE.zero (by omega)
  split
  ·exact ed.same hm gE.zero (by omega)
  exact ed.same hm (gE.word w0) (by omega)
 split
 ·exact ed.same hm gE.zero (by omega)
 rename_i hk;obtain⟨a,ha,e1,e2⟩:=GI hm h0 (by omega);rw[e2];have mA:=(hm.iF a ha).1;split
 ·exact ed.same hm (gE.word (by unfold cu;omega)) (by omega)
 split
 ·exact ed.same hm gE.zero (by omega)
 split
 ·exact ed.same hm (jK (hm.iF a ha).2 _) (by omega)
 obtain⟨s1,s2⟩:=sL m.heap (cJ args 0).arr (a.l.set (cJ args 1).n.toNat (cJ args 2));have Um:∀v,gE u m v->gE u ({ m with heap:=Mach.kk m.heap (cJ args 0).arr (a.l.set (cJ args 1).n.toNat (cJ args 2)) }:Mach) v:=fun v hv=>hv.mono s1;refine⟨rfl,s1,gE.word w0,by simp,fun b hb=>?_,⟨hm.left,Int.le_refl _⟩,hm.out,hm.words,⟨rfl,rfl⟩,fun h=>⟨h,(hm.over h).2⟩⟩;obtain⟨c,hc,_,_,e⟩:=s2 b hb;rcases e with e|e
 ·rw[e];exact⟨(hm.iF c hc).1,fun v hv=>Um v ((hm.iF c hc).2 v hv)⟩
 rw[e];refine⟨by simpa using mA,fun v hv=>Um v ?_⟩;rcases List.mem_or_eq_of_mem_set hv with q|q
 ·exact(hm.iF a ha).2 v q
 rw[q];exact h2
theorem yx{u:cL}{m:Mach}(hm:cx u m){i:bI}(hi:GB u i){args:List SV}(hl:args.length=i.args.length)(h:∀v∈args,gE u m v):ed u m (m.exec i args):=by
 have h0:=jK h 0;unfold Mach.exec;split
 ·exact ed.same hm (gE.word (hi.c0 (by assumption))) (by omega)
 split
 ·split
  ·exact ed.same hm gE.zero (by omega)
  rename_i ho hk;have dt:kN args 0=true:=by simpa using hk
  have CM:=hi.c2 (.inl ho);have Wg:cJ args 1∈args:=by
   unfold cJ;rw[List.getElem?_eq_getElem (by omega)];exact List.getElem_mem _
  simp only[kN,List.all_eq_true,decide_eq_true_eq]at dt;obtain⟨⟨n,q1,q2⟩,q3⟩:=qq i.op (cJ args 0).n (cJ args 1).n (SV.Wf.num (h _ Wg) (.inl (dt _ Wg)));have:dp i.op (cJ args 0).n (cJ args 1).n=(.word n,(dp i.op (cJ args 0).n (cJ args 1).n).2):=by rw[<-q2]
  rw[this];exact ed.same hm (gE.word q1) q3
 split
 ·rename_i ho;exact ed.same hm (.mk (by omega) (fun _=>(hi.T8 ho).1) (by omega) (by omega) (by omega) (by have:=(hi.T8 ho).2;omega) (by simp) h) (by omega)
 split
 ·rename_i ho;obtain⟨c1,c2,c3⟩:=hi.UF ho;exact ed.same hm (.mk (by omega) (by omega) (fun _=>⟨c1,c2⟩) (by omega) (by omega) (by omega) (by simp) h) (by omega)
 split
 ·obtain⟨q1,q2⟩:=ve (i:=i) h;exact ed.same hm q1 q2
 split
 ·rename_i ho;obtain⟨q1,q2⟩:=vP (i:=i) h (fun e=>by have:=hi.pack e;omega) (fun e1 e2=>by
   have:=hi.c2 (by omega)
   match args,hl with
   | [x,y],_=>exact⟨x,y,rfl⟩
   | [],hl=>simp at hl;omega
   | [x],hl=>simp at hl;omega
   | x::y::z::r,hl=>simp at hl;omega)
  exact ed.same hm q1 q2
 split
 ·exact ed.same hm h0 (by omega)
 exact xi hm h
theorem nF.mono{u:cL}{m m':Mach}(h:∀a∈m.heap,∃b∈m'.heap,b.lI=a.lI){f:Fr}(k:nF u m f):nF u m' f :=
 ⟨k.fn,k.blk,k.pos,fun e he=>(k.vals e he).mono h⟩
theorem nF.of_heap{u:cL}{m m':Mach}(h:m'.heap=m.heap){f:Fr}(k:nF u m f):nF u m' f:=k.mono fun a ha=>⟨a,by rw[h];exact ha,rfl⟩
theorem ma{u:cL}{k:Int}(h0:0<=k)(h1:k<u.fns.length):dc u k∈u.fns:=List.mem_of_getElem? (lz h0 h1)
theorem iW{f:Func}{k:Int}(h0:0<=k)(h1:k<f.blocks.length):bQ f k∈f.blocks:=List.mem_of_getElem? (fg h0 h1)
theorem Sl{u:cL}(hu:mC u){k:Int}(h0:0<=k)(h1:k<u.fns.length):(0:Int)<=0∧(0:Int)<(dc u k).blocks.length:=by
 have:=List.length_pos_iff.2 (hu.ne _ (ma h0 h1)).1;omega
theorem cx.stop{u:cL}{m:Mach}(hm:cx u m){e n:Int}(he:0<=e∧e<=6)(hn:cu n)(hz:e≠0->n=0):cx u (m.stop e n) where
 frames:=fun f hf=>(hm.frames f hf).of_heap (by rfl)
 iF:=fun a ha=>⟨(hm.iF a ha).1,fun v hv=>((hm.iF a ha).2 v hv).of_heap (by rfl)⟩
 left:=hm.left
 depth:=hm.depth
 out:=hm.out
 words:=hm.words
 fin:=he
 val:=hn
 done:=hz
 over:=fun h=>by cases h
theorem cx.bX{u:cL}{m:Mach}(hm:cx u m){f:Fr}(da:m.frames≠[])(hf:nF u m f):cx u (m.bX f) where
 frames:=fun g hg=>by
  rcases List.mem_cons.1 hg with rfl|hg
  ·exact hf.of_heap (by rfl)
  exact(hm.frames g (List.mem_of_mem_tail hg)).of_heap (by rfl)
 iF:=fun a ha=>⟨(hm.iF a ha).1,fun v hv=>((hm.iF a ha).2 v hv).of_heap (by rfl)⟩
 left:=hm.left
 depth:=by
  have h1:=hm.depth;have h2:=List.length_pos_iff.2 da;have h3:(m.bX f).frames.length=m.frames.length:=by
   simp only[Mach.bX,List.length_cons,List.length_tail];omega
  rw[h3];exact h1
 out:=hm.out
 words:=hm.words
 fin:=hm.fin
 val:=hm.val
 done:=hm.done
 over:=fun h=>⟨by simp[Mach.bX],(hm.over h).2⟩
theorem cx.enter{u:cL}{m:Mach}(hu:mC u)(hm:cx u m)(hs:m.over=false->m.short=false)(hd:m.frames.length+m.left+1<=2 ^ 40){fn:Int}(pP:0<=fn∧fn<u.fns.length){args:List SV}(ha:∀v∈args,gE u m v)(to:Int) :
  cx u (m.enter u fn args to) where
 frames:=fun g hg=>by
  rcases List.mem_cons.1 hg with rfl|hg
  ·exact⟨pP,Sl hu pP.1 pP.2,Nat.zero_le _,zT (by simp) (fun v hv=>(ha v hv).of_heap (by rfl))⟩
  exact(hm.frames g hg).of_heap (by rfl)
 iF:=fun a ha=>⟨(hm.iF a ha).1,fun v hv=>((hm.iF a ha).2 v hv).of_heap (by rfl)⟩
 left:=hm.left
 depth:=by
  simp only[Mach.enter,List.length_cons];omega
 out:=hm.out
 words:=hm.words
 fin:=hm.fin
 val:=hm.val
 done:=hm.done
 over:=fun h=>⟨by simp[Mach.enter],hs h⟩
theorem cx.follow{u:cL}{m:Mach}(hm:cx u m)(da:m.frames≠[]){f:Fr}(hf:nF u m f){e:Edge}(he:xU (dc u f.fn) e):cx u (m.follow u f e) :=
 hm.bX da ⟨hf.fn,⟨he.lo,he.hi⟩,Nat.zero_le _,zT hf.vals (rn hf.vals _)⟩
theorem cx.leave{u:cL}{m:Mach}(hm:cx u m)(da:m.frames≠[]){f:Fr}{v:SV}(hv:gE u m v)(ho:m.over=false):cx u (m.leave f v):=by
 have hz:cu 0:=by unfold cu;omega
 unfold Mach.leave;cases ht:m.frames.tail with
 | nil =>
  simp only;have h0:cx u ({ m with frames:=[],over:=true }:Mach) :=
   ⟨by simp,fun a ha=>⟨(hm.iF a ha).1,fun v hv=>((hm.iF a ha).2 v hv).of_heap (by rfl)⟩,hm.left,by have:=hm.depth;simp;omega,hm.out,hm.words,hm.fin,hm.val,hm.done,fun h=>by cases h⟩
  refine h0.stop (e:=0) (by omega) ?_ (by simp);split
  ·exact SV.Wf.num hv (by assumption)
  exact hz
 | cons g r =>
  simp only;have hg:g∈m.frames:=List.mem_of_mem_tail (by rw[ht];simp);have hr:∀x∈r,x∈m.frames:=fun x hx=>List.mem_of_mem_tail (by rw[ht];simp[hx]);have hl:r.length+1<=m.frames.length:=by
   have h1:m.frames.tail.length=r.length+1:=by rw[ht];rfl
   simp at h1;omega
  have Ui:=hm.frames g hg;exact⟨fun x hx=>by
   rcases List.mem_cons.1 hx with rfl|hx
   ·exact⟨Ui.fn,Ui.blk,Ui.pos,fun e he=>(yW Ui.vals hv e he).of_heap (by rfl)⟩
   exact(hm.frames x (hr x hx)).of_heap (by rfl),fun a ha=>⟨(hm.iF a ha).1,fun v hv=>((hm.iF a ha).2 v hv).of_heap (by rfl)⟩,hm.left,by have:=hm.depth;simp only[List.length_cons];omega,hm.out,hm.words,hm.fin,hm.val,hm.done,fun h=>⟨by simp,(hm.over h).2⟩⟩
theorem xg{f:Func}{t:Term}(ht:xY f t)(h0:t.kind≠0)(h1:t.kind≠1)(h4:t.kind≠4)(n:Int):∃e,t.to[je t n]?=some e:=by
 have hk:=ht.kind;have bd:je t n<t.to.length:=by
  unfold je;by_cases h2:t.kind=2
  ·rw[if_pos h2,ht.cond h2];split<;>omega
  rw[if_neg h2,ht.switch (by omega)];have:=List.findIdx_le_length (xs:=t.cases) (p:=(· == n));omega
 exact⟨_,List.getElem?_eq_getElem bd⟩
theorem cx.finish{u:cL}{m:Mach}(hm:cx u m)(ho:m.over=false){f:Fr}(hf:nF u m f){t:Term}(ht:xY (dc u f.fn) t):cx u (m.finish u f t):=by
 have hz:cu 0:=by unfold cu;omega
 have da:=(hm.over ho).1;unfold Mach.finish;split
 ·exact hm.stop ht.n hz (fun _=>rfl)
 rename_i h4;split
 ·rename_i h1;have hl:=ht.jump h1;have he:t.to[0]?=some (t.to[0]'(by omega)):=List.getElem?_eq_getElem _;rw[he];exact hm.follow da hf (ht.ni _ (List.getElem_mem _))
 rename_i h1;split
 ·exact hm.leave da (yA hf.vals _) ho
 rename_i h0;split
 ·exact hm.stop (by omega) hz (fun _=>rfl)
 obtain⟨e,he⟩:=xg ht h0 h1 h4 (jA f.vals t.arg).n;rw[he];exact hm.follow da hf (ht.ni _ (List.mem_of_getElem? he))
theorem cx.settle{u:cL}{m:Mach}(hm:cx u m)(da:m.frames≠[]){f:Fr}(hf:nF u m f){r:Mach×SV×Int}(hr:ed u m r)(to:Int):cx u (Mach.settle f to r):=by
 have hz:cu 0:=by unfold cu;omega
 have h1:cx u r.1:=⟨fun g hg=>(hm.frames g (hr.frames ▸ hg)).mono hr.u9,hr.iF,hr.left.1,by
  have:=hm.depth;have:=hr.left.2;rw[hr.frames];omega,hr.out,hr.words,by rw[hr.fin.1];exact hm.fin,by rw[hr.fin.2];exact hm.val,by rw[hr.fin.1,hr.fin.2];exact hm.done,fun h=>⟨by rw[hr.frames];exact da,(hr.over h).2⟩⟩
 have ez:nF u r.1 f:=hf.mono hr.u9;have Tk:r.1.frames≠[]:=by rw[hr.frames];exact da
 unfold Mach.settle;split
 ·refine(h1.stop hr.N6 hz (fun _=>rfl)).bX Tk ?_;have K':nF u (r.1.stop r.2.2 0) f:=ez.of_heap (by rfl);exact⟨K'.fn,K'.blk,K'.pos,yW K'.vals (hr.val.of_heap (by rfl))⟩
 exact h1.bX Tk ⟨ez.fn,ez.blk,ez.pos,yW ez.vals hr.val⟩
theorem cx.step{u:cL}{m:Mach}(hu:mC u)(hm:cx u m)(ho:m.over=false)(hd:m.frames.length+m.left+1<=2 ^ 40):cx u (m.step u):=by
 have hz:cu 0:=by unfold cu;omega
 obtain⟨da,lT⟩:=hm.over ho;unfold Mach.step;cases ez:m.frames with
 | nil=>exact absurd ez da
 | cons f r =>
  have hf:=hm.frames f (by rw[ez];simp);have hF:=ma hf.fn.1 hf.fn.2;have hB:=iW hf.blk.1 hf.blk.2;have hb:=hu.blocks _ hF _ hB;simp only;cases hi:(bQ (dc u f.fn) f.blk).ins[f.pos]? with
  | none=>exact hm.finish ho hf hb.term
  | some i =>
   simp only;have CL:=hb.ins i (List.mem_of_getElem? hi);have bd:=ag hi;have nC:nF u m { f with pos:=f.pos+1 }:=⟨hf.fn,hf.blk,bd,hf.vals⟩
   have h1:=hm.bX da nC;have HF:nF u (m.bX { f with pos:=f.pos+1 }) { f with pos:=f.pos+1 }:=nC.of_heap (by rfl);have D7:(m.bX { f with pos:=f.pos+1 }).frames.length=m.frames.length:=by
    simp[Mach.bX,ez]
   have ha:=rn HF.vals i.args;have mA:=r7 f.vals i.args;unfold Mach.act;split
   ·rename_i Ka;obtain⟨c1,c2,c3⟩:=CL.call Ka;exact h1.enter hu (fun _=>lT) (by rw[D7];exact hd) ⟨c1,c2⟩ ha _
   split
   ·split
    ·rename_i hk;exact h1.enter hu (fun _=>lT) (by rw[D7];exact hd) (SV.Wf.fn (jK ha 0) hk.1) ha _
    exact h1.stop (by omega) hz (fun _=>rfl)
   exact h1.settle (by simp[Mach.bX]) HF (yx h1 CL mA ha) _
theorem Gb(u:cL)(m:Mach)(hm:cx u m)(hu:mC u)(ho:m.over=false):(m.step u).left<=m.left:=by
 obtain⟨da,lT⟩:=hm.over ho;have PZ:∀(m:Mach) f v,(m.leave f v).left=m.left:=fun m f v=>by
  unfold Mach.leave;split<;>rfl
 unfold Mach.step;cases ez:m.frames with
 | nil=>exact absurd ez da
 | cons f r =>
  have hf:=hm.frames f (by rw[ez];simp);have hb:=hu.blocks _ (ma hf.fn.1 hf.fn.2) _ (iW hf.blk.1 hf.blk.2);simp only;cases hi:(bQ (dc u f.fn) f.blk).ins[f.pos]? with
  | none =>
   simp only;unfold Mach.finish
   repeat' split
   all_goals first
    | exact Int.le_refl _
    | exact Int.le_of_eq (PZ _ _ _)
  | some i =>
   simp only;have CL:=hb.ins i (List.mem_of_getElem? hi);have bd:=ag hi;have nC:nF u m { f with pos:=f.pos+1 }:=⟨hf.fn,hf.blk,bd,hf.vals⟩
   have h1:=hm.bX da nC;unfold Mach.act;split
   ·exact Int.le_refl _
   split
   ·split<;>exact Int.le_refl _
   have hx:=yx h1 CL (r7 f.vals i.args) (rn (fun e he=>(hf.vals e he).of_heap (by rfl)) i.args);have hl:=hx.left.2;unfold Mach.settle;split<;>exact hl
def ml(cs:List aa)(n:Nat)(id:Nat):List aa:=cs.take n++[.mp id 0]
theorem l7(a b c:Nat):(aa.os a b c).cells=[.os a b c]:=rfl
theorem sn(a b:Nat):aw [.mp a b]=[.mp a b]:=rfl
theorem Cx{u:cL}{m:Mach}{O:List aq}(aW:∀o∈O,o.upto O.length)(h0:O[2]?=some (.cells (aD u m))){cs:List aa}(dD:O[m.sid]?=some (.cells cs))(iq:m.frames.length<=cs.length)(da:m.sid≠2)(hN:O.length=m.next)
  (hd:m.frames.length<=2 ^ 41) (fn:Int) (pP:0<=fn∧fn<u.fns.length) (hb:(dc u fn).blocks≠[]) (args:List SV) (hl:∀v∈args,SV.bj O.length v) (hp:(bQ (dc u fn) 0).params.length=args.length) (to:Int) :
  aK Tryz.prog 30 O [.mp 2 0,aI fn,.aB 4 (args.map SV.enc) .sh,aI to] (fun r O'=>r=.cN []∧O'=((O.set m.sid .gone).set 2 (.cells (aD u (m.enter u fn args to)))) ++
   [.map (.int .i64) ((gL [] (bQ (dc u fn) 0).params args).map gU),.cells [aI fn,aI 0,aI 0,aI to,.mm O.length],.cells (ml cs m.frames.length (O.length+1))]):=by
 have hF:=lz pP.1 pP.2;have hB:=fg (f:=dc u fn) (k:=0) (by omega) (by
  have:=List.length_pos_iff.2 hb;omega)
 generalize UM:bQ (dc u fn) 0=B at *;generalize Xu:dc u fn=F at *;have hB:F.blocks[0]?=some B:=hB;have E7:∀X,(O++X)[2]?=some (.cells (aD u m)):=fun X=>dK h0;unfold aD at E7;have eW:=ag h0;have VJ:∀X,(O++X)[m.sid]?=some (.cells cs):=fun X=>dK dD;have PW:(O.set m.sid .gone)[2]?=some (.cells (aD u m)):=bN h0 da;have e1:∀X,(O++X).set m.sid .gone=O.set m.sid .gone++X:=fun X=>kX dD;have e2:∀X,(O.set m.sid .gone++X)[2]?=some (.cells (aD u m)):=fun X=>dK PW;have e3:∀X y,(O.set m.sid .gone++X).set 2 y=(O.set m.sid .gone).set 2 y++X:=fun X y=>kX PW;unfold aD at e2;have D7:m.frames.length*1<=cs.length:=by omega
 have eF:((m.frames.length:Nat):Int)+1=((m.frames.length+1:Nat):Int):=by omega
 have OK:[cn u.fns,aI u.main,.os (O.length+2) (m.frames.length+1) 1,aI m.left,.v (.bool m.short),.v (.bool m.over),.aB 1 (m.out.map aI) (.tok 3),aI m.fin,aI m.val]=aD u (m.enter u fn args to):=by
  simp[aD,Mach.enter,hN]
 have iz:=bx (n:=O.length+3) (ds:=aD u (m.enter u fn args to)) (bT (k:=m.sid) (x:=.gone) (fun o ho=>aq.cR (by omega) (aW o ho)) trivial) PW (fun h=>by
  simp only[aD,av,aa.upto,ay,Func.aj,true_and,and_true,Mach.enter]at h ⊢;omega)
 obtain⟨O2,tt⟩:∃O2,O2=(O.set m.sid .gone).set 2 (.cells (aD u (m.enter u fn args to))):=⟨_,rfl⟩
 have hlen:O.length=O2.length:=by rw[tt];simp
 simp only[<-tt]at iz ⊢;rw[hlen]at iz;refine zf true (O.length+3) Tryz.func30 Tryz.ntmps30 ?_;dsimp only[Tmp,TypeId,slotsOf];refine az (ai ?_);refine bR ?_;simp -dsimp only[simprocAttr,↓I,zp,E7,hF,hB]
 repeat(refine⟨by omega,?_⟩)
 refine ai ?_;refine gF 2 rfl (fun mA=>?_);simp only[List.length_map]at mA;refine ah (a8 (ι:={j:Nat // j<=B.params.length}) (fun j=>⟨54,[(0,.mp 2 0),(2,.aB 4 (args.map SV.enc) .sh),(8,.mp (O.length+1) 0),(27,bp B.params),(28,aI B.params.length),(29,aI j.1)],O++[.map (.int .i64) ((gL [] (B.params.take j.1) (args.take j.1)).map gU),.cells [aI fn,aI 0,aI 0,aI to,.mm O.length]]⟩) (fun j=>B.params.length-j.1) ⟨0,by omega⟩ ?_ ?_)
 ·refine zq rfl ?_ ?_;simp -dsimp only[simprocAttr,↓I,zp,zc];rw[ua];rfl
 rintro⟨j,hj⟩;refine az (ai ?_);apply fK rfl<;>intro h
 ·refine bZ ?_;have bd:j<B.params.length:=by simpa using h
  obtain⟨p,hp⟩:∃p,B.params[j]?=some p:=⟨B.params[j],by simp[bd]⟩
  obtain⟨a,ha⟩:∃a,args[j]?=some a:=⟨args[j]'(by omega),List.getElem?_eq_getElem _⟩
  refine aL (ah ?_);refine aG ?_;simp -dsimp only[simprocAttr,↓I,zp,hp];refine ai ?_;refine fE ?_;simp -dsimp only[simprocAttr,↓I,zp,ha,qX,<-py hp ha]
  repeat(refine⟨by omega,?_⟩)
  refine⟨ob (by kernel_rfl),?_⟩;refine ai ?_;refine dA ?_
  repeat(refine⟨by omega,?_⟩)
  refine kv ?_;refine⟨⟨j+1,bd⟩,by simp;omega,?_⟩;refine zq rfl ?_ ?_;simp -dsimp only[simprocAttr,↓I,zp,zc]
  ·exact Sub.int (by simp)
  rfl
 refine aN ?_;simp -dsimp only[bH,ne_eq,Nat.reduceEqDiff,reduceCtorEq];have uR:j=B.params.length:=by simp at h;omega
 subst uR;have Sv:args.take B.params.length=args:=List.take_of_length_le (by omega);refine RG ?_;simp -dsimp only[simprocAttr,↓I,zp,E7,Sv,List.take_length,VJ,e1,e2,e3,D7,List.length_set,l7,OK,<-tt];refine⟨by omega,by omega,trivial,?_⟩;refine aY ?_;simp -dsimp only[simprocAttr,↓I,zp,zr,Tryz.results30,oQ,hlen,sn];refine⟨fun o ho=>?_,trivial,by simp[ml]⟩;rcases List.mem_append.1 ho with ho|ho
 ·exact iz o ho
 have qi:=aW _ (List.mem_of_getElem? dD);simp only[aq.upto,a6]at qi;simp only[List.mem_cons,List.mem_nil_iff,or_false]at ho;rcases ho with rfl|rfl|rfl
 ·refine Ak fun x hx=>?_;rcases kL hx with q|q
  ·simp at q
  exact(hl _ q).mono (by omega)
 ·simp[aq.upto,av,aa.upto]
 simp only[aq.upto,a6];intro x hx;rcases List.mem_append.1 hx with q|q
 ·exact aa.cR (by omega) _ (qi x (List.mem_of_mem_take q))
 simp only[List.mem_singleton]at q;subst q;simp[aa.upto]
def yN(u:cL)(fuel:Int):List aa:=[cn u.fns,aI u.main,.aB 1 [] .ex,aI fuel,.v (.bool false),.v (.bool false),.aB 1 [] (.tok 3),aI 0,aI 0]
theorem Ao{u:cL}{fuel:Int}(D8:0<=u.main∧u.main<u.fns.length)(hb:(dc u u.main).blocks≠[])(hp:(bQ (dc u u.main) 0).params=[])(sz:Nat)(ow:oV) :
  aK Tryz.prog 30 [.gone,.cells [.aB 1 [] .ex,aI 0,aI 0],.cells (yN u fuel),.spare 0] [.mp 2 0,aI u.main,.aB sz [] ow,aI 0] (fun r O'=>r=.cN []∧O'=[.gone,.cells [.aB 1 [] .ex,aI 0,aI 0],.cells (aD u ((Mach.start fuel).enter u u.main [] 0)),.spare 0,.map (.int .i64) [],.cells [aI u.main,aI 0,aI 0,aI 0,.mm 4],.cells [.mp 5 0]]):=by
 have hF:=lz D8.1 D8.2;have hB:=fg (f:=dc u u.main) (k:=0) (by omega) (by
  have:=List.length_pos_iff.2 hb;omega)
 have OK:aD u ((Mach.start fuel).enter u u.main [] 0)=[cn u.fns,aI u.main,.os 6 1 1,aI fuel,.v (.bool false),.v (.bool false),.aB 1 [] (.tok 3),aI 0,aI 0]:=by
  simp[aD,Mach.enter,Mach.start]
 rw[OK];unfold yN;generalize UM:bQ (dc u u.main) 0=B at *;generalize Xu:dc u u.main=F at *;have hB:F.blocks[0]?=some B:=hB;have uW:B.params.length=0:=by rw[hp];rfl
 refine zf true 7 Tryz.func30 Tryz.ntmps30 ?_;dsimp only[Tmp,TypeId,slotsOf];refine az (ai ?_);refine bR ?_;simp -dsimp only[simprocAttr,↓I,zp,hF,hB]
 repeat(refine⟨by omega,?_⟩)
 refine ai ?_;refine ah (a8 (ι:=Unit) (fun _=>⟨54,[(0,.mp 2 0),(8,.mp 5 0),(27,bp B.params),(28,aI 0),(29,aI 0)],[.gone,.cells [.aB 1 [] .ex,aI 0,aI 0],.cells [cn u.fns,aI u.main,.aB 1 [] .ex,aI fuel,.v (.bool false),.v (.bool false),.aB 1 [] (.tok 3),aI 0,aI 0],.spare 0,.map (.int .i64) [],.cells [aI u.main,aI 0,aI 0,aI 0,.mm 4]]⟩) (fun _=>0) () ?_ ?_)
 ·refine zq rfl ?_ ?_;simp -dsimp only[simprocAttr,↓I,zp,zc]
  ·exact Sub.int (by simp[uW])
  rfl
 rintro⟨⟩;refine az (ai ?_);apply fK rfl<;>intro h
 ·simp at h
 refine aN ?_;simp -dsimp only[bH,ne_eq,Nat.reduceEqDiff,reduceCtorEq];refine RG ?_;simp -dsimp only[simprocAttr,↓I,zp,l7,sn];refine⟨trivial,?_⟩;refine aY ?_;simp -dsimp only[simprocAttr,↓I,zp,zr,Tryz.results30];refine⟨?_,trivial⟩;simp[aq.upto,av,ba,aa.upto,Func.aj]
theorem CX{u:cL}{m:Mach}{O:List aq}(aW:∀o∈O,o.upto O.length)(h0:O[2]?=some (.cells (aD u m)))(f:Fr)(ez:m.frames=[f])(ix:f.b9<O.length)(v:SV)(hv:SV.bj O.length v) :
  aK Tryz.prog 99 O [.mp 2 0,.mp f.b9 0,v.enc] (fun r O'=>r=.cN []∧O'=O.set 2 (.cells (aD u (m.leave f v)))):=by
 have pR:=hv.aS;rw[SV.gj]at pR;have eW:=ag h0;have Ko:[cn u.fns,aI u.main,.os m.sid 0 1,aI m.left,.v (.bool m.short),.v (.bool m.over),.aB 1 (m.out.map aI) (.tok 3),aI m.fin,aI m.val]=aD u { m with frames:=[] }:=rfl;have Kr:=dF h0;have nj:O[2]?=some (.cells [cn u.fns,aI u.main,.os m.sid 1 1,aI m.left,.v (.bool m.short),.v (.bool m.over),.aB 1 (m.out.map aI) (.tok 3),aI m.fin,aI m.val]):=by
  rw[h0];unfold aD;rw[ez];rfl
 obtain⟨O1,eh⟩:∃O1,O1=O.set 2 (.cells (aD u { m with frames:=[] })):=⟨_,rfl⟩
 have hlen:O.length=O1.length:=by rw[eh];simp
 have E8:O1[2]?=some (.cells (aD u { m with frames:=[] })):=by rw[eh];exact Kr _
 have eX:∀o∈O1,o.upto O1.length:=by
  rw[<-hlen,eh];exact bx aW h0 (fun h=>cc h rfl)
 have jZ:=fun e n=>kM eX E8 e n;have PT:∀n:Int,O1.set 2 (.cells (aD u (({ m with frames:=[] }:Mach).stop 0 n)))=O.set 2 (.cells (aD u (({ m with frames:=[] }:Mach).stop 0 n))):=fun n=>by
  rw[eh,List.set_set]
 have iz:∀n:Int,∀o∈O.set 2 (.cells (aD u (({ m with frames:=[] }:Mach).stop 0 n))),o.upto O.length:=fun n=>bx aW h0 (fun h=>cc h rfl);have sy:O1[2]?=some (.cells [cn u.fns,aI u.main,.os m.sid 0 1,aI m.left,.v (.bool m.short),.v (.bool m.over),.aB 1 (m.out.map aI) (.tok 3),aI m.fin,aI m.val]):=E8;have eK:m.leave f v=({ m with frames:=[] }:Mach).stop 0 (if v.kind=0∨v.kind=1 then v.n else 0):=by
  unfold Mach.leave;rw[ez];rfl
 rw[eK];have mL:∀x,(O.set 2 x).take O1.length=O.set 2 x:=fun x=>by rw[<-hlen];exact cM
 by_cases hk:v.kind=0∨v.kind=1
 ·rw[if_pos hk];rcases(show v.kind=0∨(v.kind≠0∧v.kind=1) by omega)with e|⟨e,e1⟩
  ·have hd:decide (v.kind=0)=true:=decide_eq_true e;refine zf true O.length Tryz.func99 Tryz.ntmps99 ?_;dsimp only[Tmp,TypeId,slotsOf];refine az (ai ?_);refine aZ 5 ([aI v.kind,aI v.n,.aB 4 (v.list.map SV.enc) .sh,eP v.arr]) [(0,.mp 2 0),(1,.mp f.b9 0),(5,.ip none [aI v.kind,aI v.n,.aB 4 (v.list.map SV.enc) .sh,eP v.arr])] rfl (by simp only[List.map_cons,List.map_nil,cT,cq,dQ,dR,dP,dN,dO,cz]) (by omega) (by simp[cd,bG,Go.Av.look]) ?_ ?_ ?_
   ·exact aW
   ·simp only[aa.upto]at pR;simp[aa.upto,ix,eW,pR]
   refine aG ?_;simp -dsimp only[simprocAttr,↓I,zp,nj,l7,Ko,<-eh];refine⟨trivial,?_⟩;refine⟨ob (by kernel_rfl),?_⟩;refine ai ?_;refine bR ?_;simp -dsimp only[simprocAttr,↓I,zp,sy];refine ai ?_;refine cP rfl ?_;refine bZ ?_;refine az (ai ?_);refine bR ?_;simp -dsimp only[simprocAttr,↓I,zp,hd];refine ai ?_;refine dS rfl ?_;refine dA (ai ?_);refine dA ?_;refine .inr (.inl ⟨_,_,jZ 0 v.n,.inl (ae ?_)⟩);simp -dsimp only[simprocAttr,↓I,zp,hlen,PT];refine aY ?_;simp -dsimp only[simprocAttr,↓I,zp,zr,Tryz.results99,hlen,List.take_length,List.length_set,mL];exact⟨by rw[<-hlen];exact iz v.n,trivial⟩
  have hd:decide (v.kind=0)=false:=decide_eq_false e;have pN:decide (v.kind=1)=true:=decide_eq_true e1;refine zf true O.length Tryz.func99 Tryz.ntmps99 ?_;dsimp only[Tmp,TypeId,slotsOf];refine az (ai ?_);refine aZ 5 ([aI v.kind,aI v.n,.aB 4 (v.list.map SV.enc) .sh,eP v.arr]) [(0,.mp 2 0),(1,.mp f.b9 0),(5,.ip none [aI v.kind,aI v.n,.aB 4 (v.list.map SV.enc) .sh,eP v.arr])] rfl (by simp only[List.map_cons,List.map_nil,cT,cq,dQ,dR,dP,dN,dO,cz]) (by omega) (by simp[cd,bG,Go.Av.look]) ?_ ?_ ?_
  ·exact aW
  ·simp only[aa.upto]at pR;simp[aa.upto,ix,eW,pR]
  refine aG ?_;simp -dsimp only[simprocAttr,↓I,zp,nj,l7,Ko,<-eh];refine⟨trivial,?_⟩;refine⟨ob (by kernel_rfl),?_⟩;refine ai ?_;refine bR ?_;simp -dsimp only[simprocAttr,↓I,zp,sy];refine ai ?_;refine cP rfl ?_;refine bZ ?_;refine az (ai ?_);refine bR ?_;simp -dsimp only[simprocAttr,↓I,zp,hd,pN];refine ai ?_;refine dS rfl ?_;refine dA (ai ?_);refine dA ?_;refine .inr (.inl ⟨_,_,jZ 0 v.n,.inl (ae ?_)⟩);simp -dsimp only[simprocAttr,↓I,zp,hlen,PT];refine aY ?_;simp -dsimp only[simprocAttr,↓I,zp,zr,Tryz.results99,hlen,List.take_length,List.length_set,mL];exact⟨by rw[<-hlen];exact iz v.n,trivial⟩
 rw[if_neg hk];have hd:decide (v.kind=0)=false:=decide_eq_false (by omega);have pN:decide (v.kind=1)=false:=decide_eq_false (by omega);refine zf true O.length Tryz.func99 Tryz.ntmps99 ?_;dsimp only[Tmp,TypeId,slotsOf];refine az (ai ?_);refine aZ 5 ([aI v.kind,aI v.n,.aB 4 (v.list.map SV.enc) .sh,eP v.arr]) [(0,.mp 2 0),(1,.mp f.b9 0),(5,.ip none [aI v.kind,aI v.n,.aB 4 (v.list.map SV.enc) .sh,eP v.arr])] rfl (by simp only[List.map_cons,List.map_nil,cT,cq,dQ,dR,dP,dN,dO,cz]) (by omega) (by simp[cd,bG,Go.Av.look]) ?_ ?_ ?_
 ·exact aW
 ·simp only[aa.upto]at pR;simp[aa.upto,ix,eW,pR]
 refine aG ?_;simp -dsimp only[simprocAttr,↓I,zp,nj,l7,Ko,<-eh];refine⟨trivial,?_⟩;refine⟨ob (by kernel_rfl),?_⟩;refine ai ?_;refine bR ?_;simp -dsimp only[simprocAttr,↓I,zp,sy];refine ai ?_;refine cP rfl ?_;refine bZ ?_;refine az (ai ?_);refine bR ?_;simp -dsimp only[simprocAttr,↓I,zp,hd,pN];refine ai ?_;refine cP rfl ?_;refine bZ ?_;refine dA ?_;refine .inr (.inl ⟨_,_,jZ 0 0,.inl (ae ?_)⟩);simp -dsimp only[simprocAttr,↓I,zp,hlen,PT];refine aY ?_;simp -dsimp only[simprocAttr,↓I,zp,zr,Tryz.results99,hlen,List.take_length,List.length_set,mL];exact⟨by rw[<-hlen];exact iz 0,trivial⟩
theorem CY{u:cL}{m:Mach}{O:List aq}(aW:∀o∈O,o.upto O.length)(h0:O[2]?=some (.cells (aD u m)))(f g:Fr)(r:List Fr)(ez:m.frames=f::g::r)(hf:O[f.b9]?=some (.cells (aX f)))
  (hg:O[g.b9]?=some (.cells (aX g))) (Kh:O[g.dJ]?=some (.map (.int .i64) (g.vals.map gU))) (Uk:∀e∈g.vals,SV.bj O.length e.2) {cs:List aa} (dD:O[m.sid]?=some (.cells cs)) (iq:cs[r.length]?=some (.mp g.b9 0))
  (Kr:m.sid≠2) (AN:r.length<=2 ^ 40) (SY:f.b9≠2) (PW:g.b9≠2) (nj:g.dJ≠2) (v:SV) (hv:SV.bj O.length v) :
  aK Tryz.prog 99 O [.mp 2 0,.mp f.b9 0,v.enc] (fun r O'=>r=.cN []∧O'=(O.set 2 (.cells (aD u (m.leave f v)))).set g.dJ (.map (.int .i64) ((fR g.vals f.to v).map gU))):=by
 have pR:=hv.aS;rw[SV.gj]at pR;have eW:=ag h0;have ix:=ag hf;have eK:aD u (m.leave f v)=[cn u.fns,aI u.main,.os m.sid (r.length+1) 1,aI m.left,.v (.bool m.short),.v (.bool m.over),.aB 1 (m.out.map aI) (.tok 3),aI m.fin,aI m.val]:=by
  simp[Mach.leave,ez,aD]
 have hm:O[2]?=some (.cells [cn u.fns,aI u.main,.os m.sid (r.length+1+1) 1,aI m.left,.v (.bool m.short),.v (.bool m.over),.aB 1 (m.out.map aI) (.tok 3),aI m.fin,aI m.val]):=by
  rw[h0];unfold aD;rw[ez];rfl
 obtain⟨O1,eh⟩:∃O1,O1=O.set 2 (.cells (aD u (m.leave f v))):=⟨_,rfl⟩
 have hlen:O.length=O1.length:=by rw[eh];simp
 have hs:=dF h0;have E8:O1[2]?=some (.cells (aD u (m.leave f v))):=by rw[eh];exact hs _
 have Qh:O1[m.sid]?=some (.cells cs):=by rw[eh];exact bN dD Kr.symm
 have nC:O1[f.b9]?=some (.cells (aX f)):=by rw[eh];exact bN hf SY.symm
 have k8:O1[g.b9]?=some (.cells (aX g)):=by rw[eh];exact bN hg PW.symm
 have Vb:O1[g.dJ]?=some (.map (.int .i64) (g.vals.map gU)):=by rw[eh];exact bN Kh nj.symm
 have eX:∀o∈O1,o.upto O1.length:=by
  rw[<-hlen,eh];refine bx aW h0 (fun h=>cc h ?_);simp[Mach.leave,ez]
 rw[<-eh];have iz:∀o∈O1.set g.dJ (.map (.int .i64) ((fR g.vals f.to v).map gU)),o.upto O1.length:=by
  refine bT eX (Ak fun x hx=>?_);rw[<-hlen];rcases jF hx with q|q
  ·exact Uk x q
  rw[q];exact hv
 have mL:∀x,(O1.set g.dJ x).take O1.length=O1.set g.dJ x:=fun x=>cM;have qL:[cn u.fns,aI u.main,.os m.sid (r.length+1) 1,aI m.left,.v (.bool m.short),.v (.bool m.over),.aB 1 (m.out.map aI) (.tok 3),aI m.fin,aI m.val]=aD u (m.leave f v):=eK.symm;rw[eK]at E8;unfold aX at nC k8;have wO:((r.length+1+1:Nat):Int)-1=((r.length+1:Nat):Int):=by omega
 have Kq:((r.length+1:Nat):Int)-1=(r.length:Nat):=by omega
 have VA:decide ((0:Int)<((r.length+1:Nat):Int))=true:=decide_eq_true (by omega);refine zf true O.length Tryz.func99 Tryz.ntmps99 ?_;dsimp only[Tmp,TypeId,slotsOf];refine az (ai ?_);refine aZ 5 ([aI v.kind,aI v.n,.aB 4 (v.list.map SV.enc) .sh,eP v.arr]) [(0,.mp 2 0),(1,.mp f.b9 0),(5,.ip none [aI v.kind,aI v.n,.aB 4 (v.list.map SV.enc) .sh,eP v.arr])] rfl (by simp only[List.map_cons,List.map_nil,cT,cq,dQ,dR,dP,dN,dO,cz]) (by omega) (by simp[cd,bG,Go.Av.look]) ?_ ?_ ?_
 ·exact aW
 ·simp only[aa.upto]at pR;simp[aa.upto,ix,eW,pR]
 refine aG ?_;simp -dsimp only[simprocAttr,↓I,zp,hm,l7,wO,Int.toNat_natCast,qL,<-eh]
 repeat(refine⟨by omega,?_⟩)
 refine⟨trivial,?_⟩;refine⟨ob (by kernel_rfl),?_⟩;refine ai ?_;refine bR ?_;simp -dsimp only[simprocAttr,↓I,zp,E8,VA];refine ai ?_;refine dS rfl ?_;refine aG ?_;simp -dsimp only[simprocAttr,↓I,zp,E8,Qh,Kq,Nat.mul_one,iq,nC,k8,Vb,qX]
 repeat(refine⟨by omega,?_⟩)
 refine⟨ob (by kernel_rfl),?_⟩;refine ai ?_;refine ak ?_;simp -dsimp only[simprocAttr,↓I,zp,zr,Tryz.results99,hlen,mL,List.length_set];exact⟨iz,trivial⟩
theorem j5{cs xs:List aa}{n:Nat}(h:xs.length=n)(hc:cs.length=n):bz cs 0 xs=xs:=by
 simp[bz];omega
theorem sR{x:aa}(h:x.flat):x.cells.map aa.br=x.share.cells:=by
 cases x<;>rfl
theorem gx(es:List (Int×SV))(k:Int):(j3 es k).cells.map aa.br=(jA es k).enc.cells:=by
 rw[sR (jH es k),vt]
theorem Hk{u:cL}{m:Mach}{O:List aq}(aW:∀o∈O,o.upto O.length)(h0:O[2]?=some (.cells (aD u m)))(f:Fr)(hf:O[f.b9]?=some (.cells (aX f)))(hv:O[f.dJ]?=some (.map (.int .i64) (f.vals.map gU)))
  (hu:∀e∈f.vals,SV.bj O.length e.2) (tE:f.b9≠f.dJ) (t:Term) (hk:t.kind=4):aK Tryz.prog 55 O [.mp 2 0,.mp f.b9 0,t.enc] (fun r O'=>r=.cN []∧O'=O.set 2 (.cells (aD u (m.stop t.n 0)))):=by
 have ix:=ag hf;have R4:=ag hv;have eW:=ag h0;have eR:=hf;unfold aX at eR;have uX:(Option.map SV.enc (jk f.vals t.arg)).getD (.agg [aI 0,aI 0,.aB 4 [] .ex,.v (.pointer none)])=j3 f.vals t.arg:=rfl;have rN:bz [aa.v (.int .i64 0),.v (.int .i64 0),.aB 4 [] .ex,.v (.pointer none)] 0 (j3 f.vals t.arg).cells=(j3 f.vals t.arg).cells:=j5 (fS _ _) rfl;have lT:=gx f.vals t.arg;have yB:=(jB hu t.arg).aS;generalize jA f.vals t.arg=V at *;rw[SV.gj]at yB;rw[SV.an]at lT;have jZ:=kM aW h0 t.n 0;have iz:=bx aW h0 (ds:=aD u (m.stop t.n 0)) (fun h=>cc h rfl);have mL:=cM (O:=O) (k:=2) (x:=.cells (aD u (m.stop t.n 0)));refine zf true O.length Tryz.func55 Tryz.ntmps55 ?_;dsimp only[Tmp,TypeId,slotsOf];refine az (ai ?_);refine aZ 5 ([aI t.kind,aI t.arg,aI t.n,bp t.cases,bq t.to]) [(0,.mp 2 0),(1,.mp f.b9 0),(5,.ip none [aI t.kind,aI t.arg,aI t.n,bp t.cases,bq t.to])] rfl (by rfl) (by omega) (by simp[cd,bG,Go.Av.look]) ?_ ?_ ?_
 ·exact aW
 ·simp[aa.upto,av,ix,eW,ay,Edge.aj]
 refine aG ?_;simp -dsimp only[simprocAttr,↓I,zp,eR,hv,mg,uX,jH,fS,rN];refine⟨cm [f.b9,f.dJ] O.length [.pure,.pure,.pure,.rd 0,.pure,.pure,.rd 1,.wr 2 [],.wr 3 [2]] (by simp[tE]) (by simp;omega) rfl rfl (by kernel_rfl),aY ?_⟩;simp -dsimp only[bH,ne_eq,Nat.reduceEqDiff,reduceCtorEq];refine aZ 6 [aI V.kind,aI V.n,.aB 4 (V.list.map SV.enc) .sh,eP V.arr] [(0,.mp 2 0),(1,.mp f.b9 0),(5,.ip none [aI t.kind,aI t.arg,aI t.n,bp t.cases,bq t.to]),(6,.ip none [aI V.kind,aI V.n,.aB 4 (V.list.map SV.enc) .sh,eP V.arr])] rfl lT (by omega) (by simp[cd,bG,Go.Av.look]) aW ?_ ?_
 ·simp only[av,aa.upto,true_and,and_true]at yB;simp[aa.upto,av,ix,eW,ay,Edge.aj,yB]
 refine az (ai ?_);refine ah ?_;refine az (ai ?_);apply aF rfl<;>intro h
 ·refine dA ?_;refine .inr (.inl ⟨_,_,jZ,.inl (ae (zj ?_))⟩)
  (refine aY ?_;simp -dsimp only[bH,ne_eq,Nat.reduceEqDiff,reduceCtorEq])
  skip
  simp -dsimp only[simprocAttr,↓I,zp,zr,Tryz.results55,mL,List.length_set];exact⟨iz,trivial⟩
 exact af h (by omega)
theorem Hi{u:cL}{m:Mach}{O:List aq}(aW:∀o∈O,o.upto O.length)(h0:O[2]?=some (.cells (aD u m)))(f:Fr)(hf:O[f.b9]?=some (.cells (aX f)))(hv:O[f.dJ]?=some (.map (.int .i64) (f.vals.map gU)))
  (hu:∀e∈f.vals,SV.bj O.length e.2) (tE:f.b9≠f.dJ) (t:Term) (hk:t.kind=1) (e:Edge) (he:t.to[0]?=some e) {O':List aq} (hC:aK Tryz.prog 98 O [.mp 2 0,.mp f.b9 0,e.enc] (fun r O1=>r=.cN []∧O1=O')) (hlen:O.length=O'.length) (nw:∀o∈O',o.upto O'.length):aK Tryz.prog 55 O [.mp 2 0,.mp f.b9 0,t.enc] (fun r O1=>r=.cN []∧O1=O'):=by
 have ix:=ag hf;have R4:=ag hv;have eW:=ag h0;have eR:=hf;unfold aX at eR;have uX:(Option.map SV.enc (jk f.vals t.arg)).getD (.agg [aI 0,aI 0,.aB 4 [] .ex,.v (.pointer none)])=j3 f.vals t.arg:=rfl;have rN:bz [aa.v (.int .i64 0),.v (.int .i64 0),.aB 4 [] .ex,.v (.pointer none)] 0 (j3 f.vals t.arg).cells=(j3 f.vals t.arg).cells:=j5 (fS _ _) rfl;have lT:=gx f.vals t.arg;have yB:=(jB hu t.arg).aS;generalize jA f.vals t.arg=V at *;rw[SV.gj]at yB;rw[SV.an]at lT;refine zf true O.length Tryz.func55 Tryz.ntmps55 ?_;dsimp only[Tmp,TypeId,slotsOf];refine az (ai ?_);refine aZ 5 ([aI t.kind,aI t.arg,aI t.n,bp t.cases,bq t.to]) [(0,.mp 2 0),(1,.mp f.b9 0),(5,.ip none [aI t.kind,aI t.arg,aI t.n,bp t.cases,bq t.to])] rfl (by rfl) (by omega) (by simp[cd,bG,Go.Av.look]) ?_ ?_ ?_
 ·exact aW
 ·simp[aa.upto,av,ix,eW,ay,Edge.aj]
 refine aG ?_;simp -dsimp only[simprocAttr,↓I,zp,eR,hv,mg,uX,jH,fS,rN];refine⟨cm [f.b9,f.dJ] O.length [.pure,.pure,.pure,.rd 0,.pure,.pure,.rd 1,.wr 2 [],.wr 3 [2]] (by simp[tE]) (by simp;omega) rfl rfl (by kernel_rfl),aY ?_⟩;simp -dsimp only[bH,ne_eq,Nat.reduceEqDiff,reduceCtorEq];refine aZ 6 [aI V.kind,aI V.n,.aB 4 (V.list.map SV.enc) .sh,eP V.arr] [(0,.mp 2 0),(1,.mp f.b9 0),(5,.ip none [aI t.kind,aI t.arg,aI t.n,bp t.cases,bq t.to]),(6,.ip none [aI V.kind,aI V.n,.aB 4 (V.list.map SV.enc) .sh,eP V.arr])] rfl lT (by omega) (by simp[cd,bG,Go.Av.look]) aW ?_ ?_
 ·simp only[av,aa.upto,true_and,and_true]at yB;simp[aa.upto,av,ix,eW,ay,Edge.aj,yB]
 refine az (ai ?_);refine ah ?_;refine az (ai ?_);apply aF rfl<;>intro h
 ·exact ab h (by omega)
 refine az (ai ?_);apply aF rfl<;>intro h
 ·refine fE ?_;simp -dsimp only[simprocAttr,↓I,zp,he];refine .inr (.inl ⟨_,_,hC,.inl (ae (zj ?_))⟩)
  (refine aY ?_;simp -dsimp only[bH,ne_eq,Nat.reduceEqDiff,reduceCtorEq])
  skip
  simp -dsimp only[simprocAttr,↓I,zp,zr,Tryz.results55,hlen,List.take_length];exact⟨nw,trivial⟩
 exact af h (by omega)
theorem DZ{u:cL}{m:Mach}{O:List aq}(aW:∀o∈O,o.upto O.length)(h0:O[2]?=some (.cells (aD u m)))(f:Fr)(hf:O[f.b9]?=some (.cells (aX f)))(hv:O[f.dJ]?=some (.map (.int .i64) (f.vals.map gU)))
  (hu:∀e∈f.vals,SV.bj O.length e.2) (tE:f.b9≠f.dJ) (t:Term) (hk:t.kind=0) {O':List aq} (hC:aK Tryz.prog 99 O [.mp 2 0,.mp f.b9 0,(jA f.vals t.arg).enc] (fun r O1=>r=.cN []∧O1=O')) (hlen:O.length=O'.length) (nw:∀o∈O',o.upto O'.length):aK Tryz.prog 55 O [.mp 2 0,.mp f.b9 0,t.enc] (fun r O1=>r=.cN []∧O1=O'):=by
 have ix:=ag hf;have R4:=ag hv;have eW:=ag h0;have eR:=hf;unfold aX at eR;have uX:(Option.map SV.enc (jk f.vals t.arg)).getD (.agg [aI 0,aI 0,.aB 4 [] .ex,.v (.pointer none)])=j3 f.vals t.arg:=rfl;have rN:bz [aa.v (.int .i64 0),.v (.int .i64 0),.aB 4 [] .ex,.v (.pointer none)] 0 (j3 f.vals t.arg).cells=(j3 f.vals t.arg).cells:=j5 (fS _ _) rfl;have lT:=gx f.vals t.arg;have yB:=(jB hu t.arg).aS;generalize jA f.vals t.arg=V at *;rw[SV.gj]at yB;rw[SV.an]at lT;refine zf true O.length Tryz.func55 Tryz.ntmps55 ?_;dsimp only[Tmp,TypeId,slotsOf];refine az (ai ?_);refine aZ 5 ([aI t.kind,aI t.arg,aI t.n,bp t.cases,bq t.to]) [(0,.mp 2 0),(1,.mp f.b9 0),(5,.ip none [aI t.kind,aI t.arg,aI t.n,bp t.cases,bq t.to])] rfl (by rfl) (by omega) (by simp[cd,bG,Go.Av.look]) ?_ ?_ ?_
 ·exact aW
 ·simp[aa.upto,av,ix,eW,ay,Edge.aj]
 refine aG ?_;simp -dsimp only[simprocAttr,↓I,zp,eR,hv,mg,uX,jH,fS,rN];refine⟨cm [f.b9,f.dJ] O.length [.pure,.pure,.pure,.rd 0,.pure,.pure,.rd 1,.wr 2 [],.wr 3 [2]] (by simp[tE]) (by simp;omega) rfl rfl (by kernel_rfl),aY ?_⟩;simp -dsimp only[bH,ne_eq,Nat.reduceEqDiff,reduceCtorEq];refine aZ 6 [aI V.kind,aI V.n,.aB 4 (V.list.map SV.enc) .sh,eP V.arr] [(0,.mp 2 0),(1,.mp f.b9 0),(5,.ip none [aI t.kind,aI t.arg,aI t.n,bp t.cases,bq t.to]),(6,.ip none [aI V.kind,aI V.n,.aB 4 (V.list.map SV.enc) .sh,eP V.arr])] rfl lT (by omega) (by simp[cd,bG,Go.Av.look]) aW ?_ ?_
 ·simp only[av,aa.upto,true_and,and_true]at yB;simp[aa.upto,av,ix,eW,ay,Edge.aj,yB]
 refine az (ai ?_);refine ah ?_;refine az (ai ?_);apply aF rfl<;>intro h
 ·exact ab h (by omega)
 refine az (ai ?_);apply aF rfl<;>intro h
 ·exact ab h (by omega)
 refine az (ai ?_);apply aF rfl<;>intro h
 ·refine dA ?_;refine .inr (.inl ⟨_,_,hC,.inl (ae (zj ?_))⟩)
  (refine aY ?_;simp -dsimp only[bH,ne_eq,Nat.reduceEqDiff,reduceCtorEq])
  skip
  simp -dsimp only[simprocAttr,↓I,zp,zr,Tryz.results55,hlen,List.take_length];exact⟨nw,trivial⟩
 exact af h (by omega)
theorem Hl{u:cL}{m:Mach}{O:List aq}(aW:∀o∈O,o.upto O.length)(h0:O[2]?=some (.cells (aD u m)))(f:Fr)(hf:O[f.b9]?=some (.cells (aX f)))(hv:O[f.dJ]?=some (.map (.int .i64) (f.vals.map gU)))
  (hu:∀e∈f.vals,SV.bj O.length e.2) (tE:f.b9≠f.dJ) (t:Term) (hk:t.kind≠0∧t.kind≠1∧t.kind≠4) (hV:(jA f.vals t.arg).kind≠0):aK Tryz.prog 55 O [.mp 2 0,.mp f.b9 0,t.enc] (fun r O'=>r=.cN []∧O'=O.set 2 (.cells (aD u (m.stop 5 0)))):=by
 have ix:=ag hf;have R4:=ag hv;have eW:=ag h0;have eR:=hf;unfold aX at eR;have uX:(Option.map SV.enc (jk f.vals t.arg)).getD (.agg [aI 0,aI 0,.aB 4 [] .ex,.v (.pointer none)])=j3 f.vals t.arg:=rfl;have rN:bz [aa.v (.int .i64 0),.v (.int .i64 0),.aB 4 [] .ex,.v (.pointer none)] 0 (j3 f.vals t.arg).cells=(j3 f.vals t.arg).cells:=j5 (fS _ _) rfl;have lT:=gx f.vals t.arg;have yB:=(jB hu t.arg).aS;generalize jA f.vals t.arg=V at *;rw[SV.gj]at yB;rw[SV.an]at lT;have jZ:=kM aW h0 5 0;have iz:=bx aW h0 (ds:=aD u (m.stop 5 0)) (fun h=>cc h rfl);have mL:=cM (O:=O) (k:=2) (x:=.cells (aD u (m.stop 5 0)));have hd:decide (V.kind=0)=false:=decide_eq_false hV;refine zf true O.length Tryz.func55 Tryz.ntmps55 ?_;dsimp only[Tmp,TypeId,slotsOf];refine az (ai ?_);refine aZ 5 ([aI t.kind,aI t.arg,aI t.n,bp t.cases,bq t.to]) [(0,.mp 2 0),(1,.mp f.b9 0),(5,.ip none [aI t.kind,aI t.arg,aI t.n,bp t.cases,bq t.to])] rfl (by rfl) (by omega) (by simp[cd,bG,Go.Av.look]) ?_ ?_ ?_
 ·exact aW
 ·simp[aa.upto,av,ix,eW,ay,Edge.aj]
 refine aG ?_;simp -dsimp only[simprocAttr,↓I,zp,eR,hv,mg,uX,jH,fS,rN];refine⟨cm [f.b9,f.dJ] O.length [.pure,.pure,.pure,.rd 0,.pure,.pure,.rd 1,.wr 2 [],.wr 3 [2]] (by simp[tE]) (by simp;omega) rfl rfl (by kernel_rfl),aY ?_⟩;simp -dsimp only[bH,ne_eq,Nat.reduceEqDiff,reduceCtorEq];refine aZ 6 [aI V.kind,aI V.n,.aB 4 (V.list.map SV.enc) .sh,eP V.arr] [(0,.mp 2 0),(1,.mp f.b9 0),(5,.ip none [aI t.kind,aI t.arg,aI t.n,bp t.cases,bq t.to]),(6,.ip none [aI V.kind,aI V.n,.aB 4 (V.list.map SV.enc) .sh,eP V.arr])] rfl lT (by omega) (by simp[cd,bG,Go.Av.look]) aW ?_ ?_
 ·simp only[av,aa.upto,true_and,and_true]at yB;simp[aa.upto,av,ix,eW,ay,Edge.aj,yB]
 refine az (ai ?_);refine ah ?_;refine az (ai ?_);apply aF rfl<;>intro h
 ·exact ab h (by omega)
 refine az (ai ?_);apply aF rfl<;>intro h
 ·exact ab h (by omega)
 refine az (ai ?_);apply aF rfl<;>intro h
 ·exact ab h (by omega)
 refine bR ?_;simp -dsimp only[simprocAttr,↓I,zp,hd];refine ai ?_;refine dS rfl ?_;refine az ?_;refine .inr (.inl ⟨_,_,jZ,.inl (ae (zj ?_))⟩);refine ai ?_;refine ak ?_;simp -dsimp only[simprocAttr,↓I,zp,zr,Tryz.results55,mL,List.length_set];exact⟨iz,trivial⟩
theorem Cv{u:cL}{m:Mach}{O:List aq}(aW:∀o∈O,o.upto O.length)(h0:O[2]?=some (.cells (aD u m)))(f:Fr)(hf:O[f.b9]?=some (.cells (aX f)))(hv:O[f.dJ]?=some (.map (.int .i64) (f.vals.map gU)))
  (hu:∀e∈f.vals,SV.bj O.length e.2) (tE:f.b9≠f.dJ) (t:Term) (hk:t.kind≠0∧t.kind≠1∧t.kind≠4) (hV:(jA f.vals t.arg).kind=0) (kB:t.cases.length<=2 ^ 60) (e:Edge) (he:t.to[je t (jA f.vals t.arg).n]?=some e) {O':List aq} (hC:aK Tryz.prog 98 O [.mp 2 0,.mp f.b9 0,e.enc] (fun r O1=>r=.cN []∧O1=O')) (hlen:O.length=O'.length) (nw:∀o∈O',o.upto O'.length):aK Tryz.prog 55 O [.mp 2 0,.mp f.b9 0,t.enc] (fun r O1=>r=.cN []∧O1=O'):=by
 have ix:=ag hf;have R4:=ag hv;have eW:=ag h0;have eR:=hf;unfold aX at eR;have uX:(Option.map SV.enc (jk f.vals t.arg)).getD (.agg [aI 0,aI 0,.aB 4 [] .ex,.v (.pointer none)])=j3 f.vals t.arg:=rfl;have rN:bz [aa.v (.int .i64 0),.v (.int .i64 0),.aB 4 [] .ex,.v (.pointer none)] 0 (j3 f.vals t.arg).cells=(j3 f.vals t.arg).cells:=j5 (fS _ _) rfl;have lT:=gx f.vals t.arg;have yB:=(jB hu t.arg).aS;generalize jA f.vals t.arg=V at *;rw[SV.gj]at yB;rw[SV.an]at lT;have sw:=z' t V.n kB;generalize je t V.n=q at *;have hd:decide (V.kind=0)=true:=decide_eq_true hV;refine zf true O.length Tryz.func55 Tryz.ntmps55 ?_;dsimp only[Tmp,TypeId,slotsOf];refine az (ai ?_);refine aZ 5 ([aI t.kind,aI t.arg,aI t.n,bp t.cases,bq t.to]) [(0,.mp 2 0),(1,.mp f.b9 0),(5,.ip none [aI t.kind,aI t.arg,aI t.n,bp t.cases,bq t.to])] rfl (by rfl) (by omega) (by simp[cd,bG,Go.Av.look]) ?_ ?_ ?_
 ·exact aW
 ·simp[aa.upto,av,ix,eW,ay,Edge.aj]
 refine aG ?_;simp -dsimp only[simprocAttr,↓I,zp,eR,hv,mg,uX,jH,fS,rN];refine⟨cm [f.b9,f.dJ] O.length [.pure,.pure,.pure,.rd 0,.pure,.pure,.rd 1,.wr 2 [],.wr 3 [2]] (by simp[tE]) (by simp;omega) rfl rfl (by kernel_rfl),aY ?_⟩;simp -dsimp only[bH,ne_eq,Nat.reduceEqDiff,reduceCtorEq];refine aZ 6 [aI V.kind,aI V.n,.aB 4 (V.list.map SV.enc) .sh,eP V.arr] [(0,.mp 2 0),(1,.mp f.b9 0),(5,.ip none [aI t.kind,aI t.arg,aI t.n,bp t.cases,bq t.to]),(6,.ip none [aI V.kind,aI V.n,.aB 4 (V.list.map SV.enc) .sh,eP V.arr])] rfl lT (by omega) (by simp[cd,bG,Go.Av.look]) aW ?_ ?_
 ·simp only[av,aa.upto,true_and,and_true]at yB;simp[aa.upto,av,ix,eW,ay,Edge.aj,yB]
 refine az (ai ?_);refine ah ?_;refine az (ai ?_);apply aF rfl<;>intro h
 ·exact ab h (by omega)
 refine az (ai ?_);apply aF rfl<;>intro h
 ·exact ab h (by omega)
 refine az (ai ?_);apply aF rfl<;>intro h
 ·exact ab h (by omega)
 refine bR ?_;simp -dsimp only[simprocAttr,↓I,zp,hd];refine ai ?_;refine cP rfl ?_;refine bZ ?_;refine dA ?_;refine .inl ⟨_,sw,by simp only[av,aa.upto,zt,zu,ay],ae ?_⟩;simp -dsimp only[simprocAttr,↓I,zp,he];refine .inr (.inl ⟨_,_,hC,.inl (ae (zj ?_))⟩);refine⟨ob (by kernel_rfl),?_⟩
 (refine aY ?_;simp -dsimp only[bH,ne_eq,Nat.reduceEqDiff,reduceCtorEq])
 skip
 simp -dsimp only[simprocAttr,↓I,zp,zr,Tryz.results55,hlen,List.take_length];exact⟨nw,trivial⟩
theorem pB(B:Block):aa.agg [bp B.params,cS B.ins,aI B.term.kind,aI B.term.arg,aI B.term.n,bp B.term.cases,bq B.term.to]=B.enc:=rfl
theorem step_end{u:cL}{m:Mach}{O:List aq}(aW:∀o∈O,o.upto O.length)(h0:O[2]?=some (.cells (aD u m)))(f:Fr)(r:List Fr)(ez:m.frames=f::r)(hf:O[f.b9]?=some (.cells (aX f)))(vW:f.b9≠2)
  {cs:List aa} (dD:O[m.sid]?=some (.cells cs)) (iq:cs[r.length]?=some (.mp f.b9 0)) (AN:r.length<=2 ^ 40) (F:Func) (hF:u.fns[f.fn.toNat]?=some F) (pP:0<=f.fn) (B:Block) (hB:F.blocks[f.blk.toNat]?=some B) (ru:0<=f.blk) (pQ:f.pos=B.ins.length) {O':List aq} (hC:aK Tryz.prog 55 O [.mp 2 0,.mp f.b9 0,B.term.enc] (fun r O1=>r=.cN []∧O1=O')) (hlen:O.length<=O'.length) (nw:∀o∈O',o.upto O'.length) :
  aK Tryz.prog 32 O [.mp 2 0] (fun r O1=>r=.cN []∧O1=O'):=by
 have ix:=ag hf;have eW:=ag h0;have eR:=hf;unfold aX at eR;have nj:O[2]?=some (.cells [cn u.fns,aI u.main,.os m.sid (r.length+1) 1,aI m.left,.v (.bool m.short),.v (.bool m.over),.aB 1 (m.out.map aI) (.tok 3),aI m.fin,aI m.val]):=by
  rw[h0];unfold aD;rw[ez];rfl
 have wO:((r.length+1:Nat):Int)-1=(r.length:Nat):=by omega
 refine dE hT true (O'.length) Tryz.func32 rfl (by kernel_rfl) (by simp[Tryz.ntmps32]) (by assumption) ?_;show cG Tryz.prog _ _ _ ⟨137,_,_⟩;dsimp only[Tmp,TypeId,slotsOf];refine aG ?_;simp -dsimp only[simprocAttr,↓I,zp,nj,wO,Nat.mul_one,dD,iq]
 repeat(refine⟨by omega,?_⟩)
 refine⟨ob (by kernel_rfl),?_⟩;refine ai ?_;refine aG ?_;simp -dsimp only[simprocAttr,↓I,zp,nj,eR,hF,hB,pB]
 repeat(refine⟨by omega,?_⟩)
 refine⟨cm [2,f.b9] O.length [.pure,.pure,.pure,.pure,.rd 0,.pure,.pure,.pure,.rd 1,.pure,.pure,.pure,.pure,.pure,.pure,.rd 1,.pure,.pure,.wr 2 [],.wr 3 [2]] (by simp;omega) (by simp;omega) rfl rfl (by kernel_rfl),aY ?_⟩;simp -dsimp only[bH,ne_eq,Nat.reduceEqDiff,reduceCtorEq];refine aZ 3 ([bp B.params,cS B.ins,aI B.term.kind,aI B.term.arg,aI B.term.n,bp B.term.cases,bq B.term.to]) [(0,.mp 2 0),(2,.mp f.b9 0),(3,.ip none [bp B.params,cS B.ins,aI B.term.kind,aI B.term.arg,aI B.term.n,bp B.term.cases,bq B.term.to])] rfl (by rfl) (by omega) (by simp[cd,bG,Go.Av.look]) ?_ ?_ ?_
 ·exact aW
 ·simp[aa.upto,av,ix,eW,ay,Edge.aj,bI.aj]
 refine bR ?_;simp -dsimp only[simprocAttr,↓I,zp,eR];refine⟨ob (by kernel_rfl),?_⟩;refine ai ?_;apply aF rfl<;>intro h
 ·refine az ?_;refine .inr (.inl ⟨_,_,hC,.inl (ae (zj ?_))⟩);refine ai ?_;refine ak ?_;simp -dsimp only[simprocAttr,↓I,zp,zr,Tryz.results32,List.take_length];exact⟨nw,trivial⟩
 exact af h (by omega)
theorem F'{u:cL}{m:Mach}{O:List aq}(aW:∀o∈O,o.upto O.length)(h0:O[2]?=some (.cells (aD u m)))(f:Fr)(r:List Fr)(ez:m.frames=f::r)(hf:O[f.b9]?=some (.cells (aX f)))(vW:f.b9≠2)
  {cs:List aa} (dD:O[m.sid]?=some (.cells cs)) (iq:cs[r.length]?=some (.mp f.b9 0)) (AN:r.length<=2 ^ 40) (F:Func) (hF:u.fns[f.fn.toNat]?=some F) (pP:0<=f.fn) (B:Block) (hB:F.blocks[f.blk.toNat]?=some B) (ru:0<=f.blk) (hv:O[f.dJ]?=some (.map (.int .i64) (f.vals.map gU))) (tE:f.b9≠f.dJ) (hu:∀e∈f.vals,SV.bj O.length e.2) (i:bI) (hi:B.ins[f.pos]?=some i) (uW:f.pos<=2 ^ 41) (mA:i.args.length<=4096) (f':Fr) (ga:f' = { f with pos:=f.pos+1 }) (args:List SV) (eZ:args=gH f.vals i.args) (O1:List aq) (eh:O1=O.set f.b9 (.cells (aX f'))) (gz:i.op=13) {O':List aq} (hC:aK Tryz.prog 30 O1 [.mp 2 0,aI i.n,.aB 4 (args.map SV.enc) .sh,aI i.to] (fun r O2=>r=.cN []∧O2=O')) (hlen:O.length<=O'.length) (nw:∀o∈O',o.upto O'.length) :
  aK Tryz.prog 32 O [.mp 2 0] (fun r O1=>r=.cN []∧O1=O'):=by
 have ix:=ag hf;have eW:=ag h0;have eR:=hf;unfold aX at eR;have nj:O[2]?=some (.cells [cn u.fns,aI u.main,.os m.sid (r.length+1) 1,aI m.left,.v (.bool m.short),.v (.bool m.over),.aB 1 (m.out.map aI) (.tok 3),aI m.fin,aI m.val]):=by
  rw[h0];unfold aD;rw[ez];rfl
 have wO:((r.length+1:Nat):Int)-1=(r.length:Nat):=by omega
 have HK:=ag hi;have hs:=dF hf;have eF:O.length=O1.length:=by rw[eh];simp
 have qL:[aI f.fn,aI f.blk,aI ((f.pos:Int)+1),aI f.to,.mm f.dJ]=aX f':=by
  rw[ga];simp[aX]
 have nC:O1[f'.b9]?=some (.cells (aX f')):=by rw[eh,ga];exact hs _
 have uZ:O1[f'.dJ]?=some (.map (.int .i64) (f'.vals.map gU)):=by rw[eh,ga];exact bN hv tE
 have eX:∀o∈O1,o.upto O1.length:=by
  rw[<-eF,eh];refine bx aW hf fun h=>?_;simp only[aX,av,aa.upto,true_and,and_true]at h ⊢;rw[ga];exact h
 have gb:=jJ eX nC uZ (by rw[ga,<-eF];exact hu) i.args mA;have jY:f'.b9=f.b9:=by rw[ga]
 have nS:f'.vals=f.vals:=by rw[ga]
 rw[jY,nS,<-eZ]at gb;rw[jY]at nC;refine dE hT true (O'.length) Tryz.func32 rfl (by kernel_rfl) (by simp[Tryz.ntmps32]) (by assumption) ?_;show cG Tryz.prog _ _ _ ⟨137,_,_⟩;dsimp only[Tmp,TypeId,slotsOf];refine aG ?_;simp -dsimp only[simprocAttr,↓I,zp,nj,wO,Nat.mul_one,dD,iq]
 repeat(refine⟨by omega,?_⟩)
 refine⟨ob (by kernel_rfl),?_⟩;refine ai ?_;refine aG ?_;simp -dsimp only[simprocAttr,↓I,zp,nj,eR,hF,hB,pB]
 repeat(refine⟨by omega,?_⟩)
 refine⟨cm [2,f.b9] O.length [.pure,.pure,.pure,.pure,.rd 0,.pure,.pure,.pure,.rd 1,.pure,.pure,.pure,.pure,.pure,.pure,.rd 1,.pure,.pure,.wr 2 [],.wr 3 [2]] (by simp;omega) (by simp;omega) rfl rfl (by kernel_rfl),aY ?_⟩;simp -dsimp only[bH,ne_eq,Nat.reduceEqDiff,reduceCtorEq];refine aZ 3 ([bp B.params,cS B.ins,aI B.term.kind,aI B.term.arg,aI B.term.n,bp B.term.cases,bq B.term.to]) [(0,.mp 2 0),(2,.mp f.b9 0),(3,.ip none [bp B.params,cS B.ins,aI B.term.kind,aI B.term.arg,aI B.term.n,bp B.term.cases,bq B.term.to])] rfl (by rfl) (by omega) (by simp[cd,bG,Go.Av.look]) ?_ ?_ ?_
 ·exact aW
 ·simp[aa.upto,av,ix,eW,ay,Edge.aj,bI.aj]
 refine bR ?_;simp -dsimp only[simprocAttr,↓I,zp,eR];refine⟨ob (by kernel_rfl),?_⟩;refine ai ?_;apply aF rfl<;>intro h
 ·exact ab h (by omega)
 refine bZ ?_;refine aG ?_;simp -dsimp only[simprocAttr,↓I,zp,eR,hi,Int.toNat_natCast]
 repeat(refine⟨by omega,?_⟩)
 refine⟨cm [f.b9] O.length [.pure,.pure,.pure,.pure,.pure,.rd 0,.pure,.pure,.wr 1 [],.wr 2 [1]] (by simp) (by simp;omega) rfl rfl (by kernel_rfl),aY ?_⟩;simp -dsimp only[bH,ne_eq,Nat.reduceEqDiff,reduceCtorEq];refine aZ 4 ([aI i.to,aI i.op,aI i.n,bp i.args]) [(0,.mp 2 0),(2,.mp f.b9 0),(4,.ip none [aI i.to,aI i.op,aI i.n,bp i.args])] rfl (by rfl) (by omega) (by simp[cd,bG,Go.Av.look]) ?_ ?_ ?_
 ·exact aW
 ·simp[aa.upto,av,ix,eW,ay]
 refine aG ?_;simp -dsimp only[simprocAttr,↓I,zp,eR,hs,qL,<-eh]
 repeat(refine⟨by omega,?_⟩)
 refine ai ?_;refine az ?_;refine .inr (.inr ⟨_,gb,ae (zj ?_)⟩);refine ai ?_;refine az (ai ?_);refine ah ?_;refine az (ai ?_);apply aF rfl<;>intro h
 ·refine dA ?_;refine .inr (.inl ⟨_,_,hC,.inl (ae (zj ?_))⟩)
  (refine aY ?_;simp -dsimp only[bH,ne_eq,Nat.reduceEqDiff,reduceCtorEq])
  skip
  simp -dsimp only[simprocAttr,↓I,zp,zr,Tryz.results32,List.take_length];exact⟨nw,trivial⟩
 exact af h (by omega)
theorem IN{u:cL}{m:Mach}{O:List aq}(aW:∀o∈O,o.upto O.length)(h0:O[2]?=some (.cells (aD u m)))(f:Fr)(r:List Fr)(ez:m.frames=f::r)(hf:O[f.b9]?=some (.cells (aX f)))(vW:f.b9≠2)
  {cs:List aa} (dD:O[m.sid]?=some (.cells cs)) (iq:cs[r.length]?=some (.mp f.b9 0)) (AN:r.length<=2 ^ 40) (F:Func) (hF:u.fns[f.fn.toNat]?=some F) (pP:0<=f.fn) (B:Block) (hB:F.blocks[f.blk.toNat]?=some B) (ru:0<=f.blk) (hv:O[f.dJ]?=some (.map (.int .i64) (f.vals.map gU))) (tE:f.b9≠f.dJ) (hu:∀e∈f.vals,SV.bj O.length e.2) (i:bI) (hi:B.ins[f.pos]?=some i) (uW:f.pos<=2 ^ 41) (mA:i.args.length<=4096) (f':Fr) (ga:f' = { f with pos:=f.pos+1 }) (args:List SV) (eZ:args=gH f.vals i.args) (O1:List aq) (eh:O1=O.set f.b9 (.cells (aX f'))) (gz:i.op=14) (c:SV) (Kd:args[0]?=some c) (hk:c.kind=2) (Oo:0<=c.n) (G:Func) (hG:u.fns[c.n.toNat]?=some G) (D:Block) (hD:G.blocks[0]?=some D) (zF:D.params.length=args.length) (OR:∀v∈args,SV.bj O1.length v) {O':List aq} (hC:aK Tryz.prog 30 O1 [.mp 2 0,aI c.n,.aB 4 (args.map SV.enc) .sh,aI i.to] (fun r O2=>r=.cN []∧O2=O')) (hlen:O.length<=O'.length) (nw:∀o∈O',o.upto O'.length) (sy:O1[2]?=some (.cells (aD u m))) :
  aK Tryz.prog 32 O [.mp 2 0] (fun r O1=>r=.cN []∧O1=O'):=by
 have ix:=ag hf;have eW:=ag h0;have eR:=hf;unfold aX at eR;have nj:O[2]?=some (.cells [cn u.fns,aI u.main,.os m.sid (r.length+1) 1,aI m.left,.v (.bool m.short),.v (.bool m.over),.aB 1 (m.out.map aI) (.tok 3),aI m.fin,aI m.val]):=by
  rw[h0];unfold aD;rw[ez];rfl
 have wO:((r.length+1:Nat):Int)-1=(r.length:Nat):=by omega
 have HK:=ag hi;have hs:=dF hf;have eF:O.length=O1.length:=by rw[eh];simp
 have qL:[aI f.fn,aI f.blk,aI ((f.pos:Int)+1),aI f.to,.mm f.dJ]=aX f':=by
  rw[ga];simp[aX]
 have nC:O1[f'.b9]?=some (.cells (aX f')):=by rw[eh,ga];exact hs _
 have uZ:O1[f'.dJ]?=some (.map (.int .i64) (f'.vals.map gU)):=by rw[eh,ga];exact bN hv tE
 have eX:∀o∈O1,o.upto O1.length:=by
  rw[<-eF,eh];refine bx aW hf fun h=>?_;simp only[aX,av,aa.upto,true_and,and_true]at h ⊢;rw[ga];exact h
 have gb:=jJ eX nC uZ (by rw[ga,<-eF];exact hu) i.args mA;have jY:f'.b9=f.b9:=by rw[ga]
 have nS:f'.vals=f.vals:=by rw[ga]
 rw[jY,nS,<-eZ]at gb;rw[jY]at nC;unfold aD at sy;have hd:decide (c.kind=2)=true:=decide_eq_true hk;have lA:decide ((D.params.length:Int)=args.length)=true:=decide_eq_true (by omega);refine dE hT true (O'.length) Tryz.func32 rfl (by kernel_rfl) (by simp[Tryz.ntmps32]) (by assumption) ?_;show cG Tryz.prog _ _ _ ⟨137,_,_⟩;dsimp only[Tmp,TypeId,slotsOf];refine aG ?_;simp -dsimp only[simprocAttr,↓I,zp,nj,wO,Nat.mul_one,dD,iq]
 repeat(refine⟨by omega,?_⟩)
 refine⟨ob (by kernel_rfl),?_⟩;refine ai ?_;refine aG ?_;simp -dsimp only[simprocAttr,↓I,zp,nj,eR,hF,hB,pB]
 repeat(refine⟨by omega,?_⟩)
 refine⟨cm [2,f.b9] O.length [.pure,.pure,.pure,.pure,.rd 0,.pure,.pure,.pure,.rd 1,.pure,.pure,.pure,.pure,.pure,.pure,.rd 1,.pure,.pure,.wr 2 [],.wr 3 [2]] (by simp;omega) (by simp;omega) rfl rfl (by kernel_rfl),aY ?_⟩;simp -dsimp only[bH,ne_eq,Nat.reduceEqDiff,reduceCtorEq];refine aZ 3 ([bp B.params,cS B.ins,aI B.term.kind,aI B.term.arg,aI B.term.n,bp B.term.cases,bq B.term.to]) [(0,.mp 2 0),(2,.mp f.b9 0),(3,.ip none [bp B.params,cS B.ins,aI B.term.kind,aI B.term.arg,aI B.term.n,bp B.term.cases,bq B.term.to])] rfl (by rfl) (by omega) (by simp[cd,bG,Go.Av.look]) ?_ ?_ ?_
 ·exact aW
 ·simp[aa.upto,av,ix,eW,ay,Edge.aj,bI.aj]
 refine bR ?_;simp -dsimp only[simprocAttr,↓I,zp,eR];refine⟨ob (by kernel_rfl),?_⟩;refine ai ?_;apply aF rfl<;>intro h
 ·exact ab h (by omega)
 refine bZ ?_;refine aG ?_;simp -dsimp only[simprocAttr,↓I,zp,eR,hi,Int.toNat_natCast]
 repeat(refine⟨by omega,?_⟩)
 refine⟨cm [f.b9] O.length [.pure,.pure,.pure,.pure,.pure,.rd 0,.pure,.pure,.wr 1 [],.wr 2 [1]] (by simp) (by simp;omega) rfl rfl (by kernel_rfl),aY ?_⟩;simp -dsimp only[bH,ne_eq,Nat.reduceEqDiff,reduceCtorEq];refine aZ 4 ([aI i.to,aI i.op,aI i.n,bp i.args]) [(0,.mp 2 0),(2,.mp f.b9 0),(4,.ip none [aI i.to,aI i.op,aI i.n,bp i.args])] rfl (by rfl) (by omega) (by simp[cd,bG,Go.Av.look]) ?_ ?_ ?_
 ·exact aW
 ·simp[aa.upto,av,ix,eW,ay]
 refine aG ?_;simp -dsimp only[simprocAttr,↓I,zp,eR,hs,qL,<-eh]
 repeat(refine⟨by omega,?_⟩)
 refine ai ?_;refine az ?_;refine .inr (.inr ⟨_,gb,ae (zj ?_)⟩);refine ai ?_;refine az (ai ?_);refine ah ?_;refine az (ai ?_);apply aF rfl<;>intro h
 ·exact ab h (by omega)
 refine az (ai ?_);apply aF rfl<;>intro h
 ·refine aG ?_;simp -dsimp only[simprocAttr,↓I,zp,Kd];refine ai ?_;refine aZ 6 [aI c.kind,aI c.n,.aB 4 (c.list.map SV.enc) .sh,eP c.arr] [(0,.mp 2 0),(2,.mp f.b9 0),(4,.ip none [aI i.to,aI i.op,aI i.n,bp i.args]),(5,.aB 4 (args.map SV.enc) .sh),(6,.ip none [aI c.kind,aI c.n,.aB 4 (c.list.map SV.enc) .sh,eP c.arr])] rfl (by simp only[List.map_cons,List.map_nil,cT,cq,cz]) (by omega) (by simp[cd,bG,Go.Av.look]) eX ?_ ?_
  ·have qi:=(OR c (List.mem_of_getElem? Kd)).aS;rw[SV.gj]at qi;simp only[av,aa.upto,true_and,and_true]at qi;have OE:=SV.aj OR;simp[aa.upto,av,<-eF,ix,eW,ay,qi,OE];simp[eF,qi,OE]
  refine aG ?_;simp -dsimp only[simprocAttr,↓I,zp,hd,sy,hG,hD,lA]
  repeat(refine⟨by omega,?_⟩)
  refine⟨ob (by kernel_rfl),?_⟩;refine ai ?_;refine dS rfl ?_;refine dA ?_;refine .inr (.inl ⟨_,_,hC,.inl (ae (zj ?_))⟩)
  (refine aY ?_;simp -dsimp only[bH,ne_eq,Nat.reduceEqDiff,reduceCtorEq])
  skip
  simp -dsimp only[simprocAttr,↓I,zp,zr,Tryz.results32,List.take_length];exact⟨nw,trivial⟩
 exact af h (by omega)
theorem w7{u:cL}{m:Mach}{O:List aq}(aW:∀o∈O,o.upto O.length)(h0:O[2]?=some (.cells (aD u m)))(f:Fr)(r:List Fr)(ez:m.frames=f::r)(hf:O[f.b9]?=some (.cells (aX f)))(vW:f.b9≠2)
  {cs:List aa} (dD:O[m.sid]?=some (.cells cs)) (iq:cs[r.length]?=some (.mp f.b9 0)) (AN:r.length<=2 ^ 40) (F:Func) (hF:u.fns[f.fn.toNat]?=some F) (pP:0<=f.fn) (B:Block) (hB:F.blocks[f.blk.toNat]?=some B) (ru:0<=f.blk) (hv:O[f.dJ]?=some (.map (.int .i64) (f.vals.map gU))) (tE:f.b9≠f.dJ) (hu:∀e∈f.vals,SV.bj O.length e.2) (i:bI) (hi:B.ins[f.pos]?=some i) (uW:f.pos<=2 ^ 41) (mA:i.args.length<=4096) (f':Fr) (ga:f' = { f with pos:=f.pos+1 }) (args:List SV) (eZ:args=gH f.vals i.args) (O1:List aq) (eh:O1=O.set f.b9 (.cells (aX f'))) (gz:i.op=14) (c:SV) (Kd:args[0]?=some c) (hk:c.kind≠2) (OR:∀v∈args,SV.bj O1.length v) (sy:O1[2]?=some (.cells (aD u m))) :
  aK Tryz.prog 32 O [.mp 2 0] (fun r O2=>r=.cN []∧O2=O1.set 2 (.cells (aD u (m.stop 5 0)))):=by
 have ix:=ag hf;have eW:=ag h0;have eR:=hf;unfold aX at eR;have nj:O[2]?=some (.cells [cn u.fns,aI u.main,.os m.sid (r.length+1) 1,aI m.left,.v (.bool m.short),.v (.bool m.over),.aB 1 (m.out.map aI) (.tok 3),aI m.fin,aI m.val]):=by
  rw[h0];unfold aD;rw[ez];rfl
 have wO:((r.length+1:Nat):Int)-1=(r.length:Nat):=by omega
 have HK:=ag hi;have hs:=dF hf;have eF:O.length=O1.length:=by rw[eh];simp
 have qL:[aI f.fn,aI f.blk,aI ((f.pos:Int)+1),aI f.to,.mm f.dJ]=aX f':=by
  rw[ga];simp[aX]
 have nC:O1[f'.b9]?=some (.cells (aX f')):=by rw[eh,ga];exact hs _
 have uZ:O1[f'.dJ]?=some (.map (.int .i64) (f'.vals.map gU)):=by rw[eh,ga];exact bN hv tE
 have eX:∀o∈O1,o.upto O1.length:=by
  rw[<-eF,eh];refine bx aW hf fun h=>?_;simp only[aX,av,aa.upto,true_and,and_true]at h ⊢;rw[ga];exact h
 have gb:=jJ eX nC uZ (by rw[ga,<-eF];exact hu) i.args mA;have jY:f'.b9=f.b9:=by rw[ga]
 have nS:f'.vals=f.vals:=by rw[ga]
 rw[jY,nS,<-eZ]at gb;rw[jY]at nC;have fk:O.length<=O.length:=Nat.le_refl _;have jZ:=kM eX sy 5 0;have iz:=bx eX sy (ds:=aD u (m.stop 5 0)) (fun h=>cc h rfl);have mL:=cM (O:=O1) (k:=2) (x:=.cells (aD u (m.stop 5 0)));unfold aD at sy;have hd:decide (c.kind=2)=false:=decide_eq_false hk;refine dE hT true (O.length) Tryz.func32 rfl (by kernel_rfl) (by simp[Tryz.ntmps32]) (by assumption) ?_;show cG Tryz.prog _ _ _ ⟨137,_,_⟩;dsimp only[Tmp,TypeId,slotsOf];refine aG ?_;simp -dsimp only[simprocAttr,↓I,zp,nj,wO,Nat.mul_one,dD,iq]
 repeat(refine⟨by omega,?_⟩)
 refine⟨ob (by kernel_rfl),?_⟩;refine ai ?_;refine aG ?_;simp -dsimp only[simprocAttr,↓I,zp,nj,eR,hF,hB,pB]
 repeat(refine⟨by omega,?_⟩)
 refine⟨cm [2,f.b9] O.length [.pure,.pure,.pure,.pure,.rd 0,.pure,.pure,.pure,.rd 1,.pure,.pure,.pure,.pure,.pure,.pure,.rd 1,.pure,.pure,.wr 2 [],.wr 3 [2]] (by simp;omega) (by simp;omega) rfl rfl (by kernel_rfl),aY ?_⟩;simp -dsimp only[bH,ne_eq,Nat.reduceEqDiff,reduceCtorEq];refine aZ 3 ([bp B.params,cS B.ins,aI B.term.kind,aI B.term.arg,aI B.term.n,bp B.term.cases,bq B.term.to]) [(0,.mp 2 0),(2,.mp f.b9 0),(3,.ip none [bp B.params,cS B.ins,aI B.term.kind,aI B.term.arg,aI B.term.n,bp B.term.cases,bq B.term.to])] rfl (by rfl) (by omega) (by simp[cd,bG,Go.Av.look]) ?_ ?_ ?_
 ·exact aW
 ·simp[aa.upto,av,ix,eW,ay,Edge.aj,bI.aj]
 refine bR ?_;simp -dsimp only[simprocAttr,↓I,zp,eR];refine⟨ob (by kernel_rfl),?_⟩;refine ai ?_;apply aF rfl<;>intro h
 ·exact ab h (by omega)
 refine bZ ?_;refine aG ?_;simp -dsimp only[simprocAttr,↓I,zp,eR,hi,Int.toNat_natCast]
 repeat(refine⟨by omega,?_⟩)
 refine⟨cm [f.b9] O.length [.pure,.pure,.pure,.pure,.pure,.rd 0,.pure,.pure,.wr 1 [],.wr 2 [1]] (by simp) (by simp;omega) rfl rfl (by kernel_rfl),aY ?_⟩;simp -dsimp only[bH,ne_eq,Nat.reduceEqDiff,reduceCtorEq];refine aZ 4 ([aI i.to,aI i.op,aI i.n,bp i.args]) [(0,.mp 2 0),(2,.mp f.b9 0),(4,.ip none [aI i.to,aI i.op,aI i.n,bp i.args])] rfl (by rfl) (by omega) (by simp[cd,bG,Go.Av.look]) ?_ ?_ ?_
 ·exact aW
 ·simp[aa.upto,av,ix,eW,ay]
 refine aG ?_;simp -dsimp only[simprocAttr,↓I,zp,eR,hs,qL,<-eh]
 repeat(refine⟨by omega,?_⟩)
 refine ai ?_;refine az ?_;refine .inr (.inr ⟨_,gb,ae (zj ?_)⟩);refine ai ?_;refine az (ai ?_);refine ah ?_;refine az (ai ?_);apply aF rfl<;>intro h
 ·exact ab h (by omega)
 refine az (ai ?_);apply aF rfl<;>intro h
 ·refine aG ?_;simp -dsimp only[simprocAttr,↓I,zp,Kd];refine ai ?_;refine aZ 6 [aI c.kind,aI c.n,.aB 4 (c.list.map SV.enc) .sh,eP c.arr] [(0,.mp 2 0),(2,.mp f.b9 0),(4,.ip none [aI i.to,aI i.op,aI i.n,bp i.args]),(5,.aB 4 (args.map SV.enc) .sh),(6,.ip none [aI c.kind,aI c.n,.aB 4 (c.list.map SV.enc) .sh,eP c.arr])] rfl (by simp only[List.map_cons,List.map_nil,cT,cq,cz]) (by omega) (by simp[cd,bG,Go.Av.look]) eX ?_ ?_
  ·have qi:=(OR c (List.mem_of_getElem? Kd)).aS;rw[SV.gj]at qi;simp only[av,aa.upto,true_and,and_true]at qi;have OE:=SV.aj OR;simp[aa.upto,av,<-eF,ix,eW,ay,qi,OE];simp[eF,qi,OE]
  refine aG ?_;simp -dsimp only[simprocAttr,↓I,zp,hd]
  repeat(refine⟨by omega,?_⟩)
  refine⟨ob (by kernel_rfl),?_⟩;refine ai ?_;refine cP rfl ?_;refine dA ?_;refine .inr (.inl ⟨_,_,jZ,.inl (ae ?_)⟩);simp -dsimp only[simprocAttr,↓I,zp,eF]
  (refine aY ?_;simp -dsimp only[bH,ne_eq,Nat.reduceEqDiff,reduceCtorEq])
  skip
  simp -dsimp only[simprocAttr,↓I,zp,zr,Tryz.results32,mL,List.length_set,eF];exact⟨iz,trivial⟩
 exact af h (by omega)
theorem zg{u:cL}{m:Mach}{O:List aq}(aW:∀o∈O,o.upto O.length)(h0:O[2]?=some (.cells (aD u m)))(f:Fr)(r:List Fr)(ez:m.frames=f::r)(hf:O[f.b9]?=some (.cells (aX f)))(vW:f.b9≠2)
  {cs:List aa} (dD:O[m.sid]?=some (.cells cs)) (iq:cs[r.length]?=some (.mp f.b9 0)) (AN:r.length<=2 ^ 40) (F:Func) (hF:u.fns[f.fn.toNat]?=some F) (pP:0<=f.fn) (B:Block) (hB:F.blocks[f.blk.toNat]?=some B) (ru:0<=f.blk) (hv:O[f.dJ]?=some (.map (.int .i64) (f.vals.map gU))) (tE:f.b9≠f.dJ) (hu:∀e∈f.vals,SV.bj O.length e.2) (i:bI) (hi:B.ins[f.pos]?=some i) (uW:f.pos<=2 ^ 41) (mA:i.args.length<=4096) (f':Fr) (ga:f' = { f with pos:=f.pos+1 }) (args:List SV) (eZ:args=gH f.vals i.args) (O1:List aq) (eh:O1=O.set f.b9 (.cells (aX f'))) (gz:i.op=14) (c:SV) (Kd:args[0]?=some c) (hk:c.kind=2) (Oo:0<=c.n) (G:Func) (hG:u.fns[c.n.toNat]?=some G) (D:Block) (hD:G.blocks[0]?=some D) (zF:D.params.length≠args.length) (OR:∀v∈args,SV.bj O1.length v) (sy:O1[2]?=some (.cells (aD u m))) :
  aK Tryz.prog 32 O [.mp 2 0] (fun r O2=>r=.cN []∧O2=O1.set 2 (.cells (aD u (m.stop 5 0)))):=by
 have ix:=ag hf;have eW:=ag h0;have eR:=hf;unfold aX at eR;have nj:O[2]?=some (.cells [cn u.fns,aI u.main,.os m.sid (r.length+1) 1,aI m.left,.v (.bool m.short),.v (.bool m.over),.aB 1 (m.out.map aI) (.tok 3),aI m.fin,aI m.val]):=by
  rw[h0];unfold aD;rw[ez];rfl
 have wO:((r.length+1:Nat):Int)-1=(r.length:Nat):=by omega
 have HK:=ag hi;have hs:=dF hf;have eF:O.length=O1.length:=by rw[eh];simp
 have qL:[aI f.fn,aI f.blk,aI ((f.pos:Int)+1),aI f.to,.mm f.dJ]=aX f':=by
  rw[ga];simp[aX]
 have nC:O1[f'.b9]?=some (.cells (aX f')):=by rw[eh,ga];exact hs _
 have uZ:O1[f'.dJ]?=some (.map (.int .i64) (f'.vals.map gU)):=by rw[eh,ga];exact bN hv tE
 have eX:∀o∈O1,o.upto O1.length:=by
  rw[<-eF,eh];refine bx aW hf fun h=>?_;simp only[aX,av,aa.upto,true_and,and_true]at h ⊢;rw[ga];exact h
 have gb:=jJ eX nC uZ (by rw[ga,<-eF];exact hu) i.args mA;have jY:f'.b9=f.b9:=by rw[ga]
 have nS:f'.vals=f.vals:=by rw[ga]
 rw[jY,nS,<-eZ]at gb;rw[jY]at nC;have fk:O.length<=O.length:=Nat.le_refl _;have jZ:=kM eX sy 5 0;have iz:=bx eX sy (ds:=aD u (m.stop 5 0)) (fun h=>cc h rfl);have mL:=cM (O:=O1) (k:=2) (x:=.cells (aD u (m.stop 5 0)));unfold aD at sy;have hd:decide (c.kind=2)=true:=decide_eq_true hk;have lA:decide ((D.params.length:Int)=args.length)=false:=decide_eq_false (by omega);refine dE hT true (O.length) Tryz.func32 rfl (by kernel_rfl) (by simp[Tryz.ntmps32]) (by assumption) ?_;show cG Tryz.prog _ _ _ ⟨137,_,_⟩;dsimp only[Tmp,TypeId,slotsOf];refine aG ?_;simp -dsimp only[simprocAttr,↓I,zp,nj,wO,Nat.mul_one,dD,iq]
 repeat(refine⟨by omega,?_⟩)
 refine⟨ob (by kernel_rfl),?_⟩;refine ai ?_;refine aG ?_;simp -dsimp only[simprocAttr,↓I,zp,nj,eR,hF,hB,pB]
 repeat(refine⟨by omega,?_⟩)
 refine⟨cm [2,f.b9] O.length [.pure,.pure,.pure,.pure,.rd 0,.pure,.pure,.pure,.rd 1,.pure,.pure,.pure,.pure,.pure,.pure,.rd 1,.pure,.pure,.wr 2 [],.wr 3 [2]] (by simp;omega) (by simp;omega) rfl rfl (by kernel_rfl),aY ?_⟩;simp -dsimp only[bH,ne_eq,Nat.reduceEqDiff,reduceCtorEq];refine aZ 3 ([bp B.params,cS B.ins,aI B.term.kind,aI B.term.arg,aI B.term.n,bp B.term.cases,bq B.term.to]) [(0,.mp 2 0),(2,.mp f.b9 0),(3,.ip none [bp B.params,cS B.ins,aI B.term.kind,aI B.term.arg,aI B.term.n,bp B.term.cases,bq B.term.to])] rfl (by rfl) (by omega) (by simp[cd,bG,Go.Av.look]) ?_ ?_ ?_
 ·exact aW
 ·simp[aa.upto,av,ix,eW,ay,Edge.aj,bI.aj]
 refine bR ?_;simp -dsimp only[simprocAttr,↓I,zp,eR];refine⟨ob (by kernel_rfl),?_⟩;refine ai ?_;apply aF rfl<;>intro h
 ·exact ab h (by omega)
 refine bZ ?_;refine aG ?_;simp -dsimp only[simprocAttr,↓I,zp,eR,hi,Int.toNat_natCast]
 repeat(refine⟨by omega,?_⟩)
 refine⟨cm [f.b9] O.length [.pure,.pure,.pure,.pure,.pure,.rd 0,.pure,.pure,.wr 1 [],.wr 2 [1]] (by simp) (by simp;omega) rfl rfl (by kernel_rfl),aY ?_⟩;simp -dsimp only[bH,ne_eq,Nat.reduceEqDiff,reduceCtorEq];refine aZ 4 ([aI i.to,aI i.op,aI i.n,bp i.args]) [(0,.mp 2 0),(2,.mp f.b9 0),(4,.ip none [aI i.to,aI i.op,aI i.n,bp i.args])] rfl (by rfl) (by omega) (by simp[cd,bG,Go.Av.look]) ?_ ?_ ?_
 ·exact aW
 ·simp[aa.upto,av,ix,eW,ay]
 refine aG ?_;simp -dsimp only[simprocAttr,↓I,zp,eR,hs,qL,<-eh]
 repeat(refine⟨by omega,?_⟩)
 refine ai ?_;refine az ?_;refine .inr (.inr ⟨_,gb,ae (zj ?_)⟩);refine ai ?_;refine az (ai ?_);refine ah ?_;refine az (ai ?_);apply aF rfl<;>intro h
 ·exact ab h (by omega)
 refine az (ai ?_);apply aF rfl<;>intro h
 ·refine aG ?_;simp -dsimp only[simprocAttr,↓I,zp,Kd];refine ai ?_;refine aZ 6 [aI c.kind,aI c.n,.aB 4 (c.list.map SV.enc) .sh,eP c.arr] [(0,.mp 2 0),(2,.mp f.b9 0),(4,.ip none [aI i.to,aI i.op,aI i.n,bp i.args]),(5,.aB 4 (args.map SV.enc) .sh),(6,.ip none [aI c.kind,aI c.n,.aB 4 (c.list.map SV.enc) .sh,eP c.arr])] rfl (by simp only[List.map_cons,List.map_nil,cT,cq,cz]) (by omega) (by simp[cd,bG,Go.Av.look]) eX ?_ ?_
  ·have qi:=(OR c (List.mem_of_getElem? Kd)).aS;rw[SV.gj]at qi;simp only[av,aa.upto,true_and,and_true]at qi;have OE:=SV.aj OR;simp[aa.upto,av,<-eF,ix,eW,ay,qi,OE];simp[eF,qi,OE]
  refine aG ?_;simp -dsimp only[simprocAttr,↓I,zp,hd,sy,hG,hD,lA]
  repeat(refine⟨by omega,?_⟩)
  refine⟨ob (by kernel_rfl),?_⟩;refine ai ?_;refine cP rfl ?_;refine dA ?_;refine .inr (.inl ⟨_,_,jZ,.inl (ae ?_)⟩);simp -dsimp only[simprocAttr,↓I,zp,eF]
  (refine aY ?_;simp -dsimp only[bH,ne_eq,Nat.reduceEqDiff,reduceCtorEq])
  skip
  simp -dsimp only[simprocAttr,↓I,zp,zr,Tryz.results32,mL,List.length_set,eF];exact⟨iz,trivial⟩
 exact af h (by omega)
theorem Ga{u:cL}{m:Mach}{O:List aq}(aW:∀o∈O,o.upto O.length)(h0:O[2]?=some (.cells (aD u m)))(f:Fr)(r:List Fr)(ez:m.frames=f::r)(hf:O[f.b9]?=some (.cells (aX f)))(vW:f.b9≠2)
  {cs:List aa} (dD:O[m.sid]?=some (.cells cs)) (iq:cs[r.length]?=some (.mp f.b9 0)) (AN:r.length<=2 ^ 40) (F:Func) (hF:u.fns[f.fn.toNat]?=some F) (pP:0<=f.fn) (B:Block) (hB:F.blocks[f.blk.toNat]?=some B) (ru:0<=f.blk) (hv:O[f.dJ]?=some (.map (.int .i64) (f.vals.map gU))) (tE:f.b9≠f.dJ) (hu:∀e∈f.vals,SV.bj O.length e.2) (i:bI) (hi:B.ins[f.pos]?=some i) (uW:f.pos<=2 ^ 41) (mA:i.args.length<=4096) (f':Fr) (ga:f' = { f with pos:=f.pos+1 }) (args:List SV) (eZ:args=gH f.vals i.args) (O1:List aq) (eh:O1=O.set f.b9 (.cells (aX f'))) (gz:i.op≠13∧i.op≠14) {O2:List aq} (v:SV) (t:Int) (hC:aK Tryz.prog 58 O1 [.mp 2 0,i.enc,.aB 4 (args.map SV.enc) .sh] (fun r O3=>r=.cN [v.enc,aI t]∧O3=O2)) (hlen:O.length<=O2.length) (iz:∀o∈O2,o.upto O2.length) (pR:SV.bj O2.length v) (m2:Mach) (Sp:O2[2]?=some (.cells (aD u m2)))
  (HF:O2[f.b9]?=some (.cells (aX f'))) (TI:O2[f.dJ]?=some (.map (.int .i64) (f.vals.map gU))) (wQ:∀e∈f.vals,SV.bj O2.length e.2) (W9:f.dJ≠2) (ht:t=0) :
  aK Tryz.prog 32 O [.mp 2 0] (fun r O3=>r=.cN []∧O3=O2.set f.dJ (.map (.int .i64) ((fR f.vals i.to v).map gU))):=by
 have ix:=ag hf;have eW:=ag h0;have eR:=hf;unfold aX at eR;have nj:O[2]?=some (.cells [cn u.fns,aI u.main,.os m.sid (r.length+1) 1,aI m.left,.v (.bool m.short),.v (.bool m.over),.aB 1 (m.out.map aI) (.tok 3),aI m.fin,aI m.val]):=by
  rw[h0];unfold aD;rw[ez];rfl
 have wO:((r.length+1:Nat):Int)-1=(r.length:Nat):=by omega
 have HK:=ag hi;have hs:=dF hf;have eF:O.length=O1.length:=by rw[eh];simp
 have qL:[aI f.fn,aI f.blk,aI ((f.pos:Int)+1),aI f.to,.mm f.dJ]=aX f':=by
  rw[ga];simp[aX]
 have nC:O1[f'.b9]?=some (.cells (aX f')):=by rw[eh,ga];exact hs _
 have uZ:O1[f'.dJ]?=some (.map (.int .i64) (f'.vals.map gU)):=by rw[eh,ga];exact bN hv tE
 have eX:∀o∈O1,o.upto O1.length:=by
  rw[<-eF,eh];refine bx aW hf fun h=>?_;simp only[aX,av,aa.upto,true_and,and_true]at h ⊢;rw[ga];exact h
 have gb:=jJ eX nC uZ (by rw[ga,<-eF];exact hu) i.args mA;have jY:f'.b9=f.b9:=by rw[ga]
 have nS:f'.vals=f.vals:=by rw[ga]
 rw[jY,nS,<-eZ]at gb;rw[jY]at nC;have PU:=ag HF;have P2:=ag Sp;have Ql:=pR.aS;rw[SV.gj]at Ql;simp only[av,aa.upto,true_and,and_true]at Ql;have hd:decide (t=0)=true:=decide_eq_true ht;have S5:aX f'=[aI f.fn,aI f.blk,aI ((f.pos:Int)+1),aI f.to,.mm f.dJ]:=qL.symm;have HN:ba O2.length ((fR f.vals i.to v).map gU):=Ak fun x hx=>by
  rcases jF hx with q|q
  ·exact wQ x q
  rw[q];exact pR
 rw[S5]at HF;have AQ:=bT (k:=f.dJ) (x:=.map (.int .i64) ((fR f.vals i.to v).map gU)) iz HN;have mL:=cM (O:=O2) (k:=f.dJ) (x:=.map (.int .i64) ((fR f.vals i.to v).map gU));refine dE hT true (O2.length) Tryz.func32 rfl (by kernel_rfl) (by simp[Tryz.ntmps32]) (by assumption) ?_;show cG Tryz.prog _ _ _ ⟨137,_,_⟩;dsimp only[Tmp,TypeId,slotsOf];refine aG ?_;simp -dsimp only[simprocAttr,↓I,zp,nj,wO,Nat.mul_one,dD,iq]
 repeat(refine⟨by omega,?_⟩)
 refine⟨ob (by kernel_rfl),?_⟩;refine ai ?_;refine aG ?_;simp -dsimp only[simprocAttr,↓I,zp,nj,eR,hF,hB,pB]
 repeat(refine⟨by omega,?_⟩)
 refine⟨cm [2,f.b9] O.length [.pure,.pure,.pure,.pure,.rd 0,.pure,.pure,.pure,.rd 1,.pure,.pure,.pure,.pure,.pure,.pure,.rd 1,.pure,.pure,.wr 2 [],.wr 3 [2]] (by simp;omega) (by simp;omega) rfl rfl (by kernel_rfl),aY ?_⟩;simp -dsimp only[bH,ne_eq,Nat.reduceEqDiff,reduceCtorEq];refine aZ 3 ([bp B.params,cS B.ins,aI B.term.kind,aI B.term.arg,aI B.term.n,bp B.term.cases,bq B.term.to]) [(0,.mp 2 0),(2,.mp f.b9 0),(3,.ip none [bp B.params,cS B.ins,aI B.term.kind,aI B.term.arg,aI B.term.n,bp B.term.cases,bq B.term.to])] rfl (by rfl) (by omega) (by simp[cd,bG,Go.Av.look]) ?_ ?_ ?_
 ·exact aW
 ·simp[aa.upto,av,ix,eW,ay,Edge.aj,bI.aj]
 refine bR ?_;simp -dsimp only[simprocAttr,↓I,zp,eR];refine⟨ob (by kernel_rfl),?_⟩;refine ai ?_;apply aF rfl<;>intro h
 ·exact ab h (by omega)
 refine bZ ?_;refine aG ?_;simp -dsimp only[simprocAttr,↓I,zp,eR,hi,Int.toNat_natCast]
 repeat(refine⟨by omega,?_⟩)
 refine⟨cm [f.b9] O.length [.pure,.pure,.pure,.pure,.pure,.rd 0,.pure,.pure,.wr 1 [],.wr 2 [1]] (by simp) (by simp;omega) rfl rfl (by kernel_rfl),aY ?_⟩;simp -dsimp only[bH,ne_eq,Nat.reduceEqDiff,reduceCtorEq];refine aZ 4 ([aI i.to,aI i.op,aI i.n,bp i.args]) [(0,.mp 2 0),(2,.mp f.b9 0),(4,.ip none [aI i.to,aI i.op,aI i.n,bp i.args])] rfl (by rfl) (by omega) (by simp[cd,bG,Go.Av.look]) ?_ ?_ ?_
 ·exact aW
 ·simp[aa.upto,av,ix,eW,ay]
 refine aG ?_;simp -dsimp only[simprocAttr,↓I,zp,eR,hs,qL,<-eh]
 repeat(refine⟨by omega,?_⟩)
 refine ai ?_;refine az ?_;refine .inr (.inr ⟨_,gb,ae (zj ?_)⟩);refine ai ?_;refine az (ai ?_);refine ah ?_;refine az (ai ?_);apply aF rfl<;>intro h
 ·exact ab h (by omega)
 refine az (ai ?_);apply aF rfl<;>intro h
 ·exact ab h (by omega)
 refine az ?_;refine .inr (.inl ⟨_,_,hC,.inl (ae (zj ?_))⟩);refine ai ?_;refine aZ 7 [aI v.kind,aI v.n,.aB 4 (v.list.map SV.enc) .sh,eP v.arr] [(0,.mp 2 0),(2,.mp f.b9 0),(4,.ip none [aI i.to,aI i.op,aI i.n,bp i.args]),(7,.ip none [aI v.kind,aI v.n,.aB 4 (v.list.map SV.enc) .sh,eP v.arr]),(8,aI t)] rfl (by simp only[List.map_cons,List.map_nil,cT,cq,cz]) (by omega) (by simp[cd,bG,Go.Av.look]) iz ?_ ?_
 ·simp[aa.upto,av,PU,P2,ay,Ql]
 refine bR ?_;simp -dsimp only[simprocAttr,↓I,zp,hd];refine ai ?_;refine cP rfl ?_;refine bZ ?_;refine fE ?_;simp -dsimp only[simprocAttr,↓I,zp,HF,TI,qX];refine⟨ob (by kernel_rfl),?_⟩
 (refine aY ?_;simp -dsimp only[bH,ne_eq,Nat.reduceEqDiff,reduceCtorEq])
 skip
 simp -dsimp only[simprocAttr,↓I,zp,zr,Tryz.results32,mL,List.length_set];exact⟨AQ,trivial⟩
theorem Gc{u:cL}{m:Mach}{O:List aq}(aW:∀o∈O,o.upto O.length)(h0:O[2]?=some (.cells (aD u m)))(f:Fr)(r:List Fr)(ez:m.frames=f::r)(hf:O[f.b9]?=some (.cells (aX f)))(vW:f.b9≠2)
  {cs:List aa} (dD:O[m.sid]?=some (.cells cs)) (iq:cs[r.length]?=some (.mp f.b9 0)) (AN:r.length<=2 ^ 40) (F:Func) (hF:u.fns[f.fn.toNat]?=some F) (pP:0<=f.fn) (B:Block) (hB:F.blocks[f.blk.toNat]?=some B) (ru:0<=f.blk) (hv:O[f.dJ]?=some (.map (.int .i64) (f.vals.map gU))) (tE:f.b9≠f.dJ) (hu:∀e∈f.vals,SV.bj O.length e.2) (i:bI) (hi:B.ins[f.pos]?=some i) (uW:f.pos<=2 ^ 41) (mA:i.args.length<=4096) (f':Fr) (ga:f' = { f with pos:=f.pos+1 }) (args:List SV) (eZ:args=gH f.vals i.args) (O1:List aq) (eh:O1=O.set f.b9 (.cells (aX f'))) (gz:i.op≠13∧i.op≠14) {O2:List aq} (v:SV) (t:Int) (hC:aK Tryz.prog 58 O1 [.mp 2 0,i.enc,.aB 4 (args.map SV.enc) .sh] (fun r O3=>r=.cN [v.enc,aI t]∧O3=O2)) (hlen:O.length<=O2.length) (iz:∀o∈O2,o.upto O2.length) (pR:SV.bj O2.length v) (m2:Mach) (Sp:O2[2]?=some (.cells (aD u m2)))
  (HF:O2[f.b9]?=some (.cells (aX f'))) (TI:O2[f.dJ]?=some (.map (.int .i64) (f.vals.map gU))) (wQ:∀e∈f.vals,SV.bj O2.length e.2) (W9:f.dJ≠2) (ht:t≠0) :
  aK Tryz.prog 32 O [.mp 2 0] (fun r O3=>r=.cN []∧O3=(O2.set 2 (.cells (aD u (m2.stop t 0)))).set f.dJ (.map (.int .i64) ((fR f.vals i.to v).map gU))):=by
 have ix:=ag hf;have eW:=ag h0;have eR:=hf;unfold aX at eR;have nj:O[2]?=some (.cells [cn u.fns,aI u.main,.os m.sid (r.length+1) 1,aI m.left,.v (.bool m.short),.v (.bool m.over),.aB 1 (m.out.map aI) (.tok 3),aI m.fin,aI m.val]):=by
  rw[h0];unfold aD;rw[ez];rfl
 have wO:((r.length+1:Nat):Int)-1=(r.length:Nat):=by omega
 have HK:=ag hi;have hs:=dF hf;have eF:O.length=O1.length:=by rw[eh];simp
 have qL:[aI f.fn,aI f.blk,aI ((f.pos:Int)+1),aI f.to,.mm f.dJ]=aX f':=by
  rw[ga];simp[aX]
 have nC:O1[f'.b9]?=some (.cells (aX f')):=by rw[eh,ga];exact hs _
 have uZ:O1[f'.dJ]?=some (.map (.int .i64) (f'.vals.map gU)):=by rw[eh,ga];exact bN hv tE
 have eX:∀o∈O1,o.upto O1.length:=by
  rw[<-eF,eh];refine bx aW hf fun h=>?_;simp only[aX,av,aa.upto,true_and,and_true]at h ⊢;rw[ga];exact h
 have gb:=jJ eX nC uZ (by rw[ga,<-eF];exact hu) i.args mA;have jY:f'.b9=f.b9:=by rw[ga]
 have nS:f'.vals=f.vals:=by rw[ga]
 rw[jY,nS,<-eZ]at gb;rw[jY]at nC;have PU:=ag HF;have P2:=ag Sp;have Ql:=pR.aS;rw[SV.gj]at Ql;simp only[av,aa.upto,true_and,and_true]at Ql;have hd:decide (t=0)=false:=decide_eq_false ht;have S5:aX f'=[aI f.fn,aI f.blk,aI ((f.pos:Int)+1),aI f.to,.mm f.dJ]:=qL.symm;have HN:ba O2.length ((fR f.vals i.to v).map gU):=Ak fun x hx=>by
  rcases jF hx with q|q
  ·exact wQ x q
  rw[q];exact pR
 have jZ:=kM iz Sp t 0;obtain⟨O3,Su⟩:∃O3,O3=O2.set 2 (.cells (aD u (m2.stop t 0))):=⟨_,rfl⟩
 have OA:O2.length=O3.length:=by rw[Su];simp
 rw[<-Su]at jZ ⊢;have WC:O3[f.b9]?=some (.cells (aX f')):=by rw[Su];exact bN HF vW.symm
 have Ym:O3[f.dJ]?=some (.map (.int .i64) (f.vals.map gU)):=by rw[Su];exact bN TI W9.symm
 rw[S5]at WC;have AQ:∀o∈O3.set f.dJ (.map (.int .i64) ((fR f.vals i.to v).map gU)),o.upto O3.length:=by
  rw[<-OA];refine bT ?_ HN;rw[Su];exact bx iz Sp (fun h=>cc h rfl)
 have mL:=cM (O:=O3) (k:=f.dJ) (x:=.map (.int .i64) ((fR f.vals i.to v).map gU));refine dE hT true (O2.length) Tryz.func32 rfl (by kernel_rfl) (by simp[Tryz.ntmps32]) (by assumption) ?_;show cG Tryz.prog _ _ _ ⟨137,_,_⟩;dsimp only[Tmp,TypeId,slotsOf];refine aG ?_;simp -dsimp only[simprocAttr,↓I,zp,nj,wO,Nat.mul_one,dD,iq]
 repeat(refine⟨by omega,?_⟩)
 refine⟨ob (by kernel_rfl),?_⟩;refine ai ?_;refine aG ?_;simp -dsimp only[simprocAttr,↓I,zp,nj,eR,hF,hB,pB]
 repeat(refine⟨by omega,?_⟩)
 refine⟨cm [2,f.b9] O.length [.pure,.pure,.pure,.pure,.rd 0,.pure,.pure,.pure,.rd 1,.pure,.pure,.pure,.pure,.pure,.pure,.rd 1,.pure,.pure,.wr 2 [],.wr 3 [2]] (by simp;omega) (by simp;omega) rfl rfl (by kernel_rfl),aY ?_⟩;simp -dsimp only[bH,ne_eq,Nat.reduceEqDiff,reduceCtorEq];refine aZ 3 ([bp B.params,cS B.ins,aI B.term.kind,aI B.term.arg,aI B.term.n,bp B.term.cases,bq B.term.to]) [(0,.mp 2 0),(2,.mp f.b9 0),(3,.ip none [bp B.params,cS B.ins,aI B.term.kind,aI B.term.arg,aI B.term.n,bp B.term.cases,bq B.term.to])] rfl (by rfl) (by omega) (by simp[cd,bG,Go.Av.look]) ?_ ?_ ?_
 ·exact aW
 ·simp[aa.upto,av,ix,eW,ay,Edge.aj,bI.aj]
 refine bR ?_;simp -dsimp only[simprocAttr,↓I,zp,eR];refine⟨ob (by kernel_rfl),?_⟩;refine ai ?_;apply aF rfl<;>intro h
 ·exact ab h (by omega)
 refine bZ ?_;refine aG ?_;simp -dsimp only[simprocAttr,↓I,zp,eR,hi,Int.toNat_natCast]
 repeat(refine⟨by omega,?_⟩)
 refine⟨cm [f.b9] O.length [.pure,.pure,.pure,.pure,.pure,.rd 0,.pure,.pure,.wr 1 [],.wr 2 [1]] (by simp) (by simp;omega) rfl rfl (by kernel_rfl),aY ?_⟩;simp -dsimp only[bH,ne_eq,Nat.reduceEqDiff,reduceCtorEq];refine aZ 4 ([aI i.to,aI i.op,aI i.n,bp i.args]) [(0,.mp 2 0),(2,.mp f.b9 0),(4,.ip none [aI i.to,aI i.op,aI i.n,bp i.args])] rfl (by rfl) (by omega) (by simp[cd,bG,Go.Av.look]) ?_ ?_ ?_
 ·exact aW
 ·simp[aa.upto,av,ix,eW,ay]
 refine aG ?_;simp -dsimp only[simprocAttr,↓I,zp,eR,hs,qL,<-eh]
 repeat(refine⟨by omega,?_⟩)
 refine ai ?_;refine az ?_;refine .inr (.inr ⟨_,gb,ae (zj ?_)⟩);refine ai ?_;refine az (ai ?_);refine ah ?_;refine az (ai ?_);apply aF rfl<;>intro h
 ·exact ab h (by omega)
 refine az (ai ?_);apply aF rfl<;>intro h
 ·exact ab h (by omega)
 refine az ?_;refine .inr (.inl ⟨_,_,hC,.inl (ae (zj ?_))⟩);refine ai ?_;refine aZ 7 [aI v.kind,aI v.n,.aB 4 (v.list.map SV.enc) .sh,eP v.arr] [(0,.mp 2 0),(2,.mp f.b9 0),(4,.ip none [aI i.to,aI i.op,aI i.n,bp i.args]),(7,.ip none [aI v.kind,aI v.n,.aB 4 (v.list.map SV.enc) .sh,eP v.arr]),(8,aI t)] rfl (by simp only[List.map_cons,List.map_nil,cT,cq,cz]) (by omega) (by simp[cd,bG,Go.Av.look]) iz ?_ ?_
 ·simp[aa.upto,av,PU,P2,ay,Ql]
 refine bR ?_;simp -dsimp only[simprocAttr,↓I,zp,hd];refine ai ?_;refine dS rfl ?_;refine dA ?_;refine .inr (.inl ⟨_,_,jZ,.inl (ae (zj ?_))⟩);refine ai ?_;refine fE ?_;simp -dsimp only[simprocAttr,↓I,zp,WC,Ym,qX];refine⟨ob (by kernel_rfl),?_⟩
 (refine aY ?_;simp -dsimp only[bH,ne_eq,Nat.reduceEqDiff,reduceCtorEq])
 skip
 simp -dsimp only[simprocAttr,↓I,zp,zr,Tryz.results32,OA,mL,List.length_set];exact⟨AQ,trivial⟩
end Go.Proofs.YtocdpaifmnkoaaaGreatDoor
namespace Go.Proofs.YtocdpaifmnkoaaaGreatDoor
open Go.Av
def Holds(L:List (Nat×aq))(O:List aq):Prop:=∀p∈L,O[p.1]?=some p.2
def eI(L:List (Nat×aq)):List Nat:=L.map Prod.fst
theorem eE(A B:List (Nat×aq)):eI (A++B)=eI A++eI B:=by simp[eI]
theorem jC(p:Nat×aq)(B:List (Nat×aq)):eI (p::B)=p.1::eI B:=rfl
theorem ij{L:List (Nat×aq)}{p:Nat×aq}(h:p∈L):p.1∈eI L:=List.mem_map.2 ⟨p,h,rfl⟩
theorem ib{A B:List (Nat×aq)}{id:Nat}{y x:aq}{O:List aq}(h:Holds (A++(id,y)::B) O)(hn:(eI (A++(id,y)::B)).Nodup):Holds (A++(id,x)::B) (O.set id x):=by
 rw[eE,jC,List.nodup_append]at hn;obtain⟨_,hB,Xq⟩:=hn;rw[List.nodup_cons]at hB;intro p hp;rcases List.mem_append.1 hp with q|q
 ·have da:id≠p.1:=fun e=>Xq p.1 (ij q) id List.mem_cons_self e.symm;exact bN (h p (by simp[q])) da
 rcases List.mem_cons.1 q with rfl|q
 ·exact tX (h (id,y) (by simp))
 have da:id≠p.1:=fun e=>hB.1 (by
  show id∈eI B;rw[e];exact ij q)
 exact bN (h p (by simp[q])) da
theorem jD(A B:List (Nat×aq))(id:Nat)(y x:aq):eI (A++(id,y)::B)=eI (A++(id,x)::B):=by simp[eI]
theorem Holds.sub{L M:List (Nat×aq)}{O:List aq}(h:Holds L O)(hs:∀p∈M,p∈L):Holds M O:=fun p hp=>h p (hs p hp)
theorem Holds.lt{L:List (Nat×aq)}{O:List aq}(h:Holds L O):∀k∈eI L,k<O.length:=fun k hk=>by
 obtain⟨p,hp,rfl⟩:=List.mem_map.1 hk;exact ag (h p hp)
def mz:List Fr->List (Nat×aq)
 | []=>[]
 | f::r=>(f.b9,.cells (aX f))::(f.dJ,.map (.int .i64) (f.vals.map gU))::mz r
def gg:List BP->List (Nat×aq)
 | []=>[]
 | a::r=>(a.lI,.cells [.ms a.nJ 0 a.l.length a.l.length])::(a.nJ,.cells (aw (a.l.map SV.enc)))::gg r
theorem px(A B:List BP):gg (A++B)=gg A++gg B:=by
 induction A with
 | nil=>rfl
 | cons a r ih=>simp[gg,ih]
def cv(u:cL)(m:Mach)(rest:List aa):List (Nat×aq) :=
 (1,.cells [.aB 1 [] .ex,aI 0,aI 0])::(2,.cells (aD u m))::(3,.spare m.out.length)::(m.sid,.cells (eY m.frames++rest))::(mz m.frames++gg m.heap)
structure Tl(u:cL)(m:Mach)(rest:List aa)(O:List aq):Prop where
 len:O.length=m.next
 upto:∀o∈O,o.upto O.length
 holds:Holds (cv u m rest) O
 nodup:(eI (cv u m rest)).Nodup
namespace Tl
variable {u:cL} {m:Mach} {rest:List aa} {O:List aq}
theorem gI(h:Tl u m rest O):O[2]?=some (.cells (aD u m)):=h.holds (2,_) (by simp[cv])
theorem outs(h:Tl u m rest O):O[3]?=some (.spare m.out.length):=h.holds (3,_) (by simp[cv])
theorem stack(h:Tl u m rest O):O[m.sid]?=some (.cells (eY m.frames++rest)):=h.holds (m.sid,_) (by simp[cv])
theorem oG{l:List Fr}{f:Fr}(hf:f∈l):(f.b9,aq.cells (aX f))∈mz l∧(f.dJ,aq.map (.int .i64) (f.vals.map gU))∈mz l:=by
 induction l with
 | nil=>simp at hf
 | cons g r ih =>
  rcases List.mem_cons.1 hf with rfl|hf
  ·simp[mz]
  simp[mz,ih hf]
theorem ya{l:List BP}{a:BP}(ha:a∈l):(a.lI,aq.cells [.ms a.nJ 0 a.l.length a.l.length])∈gg l∧(a.nJ,aq.cells (aw (a.l.map SV.enc)))∈gg l:=by
 induction l with
 | nil=>simp at ha
 | cons g r ih =>
  rcases List.mem_cons.1 ha with rfl|ha
  ·simp[gg]
  simp[gg,ih ha]
theorem frame(h:Tl u m rest O){f:Fr}(hf:f∈m.frames):O[f.b9]?=some (.cells (aX f))∧O[f.dJ]?=some (.map (.int .i64) (f.vals.map gU)) :=
 ⟨h.holds (f.b9,_) (by simp[cv,oG hf]),h.holds (f.dJ,_) (by simp[cv,oG hf])⟩
theorem arr(h:Tl u m rest O){a:BP}(ha:a∈m.heap):O[a.lI]?=some (.cells [.ms a.nJ 0 a.l.length a.l.length])∧O[a.nJ]?=some (.cells (aw (a.l.map SV.enc))) :=
 ⟨h.holds (a.lI,_) (by simp[cv,ya ha]),h.holds (a.nJ,_) (by simp[cv,ya ha])⟩
theorem under(h:Tl u m rest O){v:SV}(hv:gE u m v):SV.bj O.length v :=
 SV.Wf.under (fun id ⟨a,ha,e⟩=>by
  rw[<-e];exact ag (h.arr ha).1) hv
theorem oO(h:Tl u m rest O)(m':Mach)(h1:m'.sid=m.sid)(h2:m'.frames=m.frames)(h3:m'.heap=m.heap)(h4:m'.out.length=m.out.length)(h5:m'.next=m.next):Tl u m' rest (O.set 2 (.cells (aD u m'))):=by
 have e:cv u m' rest=[(1,.cells [.aB 1 [] .ex,aI 0,aI 0])]++(2,.cells (aD u m'))::((3,.spare m.out.length)::(m.sid,.cells (eY m.frames++rest))::(mz m.frames++gg m.heap)):=by
  simp[cv,h1,h2,h3,h4]
 refine⟨by simp[h.len,h5],?_,?_,?_⟩
 ·rw[List.length_set];exact bx h.upto h.gI (fun q=>cc q h1)
 ·rw[e];exact ib (A:=[_]) (y:=.cells (aD u m)) h.holds h.nodup
 rw[e,<-jD _ _ _ (.cells (aD u m))];exact h.nodup
theorem QA(h:Tl u m rest O)(m':Mach)(h1:m'.sid=m.sid)(h2:m'.frames=m.frames)(h3:m'.heap=m.heap)(h5:m'.next=m.next):Tl u m' rest ((O.set 3 (.spare m'.out.length)).set 2 (.cells (aD u m'))):=by
 have e:cv u m' rest=[(1,.cells [.aB 1 [] .ex,aI 0,aI 0])]++(2,.cells (aD u m'))::((3,.spare m'.out.length)::(m.sid,.cells (eY m.frames++rest))::(mz m.frames++gg m.heap)):=by
  simp[cv,h1,h2,h3]
 have hs:=ib (A:=[(1,.cells [.aB 1 [] .ex,aI 0,aI 0]),(2,.cells (aD u m))]) (x:=.spare m'.out.length) (y:=.spare m.out.length) h.holds h.nodup;have hk:=jD [(1,.cells [.aB 1 [] .ex,aI 0,aI 0]),(2,.cells (aD u m))] ((m.sid,.cells (eY m.frames++rest))::(mz m.frames++gg m.heap)) 3 (.spare m.out.length) (.spare m'.out.length);have hn:(eI ([(1,.cells [.aB 1 [] .ex,aI 0,aI 0]),(2,.cells (aD u m))]++(3,.spare m'.out.length)::((m.sid,.cells (eY m.frames++rest))::(mz m.frames++gg m.heap)))).Nodup:=by
  rw[<-hk];exact h.nodup
 refine⟨by simp[h.len,h5],?_,?_,?_⟩
 ·rw[List.length_set,List.length_set];exact bx (bT h.upto trivial) (bN h.gI (by omega)) (fun q=>cc q h1)
 ·rw[e];exact ib (A:=[_]) (y:=.cells (aD u m)) hs hn
 rw[e,<-jD _ _ _ (.cells (aD u m))];exact hn
theorem bX(h:Tl u m rest O){f f':Fr}{r:List Fr}(ez:m.frames=f::r)(h1:f'.b9=f.b9)(h2:f'.dJ=f.dJ)(h3:f'.vals=f.vals):Tl u (m.bX f') rest (O.set f.b9 (.cells (aX f'))):=by
 have hm:aD u (m.bX f')=aD u m:=by simp[aD,Mach.bX,ez]
 have hp:eY (f'::r)=eY (f::r):=by simp[eY,h1]
 have e:cv u (m.bX f') rest=[(1,.cells [.aB 1 [] .ex,aI 0,aI 0]),(2,.cells (aD u m)),(3,.spare m.out.length),(m.sid,.cells (eY m.frames++rest))]++(f.b9,.cells (aX f'))::((f.dJ,.map (.int .i64) (f.vals.map gU))::(mz r++gg m.heap)):=by
  unfold cv;rw[hm];simp[Mach.bX,ez,mz,h1,h2,h3,hp]
 have e0:cv u m rest=[(1,.cells [.aB 1 [] .ex,aI 0,aI 0]),(2,.cells (aD u m)),(3,.spare m.out.length),(m.sid,.cells (eY m.frames++rest))]++(f.b9,.cells (aX f))::((f.dJ,.map (.int .i64) (f.vals.map gU))::(mz r++gg m.heap)):=by
  simp[cv,ez,mz]
 have hh:=h.holds;have hn:=h.nodup;rw[e0]at hh hn;refine⟨by simp[h.len,Mach.bX],?_,?_,?_⟩
 ·rw[List.length_set];refine bx h.upto (h.frame (f:=f) (by rw[ez];simp)).1 (fun q=>?_);simp only[aX,av,aa.upto,true_and,and_true,h2]at q ⊢;exact q
 ·rw[e];exact ib hh hn
 rw[e,<-jD _ _ _ (.cells (aX f))];exact hn
theorem y8(h:Tl u m rest O){f f':Fr}{r:List Fr}(ez:m.frames=f::r)(h1:f' = { f with vals:=f'.vals })(hu:∀e∈f'.vals,SV.bj O.length e.2):Tl u (m.bX f') rest (O.set f.dJ (.map (.int .i64) (f'.vals.map gU))):=by
 have hm:aD u (m.bX f')=aD u m:=by simp[aD,Mach.bX,ez]
 have jY:f'.b9=f.b9:=by rw[h1]
 have wL:f'.dJ=f.dJ:=by rw[h1]
 have HG:aX f'=aX f:=by rw[h1];rfl
 have hp:eY (f'::r)=eY (f::r):=by simp[eY,jY]
 have e:cv u (m.bX f') rest=[(1,.cells [.aB 1 [] .ex,aI 0,aI 0]),(2,.cells (aD u m)),(3,.spare m.out.length),(m.sid,.cells (eY m.frames++rest)),(f.b9,.cells (aX f))]++(f.dJ,.map (.int .i64) (f'.vals.map gU))::(mz r++gg m.heap):=by
  unfold cv;rw[hm];simp[Mach.bX,ez,mz,jY,wL,HG,hp]
 have e0:cv u m rest=[(1,.cells [.aB 1 [] .ex,aI 0,aI 0]),(2,.cells (aD u m)),(3,.spare m.out.length),(m.sid,.cells (eY m.frames++rest)),(f.b9,.cells (aX f))]++(f.dJ,.map (.int .i64) (f.vals.map gU))::(mz r++gg m.heap):=by
  simp[cv,ez,mz]
 have hh:=h.holds;have hn:=h.nodup;rw[e0]at hh hn;refine⟨by simp[h.len,Mach.bX],?_,?_,?_⟩
 ·rw[List.length_set];exact bT h.upto (Ak hu)
 ·rw[e];exact ib hh hn
 rw[e,<-jD _ _ _ (.map (.int .i64) (f.vals.map gU))];exact hn
theorem pop(h:Tl u m rest O){f g g':Fr}{r:List Fr}(ez:m.frames=f::g::r)(h1:g' = { g with vals:=g'.vals })(hu:∀e∈g'.vals,SV.bj O.length e.2)(m':Mach)(eN:m' = { m with frames:=g'::r }) :
  Tl u m' (.mp f.b9 0::rest) ((O.set 2 (.cells (aD u m'))).set g.dJ (.map (.int .i64) (g'.vals.map gU))):=by
 have jY:g'.b9=g.b9:=by rw[h1]
 have wL:g'.dJ=g.dJ:=by rw[h1]
 have HG:aX g'=aX g:=by rw[h1];rfl
 have hp:eY (f::g::r)++rest=eY (g'::r)++.mp f.b9 0::rest:=by simp[eY,jY]
 have e0:cv u m rest=[(1,.cells [.aB 1 [] .ex,aI 0,aI 0])]++(2,.cells (aD u m))::((3,.spare m.out.length)::(m.sid,.cells (eY (g'::r)++.mp f.b9 0::rest))::(f.b9,.cells (aX f))::(f.dJ,.map (.int .i64) (f.vals.map gU))::(g.b9,.cells (aX g))::(g.dJ,.map (.int .i64) (g.vals.map gU))::(mz r++gg m.heap)):=by
  simp[cv,ez,mz,<-hp]
 have e1:cv u m' (.mp f.b9 0::rest)=[(1,.cells [.aB 1 [] .ex,aI 0,aI 0]),(2,.cells (aD u m')),(3,.spare m.out.length),(m.sid,.cells (eY (g'::r)++.mp f.b9 0::rest)),(g.b9,.cells (aX g))]++(g.dJ,.map (.int .i64) (g'.vals.map gU))::(mz r++gg m.heap):=by
  rw[eN];simp[cv,mz,jY,wL,HG]
 have hh:=h.holds;have hn:=h.nodup;rw[e0]at hh hn;have h2:=ib (x:=.cells (aD u m')) hh hn;have CP:∀p∈[(1,aq.cells [.aB 1 [] .ex,aI 0,aI 0]),(2,.cells (aD u m')),(3,.spare m.out.length),(m.sid,.cells (eY (g'::r)++.mp f.b9 0::rest)),(g.b9,.cells (aX g))]++(g.dJ,.map (.int .i64) (g.vals.map gU))::(mz r++gg m.heap),p∈[(1,.cells [.aB 1 [] .ex,aI 0,aI 0])]++(2,.cells (aD u m'))::((3,.spare m.out.length)::(m.sid,.cells (eY (g'::r)++.mp f.b9 0::rest))::(f.b9,.cells (aX f))::(f.dJ,.map (.int .i64) (f.vals.map gU))::(g.b9,.cells (aX g))::(g.dJ,.map (.int .i64) (g.vals.map gU))::(mz r++gg m.heap)):=by
  intro p hp;simp only[List.cons_append,List.nil_append,List.mem_cons]at hp ⊢;rcases hp with q|q|q|q|q|q|q
  all_goals simp[q]
 have WO:(eI ([(1,aq.cells [.aB 1 [] .ex,aI 0,aI 0]),(2,.cells (aD u m')),(3,.spare m.out.length),(m.sid,.cells (eY (g'::r)++.mp f.b9 0::rest)),(g.b9,.cells (aX g))]++(g.dJ,.map (.int .i64) (g.vals.map gU))::(mz r++gg m.heap))).Nodup:=by
  refine List.Nodup.sublist ?_ hn;simp only[eI,List.map_cons,List.map_append,List.map_nil,List.cons_append,List.nil_append];exact((((List.Sublist.refl _).cons _).cons _).cons₂ _ |>.cons₂ _ |>.cons₂ _ |>.cons₂ _)
 have hg:=h2.sub CP;refine⟨by rw[eN];simp[h.len],?_,?_,?_⟩
 ·rw[List.length_set,List.length_set];refine bT (bx h.upto h.gI (fun q=>cc q (by rw[eN]))) (Ak hu)
 ·rw[e1];exact ib hg WO
 rw[e1,<-jD _ _ _ (.map (.int .i64) (g.vals.map gU))];exact WO
theorem last(h:Tl u m rest O){f:Fr}(ez:m.frames=[f])(m':Mach)(h1:m'.sid=m.sid)(h2:m'.frames=[])(h3:m'.heap=m.heap)(h4:m'.out.length=m.out.length)(h5:m'.next=m.next):Tl u m' (.mp f.b9 0::rest) (O.set 2 (.cells (aD u m'))):=by
 have e0:cv u m rest=[(1,.cells [.aB 1 [] .ex,aI 0,aI 0])]++(2,.cells (aD u m))::((3,.spare m.out.length)::(m.sid,.cells (.mp f.b9 0::rest))::(f.b9,.cells (aX f))::(f.dJ,.map (.int .i64) (f.vals.map gU))::gg m.heap):=by
  simp[cv,ez,mz,eY]
 have e1:cv u m' (.mp f.b9 0::rest)=[(1,.cells [.aB 1 [] .ex,aI 0,aI 0]),(2,.cells (aD u m')),(3,.spare m.out.length),(m.sid,.cells (.mp f.b9 0::rest))]++gg m.heap:=by
  simp[cv,h1,h2,h3,h4,mz,eY]
 have hh:=h.holds;have hn:=h.nodup;rw[e0]at hh hn;refine⟨by simp[h.len,h5],?_,?_,?_⟩
 ·rw[List.length_set];exact bx h.upto h.gI (fun q=>cc q h1)
 ·rw[e1];refine(ib (x:=.cells (aD u m')) hh hn).sub fun p hp=>?_;simp only[List.cons_append,List.nil_append,List.mem_cons]at hp ⊢;rcases hp with q|q|q|q|q
  all_goals simp[q]
 rw[e1];refine List.Nodup.sublist ?_ hn;simp only[eI,List.map_cons,List.map_append,List.map_nil,List.cons_append,List.nil_append];exact((((List.Sublist.refl _).cons _).cons _).cons₂ _ |>.cons₂ _ |>.cons₂ _ |>.cons₂ _)
end Tl
end Go.Proofs.YtocdpaifmnkoaaaGreatDoor
namespace Go.Proofs.YtocdpaifmnkoaaaGreatDoor
open Go.Av
namespace Tl
variable {u:cL} {m:Mach} {rest:List aa} {O:List aq}
theorem keys(u:cL)(m:Mach)(rest:List aa):eI (cv u m rest)=1::2::3::m.sid::eI (mz m.frames++gg m.heap):=rfl
theorem others(h:Tl u m rest O):Holds (mz m.frames++gg m.heap) O∧(∀k∈eI (mz m.frames++gg m.heap),k≠1∧k≠2∧k≠3∧k≠m.sid∧k<O.length)∧(eI (mz m.frames++gg m.heap)).Nodup∧m.sid≠1∧m.sid≠2∧m.sid≠3∧m.sid<O.length∧3<O.length:=by
 have hn:=h.nodup;have bd:=h.holds.lt;rw[keys]at hn bd;simp only[List.nodup_cons,List.mem_cons,not_or]at hn;obtain⟨⟨a1,a2,a3,a4⟩,⟨b1,b2,b3⟩,⟨c1,c2⟩,d,e⟩:=hn;refine⟨fun p hp=>h.holds p (by simp only[cv,List.mem_cons];exact .inr (.inr (.inr (.inr hp)))),fun k hk=>⟨?_,?_,?_,?_,bd k (by simp[hk])⟩,e,fun q=>a3 q.symm,fun q=>b2 q.symm,fun q=>c1 q.symm,bd _ (by simp),bd 3 (by simp)⟩
 ·rintro rfl;exact a4 hk
 ·rintro rfl;exact b3 hk
 ·rintro rfl;exact c2 hk
 rintro rfl;exact d hk
theorem push(h:Tl u m rest O)(fn to:Int)(args:List SV)(m':Mach)(eN:m'=m.enter u fn args to)(hu:∀v∈args,SV.bj O.length v) :
  Tl u m' [] (((O.set m.sid .gone).set 2 (.cells (aD u m'))) ++
   [.map (.int .i64) ((gL [] (bQ (dc u fn) 0).params args).map gU),.cells [aI fn,aI 0,aI 0,aI to,.mm O.length],.cells (ml (eY m.frames++rest) m.frames.length (O.length+1))]):=by
 obtain⟨ho,hk,AJ,s1,s2,s3,s4,s5⟩:=h.others;have hN:=h.len;have uW:(eY m.frames).length=m.frames.length:=by simp[eY]
 obtain⟨O2,tt⟩:∃O2,O2=(O.set m.sid .gone).set 2 (.cells (aD u m')):=⟨_,rfl⟩
 have CM:O2.length=O.length:=by rw[tt];simp
 have Vt:ml (eY m.frames++rest) m.frames.length (O.length+1)=eY m'.frames++[]:=by
  rw[eN];unfold ml;rw[List.take_append_of_le_length (by omega),List.take_of_length_le (by omega)];simp[eY,Mach.enter,hN]
 rw[Vt,<-tt];have e1:cv u m' []=(1,.cells [.aB 1 [] .ex,aI 0,aI 0])::(2,.cells (aD u m'))::(3,.spare m.out.length)::(O.length+2,.cells (eY m'.frames++[]))::(O.length+1,.cells [aI fn,aI 0,aI 0,aI to,.mm O.length])::(O.length,.map (.int .i64) ((gL [] (bQ (dc u fn) 0).params args).map gU))::(mz m.frames++gg m.heap):=by
  rw[eN];simp[cv,Mach.enter,mz,hN,aX]
 have hold:∀k o,O[k]?=some o->k≠m.sid->k≠2->∀X,(O2++X)[k]?=some o:=fun k o hk h1 h2 X=>by
  refine dK ?_;rw[tt];exact bN (bN hk (Ne.symm h1)) (Ne.symm h2)
 refine⟨by rw[eN];simp[CM,Mach.enter,hN],?_,?_,?_⟩
 ·have hlen:(O2++[aq.map (.int .i64) ((gL [] (bQ (dc u fn) 0).params args).map gU),.cells [aI fn,aI 0,aI 0,aI to,.mm O.length],.cells (eY m'.frames++[])]).length=O.length+3:=by simp[CM]
  rw[hlen];intro o gW;rcases List.mem_append.1 gW with q|q
  ·rw[tt]at q;refine bx (n:=O.length+3) (ds:=aD u m') (bT (k:=m.sid) (x:=.gone) (fun o ho=>aq.cR (by omega) (h.upto o ho)) trivial) (bN h.gI s2) (fun q=>?_) o q;simp only[aD,av,aa.upto,ay,Func.aj,true_and,and_true,eN,Mach.enter]at q ⊢;omega
  simp only[List.mem_cons,List.mem_nil_iff,or_false]at q;rcases q with rfl|rfl|rfl
  ·refine Ak fun x hx=>?_;rcases kL hx with q|q
   ·simp at q
   exact(hu _ q).mono (by omega)
  ·simp[aq.upto,av,aa.upto]
  simp only[aq.upto,List.append_nil,a6];intro x hx;simp only[eY,List.mem_map,List.mem_reverse]at hx;obtain⟨f,hf,rfl⟩:=hx;rw[eN]at hf;simp only[Mach.enter,List.mem_cons]at hf;rcases hf with rfl|hf
  ·simp[aa.upto,hN]
  have:=ag (h.frame hf).1;simp only[aa.upto];omega
 ·rw[e1];intro p hp;simp only[List.mem_cons]at hp;rcases hp with rfl|rfl|rfl|rfl|rfl|rfl|hp
  ·exact hold 1 _ (h.holds (1,_) (by simp[cv])) (fun e=>s1 e.symm) (by omega) _
  ·refine dK ?_;rw[tt];exact tX (bN h.gI s2)
  ·exact hold 3 _ h.outs (fun e=>s3 e.symm) (by omega) _
  ·show(O2++_)[O.length+2]?=_;rw[<-CM,ln];rfl
  ·show(O2++_)[O.length+1]?=_;rw[<-CM,ln];rfl
  ·show(O2++_)[O.length]?=_;rw[<-CM,DQ];rfl
  have:=hk p.1 (ij hp);exact hold p.1 _ (ho p hp) this.2.2.2.1 this.2.1 _
 rw[e1];simp only[jC,List.nodup_cons,List.mem_cons,not_or];refine⟨⟨by omega,by omega,by omega,by omega,by omega,fun q=>(hk 1 q).1 rfl⟩,⟨by omega,by omega,by omega,by omega,fun q=>(hk 2 q).2.1 rfl⟩,⟨by omega,by omega,by omega,fun q=>(hk 3 q).2.2.1 rfl⟩,⟨by omega,by omega,fun q=>?_⟩,⟨by omega,fun q=>?_⟩,fun q=>?_,AJ⟩
 ·have:=(hk _ q).2.2.2.2;omega
 ·have:=(hk _ q).2.2.2.2;omega
 have:=(hk _ q).2.2.2.2;omega
theorem rh:∀(l:List BP) (a:BP) (x:List SV),a∈l->(eI (gg l)).Nodup->∃X Y,l=X++a::Y∧Mach.kk l (some a.lI) x=X++⟨a.lI,a.nJ,x⟩::Y
 | [],_,_,h,_=>by simp at h
 | b::r,a,x,h,hn=>by
  unfold Mach.kk;rcases List.mem_cons.1 h with rfl|h
  ·exact⟨[],r,rfl,by simp⟩
  have da:some a.lI≠some b.lI:=fun e=>by
   simp only[Option.some.injEq]at e;simp only[gg,jC,List.nodup_cons,List.mem_cons,not_or]at hn;exact hn.1.2 (by
    rw[<-e];exact ij (ya h).1)
  rw[if_neg da];simp only[gg,jC,List.nodup_cons]at hn;obtain⟨X,Y,h1,h2⟩:=rh r a x h hn.2.2;exact⟨b::X,Y,by simp[h1],by simp[h2]⟩
theorem LO(h:Tl u m rest O){a:BP}(ha:a∈m.heap)(l:List SV)(hl:l.length=a.l.length)(hu:∀v∈l,SV.bj O.length v)(m':Mach)(eN:m' = { m with heap:=Mach.kk m.heap (some a.lI) l }):Tl u m' rest (O.set a.nJ (.cells (aw (l.map SV.enc)))):=by
 obtain⟨ho,hk,AJ,s1,s2,s3,s4,s5⟩:=h.others;obtain⟨X,Y,e1,e2⟩:=rh m.heap a l ha (by
  rw[eE,List.nodup_append]at AJ;exact AJ.2.1)
 have Tf:aD u m'=aD u m:=by rw[eN];rfl
 have e0:cv u m rest=((1,.cells [.aB 1 [] .ex,aI 0,aI 0])::(2,.cells (aD u m))::(3,.spare m.out.length)::(m.sid,.cells (eY m.frames++rest))::(mz m.frames++(gg X++[(a.lI,.cells [.ms a.nJ 0 a.l.length a.l.length])])))++(a.nJ,.cells (aw (a.l.map SV.enc)))::gg Y:=by
  unfold cv;rw[e1,px];simp[gg]
 have e3:cv u m' rest=((1,.cells [.aB 1 [] .ex,aI 0,aI 0])::(2,.cells (aD u m))::(3,.spare m.out.length)::(m.sid,.cells (eY m.frames++rest))::(mz m.frames++(gg X++[(a.lI,.cells [.ms a.nJ 0 a.l.length a.l.length])])))++(a.nJ,.cells (aw (l.map SV.enc)))::gg Y:=by
  unfold cv;rw[Tf,eN];simp only[e2,px];simp[gg,hl]
 have hh:=h.holds;have hn:=h.nodup;rw[e0]at hh hn;refine⟨by rw[eN];simp[h.len],?_,?_,?_⟩
 ·rw[List.length_set];exact bT h.upto (SV.jy hu)
 ·rw[e3];exact ib hh hn
 rw[e3,<-jD _ _ _ (.cells (aw (a.l.map SV.enc)))];exact hn
theorem KA(h:Tl u m rest O)(l:List SV)(m':Mach)(J:List aq)(hJ:J.length=7)(Xy:∀o∈J,o.upto (O.length+9))(hu:∀v∈l,SV.bj O.length v)(h1:m'.sid=m.sid)(h2:m'.frames=m.frames)(h3:m'.heap=m.heap++[⟨m.next+8,m.next+7,l⟩])(h4:m'.out=m.out)(h5:m'.next=m.next+9) :
  Tl u m' rest (O.set 2 (.cells (aD u m'))++(J++[.cells (aw (l.map SV.enc)),.cells [.ms (O.length+7) 0 l.length l.length]])):=by
 obtain⟨ho,hk,AJ,s1,s2,s3,s4,s5⟩:=h.others;have hN:=h.len;obtain⟨O2,tt⟩:∃O2,O2=O.set 2 (.cells (aD u m')):=⟨_,rfl⟩
 have CM:O2.length=O.length:=by rw[tt];simp
 rw[<-tt];have e1:cv u m' rest=(1,.cells [.aB 1 [] .ex,aI 0,aI 0])::(2,.cells (aD u m'))::(3,.spare m.out.length)::(m.sid,.cells (eY m.frames++rest))::((mz m.frames++gg m.heap)++[(O.length+8,.cells [.ms (O.length+7) 0 l.length l.length]),(O.length+7,.cells (aw (l.map SV.enc)))]):=by
  simp[cv,h1,h2,h3,h4,px,gg,hN]
 have hold:∀k o,O[k]?=some o->k≠2->∀X,(O2++X)[k]?=some o:=fun k o hk h2 X=>by
  refine dK ?_;rw[tt];exact bN hk (Ne.symm h2)
 refine⟨by simp[CM,h5,hN,hJ],?_,?_,?_⟩
 ·have hlen:(O2++(J++[aq.cells (aw (l.map SV.enc)),.cells [.ms (O.length+7) 0 l.length l.length]])).length=O.length+9:=by simp[CM,hJ]
  rw[hlen];intro o gW;rcases List.mem_append.1 gW with q|q
  ·rw[tt]at q;exact bx (fun o ho=>aq.cR (by omega) (h.upto o ho)) h.gI (fun q=>cc q h1) o q
  rcases List.mem_append.1 q with q|q
  ·exact Xy o q
  simp only[List.mem_cons,List.mem_nil_iff,or_false]at q;rcases q with rfl|rfl
  ·exact SV.jy fun v hv=>(hu v hv).mono (by omega)
  simp[aq.upto,av,aa.upto]
 ·rw[e1];intro p hp;simp only[List.mem_cons,List.mem_append,List.mem_nil_iff,or_false]at hp;have Wl:∀k,(J++[aq.cells (aw (l.map SV.enc)),.cells [.ms (O.length+7) 0 l.length l.length]])[7+k]?=[aq.cells (aw (l.map SV.enc)),.cells [.ms (O.length+7) 0 l.length l.length]][k]?:=fun k=>by
   rw[<-hJ];exact ln
  rcases hp with rfl|rfl|rfl|rfl|hp|rfl|rfl
  ·exact hold 1 _ (h.holds (1,_) (by simp[cv])) (by omega) _
  ·refine dK ?_;rw[tt];exact tX h.gI
  ·exact hold 3 _ h.outs (by omega) _
  ·exact hold m.sid _ h.stack s2 _
  ·have:=hk p.1 (ij (List.mem_append.2 hp));exact hold p.1 _ (ho p (List.mem_append.2 hp)) this.2.1 _
  ·show(O2++_)[O.length+8]?=_;have hx:O.length+8=O2.length+8:=by omega
   rw[hx,ln];exact Wl 1
  show(O2++_)[O.length+7]?=_;have hx:=ln (O:=O2) (k:=7) (X:=J++[aq.cells (aw (l.map SV.enc)),.cells [.ms (O.length+7) 0 l.length l.length]]);rw[CM]at hx;rw[hx];exact Wl 0
 rw[e1];simp only[jC,eE,List.nodup_cons,List.mem_cons,not_or,List.mem_append];have nD:∀k,(k∈eI (mz m.frames)∨k∈eI (gg m.heap))->k≠1∧k≠2∧k≠3∧k≠m.sid∧k<O.length:=fun k q=>hk k (by rw[eE];exact List.mem_append.2 q);refine⟨⟨by omega,by omega,by omega,⟨fun q=>(nD 1 (.inl q)).1 rfl,fun q=>(nD 1 (.inr q)).1 rfl⟩,by omega,by omega,by simp[eI]⟩,⟨by omega,by omega,⟨fun q=>(nD 2 (.inl q)).2.1 rfl,fun q=>(nD 2 (.inr q)).2.1 rfl⟩,by omega,by omega,by simp[eI]⟩,⟨by omega,⟨fun q=>(nD 3 (.inl q)).2.2.1 rfl,fun q=>(nD 3 (.inr q)).2.2.1 rfl⟩,by omega,by omega,by simp[eI]⟩,⟨⟨fun q=>(nD _ (.inl q)).2.2.2.1 rfl,fun q=>(nD _ (.inr q)).2.2.2.1 rfl⟩,by omega,by omega,by simp[eI]⟩,?_⟩;rw[List.nodup_append];rw[eE]at AJ;refine⟨AJ,by simp[eI],?_⟩;intro x hx y hy e;have:=(nD x (List.mem_append.1 hx)).2.2.2.2;simp only[eI,List.map_nil,List.mem_cons,List.mem_nil_iff,or_false]at hy;omega
end Tl
end Go.Proofs.YtocdpaifmnkoaaaGreatDoor
namespace Go.Proofs.YtocdpaifmnkoaaaGreatDoor
open Go.Av
theorem kO{l:List SV}{n:Nat}(h:l.length=n){k:Nat}(hk:k<n):∃x,l[k]?=some x:=⟨l[k]'(by omega),List.getElem?_eq_getElem _⟩
theorem DC{l:List SV}(h:l.length=2):∃x y,l=[x,y]:=by
 match l,h with
 | [x,y],_=>exact⟨x,y,rfl⟩
theorem BZ{O:List aq}{u:cL}{m:Mach}{rest:List aa}(ht:Tl u m rest O)(hm:cx u m){v:SV}(hv:gE u m v)(id:Option Nat)(h:id=v.arr):∀x∈Mach.jU m.heap id,SV.bj O.length x:=fun x hx=>by
 subst h;cases VL:v.arr with
 | none =>
  rw[VL]at hx;have:∀l:List BP,Mach.jU l none=[]:=fun l=>by
   induction l with
   | nil=>rfl
   | cons a r ih=>simp[Mach.jU,ih]
  rw[this]at hx;simp at hx
 | some id =>
  obtain⟨a,ha,h1,h2⟩:=oy m.heap id (SV.Wf.ref hv id VL);rw[VL,h2]at hx;exact ht.under ((hm.iF a ha).2 x hx)
theorem CB{u:cL}{m:Mach}{rest:List aa}{O:List aq}(ht:Tl u m rest O)(hm:cx u m)(lT:m.short=false){i:bI}(hi:GB u i)(Ka:i.op≠13)(Kb:i.op≠14){args:List SV}(mA:args.length=i.args.length)(ha:∀v∈args,gE u m v) :
  ∃O2,aK Tryz.prog 58 O [.mp 2 0,i.enc,.aB 4 (args.map SV.enc) .sh] (fun r O3=>r=.cN [(m.exec i args).2.1.enc,aI (m.exec i args).2.2]∧O3=O2)∧Tl u (m.exec i args).1 rest O2∧O.length<=O2.length:=by
 have aW:=ht.upto;have hl:∀v∈args,SV.bj O.length v:=fun v hv=>ht.under (ha v hv);have OV:∀v∈args,v.kind=0->cu v.n:=fun v hv hk=>SV.Wf.num (ha v hv) (.inl hk);have lA:m.left<=2 ^ 40:=by have:=hm.depth;omega
 have gz:=hi.op;have stay:∀{v:SV} {t:Int},m.exec i args=(m,v,t)->aK Tryz.prog 58 O [.mp 2 0,i.enc,.aB 4 (args.map SV.enc) .sh] (fun r O3=>r=.cN [(m.exec i args).2.1.enc,aI (m.exec i args).2.2]∧O3=O) ->
   ∃O2,aK Tryz.prog 58 O [.mp 2 0,i.enc,.aB 4 (args.map SV.enc) .sh] (fun r O3=>r=.cN [(m.exec i args).2.1.enc,aI (m.exec i args).2.2]∧O3=O2)∧Tl u (m.exec i args).1 rest O2∧O.length<=O2.length:=fun e hC =>
  ⟨O,hC,by rw[e];exact ht,Nat.le_refl _⟩
 by_cases h0:i.op=0
 ·exact stay (v:=.word i.n) (t:=0) (by simp[Mach.exec,h0]) (Hn (u:=u) aW i args hl h0)
 by_cases h1:1<=i.op∧i.op<=7
 ·have CM:=hi.c2 (.inl h1);obtain⟨x,hx⟩:=kO (mA.trans CM) (k:=0) (by omega);obtain⟨y,hy⟩:=kO (mA.trans CM) (k:=1) (by omega);have hC:=CA (u:=u) (m:=m) aW i args hl h1 x y hx hy (OV x (List.mem_of_getElem? hx)) (OV y (List.mem_of_getElem? hy));refine⟨O,hC,?_,Nat.le_refl _⟩;have e:(m.exec i args).1=m:=by
   unfold Mach.exec;rw[if_neg h0,if_pos h1];split<;>rfl
  rw[e];exact ht
 by_cases h8:i.op=8
 ·exact stay (v:=.mk 1 i.n args none) (t:=0) (by simp[Mach.exec,h8]) (Hm (u:=u) aW i args hl h8)
 by_cases h9:i.op=9
 ·exact stay (v:=.mk 2 i.n args none) (t:=0) (by simp[Mach.exec,h9]) (E3 (u:=u) aW i args hl h9)
 by_cases KW:i.op=10∨i.op=11∨i.op=12∨i.op=21
 ·have hlen:0<args.length∧(i.op=21->args.length=2):=by
   rcases KW with q|q|q|q
   ·have:=hi.c1 (by omega);omega
   ·have:=hi.c1 (by omega);omega
   ·have:=hi.c1 (by omega);omega
   have:=hi.c2 (by omega);omega
  obtain⟨x,hx⟩:=kO rfl hlen.1;obtain⟨q1,q2⟩:=ve (i:=i) ha;have hC:=A4 aW i args hl x hx (fun a b c=>kO (hlen.2 (by omega)) (by omega)) (fun e=>hi.Ux (.inl e));refine stay (v:=(c8 i args).1) (t:=(c8 i args).2) ?_ (Ho (u:=u) (m:=m) aW i args hl KW hC (ht.under q1));unfold Mach.exec;rw[if_neg h0,if_neg h1,if_neg h8,if_neg h9,if_pos KW]
 by_cases RM:i.op=22∨i.op=23∨i.op=24
 ·have h2:i.op≠22->i.op≠24->∃x y,args=[x,y]:=fun a b=>DC (mA.trans (hi.c2 (by omega)));obtain⟨q1,q2⟩:=vP (i:=i) ha (fun e=>by have:=hi.pack e;omega) h2;have hC:=BH aW i args hl (fun e=>kO (mA.trans (hi.c1 (by omega))) (by omega)) h2 (fun e=>hi.Ux (.inr e)) (fun v hv hk=>sa (ha v hv) hk);refine stay (v:=(dr i args).1) (t:=(dr i args).2) ?_ (Hp (u:=u) (m:=m) aW i args hl RM hC (ht.under q1));unfold Mach.exec;rw[if_neg h0,if_neg h1,if_neg h8,if_neg h9,if_neg KW,if_pos RM]
 by_cases uN:i.op=100
 ·obtain⟨x,hx⟩:=kO (mA.trans (hi.c1 (by omega))) (k:=0) (by omega);refine stay (v:=cJ args 0) (t:=0) (by simp[Mach.exec,uN]) (E4 (u:=u) (m:=m) aW i args hl uN x hx)
 have Fh:i.op≠10∧i.op≠11∧i.op≠12∧i.op≠21:=by omega
 have Fl:i.op≠22∧i.op≠23∧i.op≠24:=by omega
 have nj:2<O.length:=ag ht.gI;have K9:=Ar m i args h0 h1 h8 h9 Fh Fl uN;have iy:=xi hm (i:=i) ha;by_cases KY:i.op=16
 ·obtain⟨x,y,e⟩:=DC (mA.trans (hi.c2 (by omega)));subst e;have Ee:=hl x (by simp);have TM:=hl y (by simp);have he:m.exec i [x,y]=m.bU x y:=by
   rw[K9];simp[Mach.effect,KY,cJ]
  rw[he];by_cases xu:x.kind=0∧0<=x.n∧x.n<=1024∧x.n<=m.left
  ·obtain⟨g1,g2,g3,g4⟩:=xu;have nE:(m.gn x.n).short=false:=by simp[Mach.gn,show ¬m.left<x.n by omega,lT]
   have eK:m.bU x y=({ m.gn x.n with heap:=m.heap++[⟨m.next+8,m.next+7,List.replicate x.n.toNat y⟩],next:=m.next+9 },.mk 3 0 [] (some (m.next+8)),0):=by
    unfold Mach.bU;rw[if_neg (by omega),if_neg (by omega),if_neg (by simp[nE])]
   have hC:=KM aW ht.gI i x y Ee TM KY hm.left lA lT g1 g2 g3 g4;rw[eK];obtain⟨p1,p2,p3,p4,p5,p6,p7⟩:=gO m x.n;have Tf:aD u ({ m.gn x.n with heap:=m.heap++[⟨m.next+8,m.next+7,List.replicate x.n.toNat y⟩],next:=m.next+9 }:Mach)=aD u (m.gn x.n):=rfl;have nk:=ht.KA (List.replicate x.n.toNat y) ({ m.gn x.n with heap:=m.heap++[⟨m.next+8,m.next+7,List.replicate x.n.toNat y⟩],next:=m.next+9 }:Mach)
    [.gone,.cells [aI 3,aI 0,.aB 4 [] .sh,.mp (O.length+8) 0],.gone,.cells [aI 3,aI 0,.aB 4 [] .sh,.mp (O.length+8) 0],.gone,.gone,.cells [aI 3,aI 0,.aB 4 [] .ex,.mp (O.length+8) 0]] rfl (fun o ho=>by
     simp only[List.mem_cons,List.mem_nil_iff,or_false]at ho;rcases ho with rfl|rfl|rfl|rfl|rfl|rfl|rfl
     all_goals simp[aq.upto,av,aa.upto]) (fun v hv=>by
     rw[(List.mem_replicate.1 hv).2];exact TM) p6 p1 rfl p3 rfl
   rw[Tf]at nk;simp only[List.length_replicate]at nk;have U9:(SV.mk 3 0 [] (some (m.next+8))).enc=.agg [aI 3,aI 0,.aB 4 [] .sh,.mp (O.length+8) 0]:=by
    rw[SV.jz,ht.len];rfl
   refine⟨_,?_,nk,by simp⟩;simp only[U9];exact hC
  have ir:(m.bU x y).2.1=.zero∧(m.bU x y).1.sid=m.sid∧(m.bU x y).1.frames=m.frames∧(m.bU x y).1.heap=m.heap∧(m.bU x y).1.out=m.out∧(m.bU x y).1.next=m.next:=by
   obtain⟨p1,p2,p3,p4,p5,p6,p7⟩:=gO m x.n;unfold Mach.bU;split
   ·simp
   split
   ·simp
   split
   ·exact⟨rfl,p6,p1,p2,p3,p7⟩
   rename_i a1 a2 a3;exfalso;refine xu ⟨by omega,by omega,by omega,?_⟩;by_cases q:m.left<x.n
   ·exact absurd (show(m.gn x.n).short=true by simp[Mach.gn,q]) a3
   omega
  obtain⟨b0,b1,b2,b3,b4,b5⟩:=ir;have hC:=Ai aW ht.gI i x y Ee TM KY hm.left lA lT (fun z=>by rw[b0];simp[SV.zero,SV.arr]);have nk:=ht.oO (m.bU x y).1 b1 b2 b3 (by rw[b4]) b5;exact⟨_,nN aW i [x,y] hl h0 h1 h8 h9 Fh Fl uN nj _ _ (by rw[b0];exact qf _) hC (by simp) nk.upto,nk,by simp⟩
 rw[K9];by_cases Oi:i.op=15
 ·obtain⟨x,hx⟩:=kO (mA.trans (hi.c1 (by omega))) (k:=0) (by omega);have hC:=yr aW ht.gI ht.outs i args hl Oi x hx hm.out;have ir:(m.effect i args).1.sid=m.sid∧(m.effect i args).1.frames=m.frames∧(m.effect i args).1.heap=m.heap∧(m.effect i args).1.next=m.next:=by
   unfold Mach.effect;rw[if_pos Oi];split
   ·simp
   split<;>simp
  obtain⟨b1,b2,b3,b4⟩:=ir;have nk:=ht.QA (m.effect i args).1 b1 b2 b3 b4;have hv:SV.bj O.length (m.effect i args).2.1:=ht.under (iy.val.of_heap (by rw[b3]));exact⟨_,nN aW i args hl h0 h1 h8 h9 Fh Fl uN nj _ _ hv hC (by simp) nk.upto,nk,by simp⟩
 by_cases Oj:i.op=18
 ·obtain⟨x,y,e⟩:=DC (mA.trans (hi.c2 (by omega)));subst e;have hC:=yq (u:=u) (m:=m) aW i x y (hl x (by simp)) (hl y (by simp)) nj Oj;have ir:(m.effect i [x,y]).1=m:=by
   unfold Mach.effect;rw[if_neg (by omega),if_neg (by omega),if_pos Oj];split
   ·rfl
   split<;>rfl
  have hv:SV.bj O.length (m.effect i [x,y]).2.1:=ht.under (iy.val.of_heap (by rw[ir]));exact⟨O,nN aW i [x,y] hl h0 h1 h8 h9 Fh Fl uN nj _ _ hv hC rfl aW,by rw[ir];exact ht,Nat.le_refl _⟩
 have hlen:0<args.length∧(i.op≠17->2<=args.length)∧(i.op≠17->i.op≠19->3<=args.length):=by
  rcases(show i.op=17∨i.op=19∨i.op=20 by omega)with q|q|q
  ·have:=hi.c1 (by omega);omega
  ·have:=hi.c2 (by omega);omega
  have:=hi.c3 (by omega);omega
 obtain⟨x,hx⟩:=kO rfl hlen.1;have R6:=List.mem_of_getElem? hx;obtain⟨O',hC,dD⟩:=Ct (m:=m) aW i args hl x hx Oi KY Oj (fun a=>kO rfl (hlen.2.1 a)) (fun a b=>kO rfl (hlen.2.2 a b)) (BZ ht hm (ha x R6) _ rfl) (fun hk=>by
  obtain⟨a,Gp,e1,e2⟩:=GI hm (ha x R6) hk;obtain⟨r1,r2⟩:=ht.arr Gp;refine⟨a.lI,a.nJ,e1,?_,?_⟩
  ·rw[e2];exact r1
  rw[e2];exact r2)
 rcases dD with⟨e1,e2⟩|⟨lI,nJ,k,z,l,e1,e2,e3,e4,e5,e6,e7,e8⟩
 ·have hv:SV.bj O.length (m.effect i args).2.1:=ht.under (iy.val.of_heap (by rw[e2]));subst e1;exact⟨O',nN aW i args hl h0 h1 h8 h9 Fh Fl uN nj _ _ hv hC rfl aW,by rw[e2];exact ht,Nat.le_refl _⟩
 obtain⟨a,Gp,f1,f2⟩:=oy m.heap lI (SV.Wf.ref (ha x R6) lI e1);have Un:l=a.l:=by rw[e5,e1,f2]
 obtain⟨r1,r2⟩:=ht.arr Gp;have hb:nJ=a.nJ:=by
  rw[f1,e2]at r1;simp only[Option.some.injEq,aq.cells.injEq,List.cons.injEq,aa.ms.injEq]at r1;exact r1.1.1
 have nk:=ht.LO Gp (l.set k z) (by rw[List.length_set,Un]) (fun v hv=>by
  rcases List.mem_or_eq_of_mem_set hv with q|q
  ·rw[Un]at q;exact ht.under ((hm.iF a Gp).2 v q)
  rw[q];exact e6) (m.effect i args).1 (by rw[e8,e1,f1])
 rw[<-hb,<-e7]at nk;have WK:O.length=O'.length:=by rw[e7];simp
 have hv:SV.bj O.length (m.effect i args).2.1:=by
  have:=nk.under iy.val;rw[<-WK]at this;exact this
 exact⟨O',nN aW i args hl h0 h1 h8 h9 Fh Fl uN nj _ _ hv hC WK nk.upto,nk,by omega⟩
theorem Tl.of_eq{u:cL}{m m':Mach}{rest:List aa}{O O':List aq}(h:Tl u m rest O)(e:m'=m)(e':O'=O):Tl u m' rest O':=by
 subst e;subst e';exact h
theorem j7{f:Fr}{r:List Fr}{rest:List aa}:(eY (f::r)++rest)[r.length]?=some (.mp f.b9 0):=by
 have h:eY (f::r)=r.reverse.map (fun f=>aa.mp f.b9 0)++[.mp f.b9 0]:=by simp[eY]
 rw[h,List.append_assoc];have hl:(r.reverse.map (fun f=>aa.mp f.b9 0)).length=r.length:=by simp
 rw[List.getElem?_append_right (by omega),hl,Nat.sub_self];rfl
theorem F9{f g:Fr}{r:List Fr}{rest:List aa}:(eY (f::g::r)++rest)[r.length]?=some (.mp g.b9 0):=by
 have h:eY (f::g::r)++rest=eY (g::r)++(.mp f.b9 0::rest):=by simp[eY]
 rw[h];exact j7
theorem Tl.apart{u:cL}{m:Mach}{rest:List aa}{O:List aq}(ht:Tl u m rest O){f:Fr}{r:List Fr}(ez:m.frames=f::r):f.b9≠2∧f.dJ≠2∧f.b9≠f.dJ:=by
 obtain⟨_,hk,AJ,_⟩:=ht.others;rw[ez]at hk AJ;refine⟨(hk f.b9 ?_).2.1,(hk f.dJ ?_).2.1,?_⟩
 ·rw[eE];exact List.mem_append.2 (.inl (ij (Tl.oG (f:=f) (by simp)).1))
 ·rw[eE];exact List.mem_append.2 (.inl (ij (Tl.oG (f:=f) (by simp)).2))
 simp only[mz,List.cons_append,jC,List.nodup_cons,List.mem_cons,not_or]at AJ;exact AJ.1.1
theorem Tl.Pg{u:cL}{m:Mach}{rest:List aa}{O:List aq}(ht:Tl u m rest O){g:Fr}(hg:g∈m.frames):g.b9≠2∧g.dJ≠2:=by
 obtain⟨_,hk,AJ,_⟩:=ht.others;refine⟨(hk g.b9 ?_).2.1,(hk g.dJ ?_).2.1⟩
 ·rw[eE];exact List.mem_append.2 (.inl (ij (Tl.oG hg).1))
 rw[eE];exact List.mem_append.2 (.inl (ij (Tl.oG hg).2))
theorem wZ(m:Mach)(f g:Fr):(m.bX f).bX g=m.bX g:=rfl
theorem qI{u:cL}{m:Mach}{rest:List aa}{O:List aq}(ht:Tl u m rest O)(hm:cx u m){f:Fr}{r:List Fr}(ez:m.frames=f::r){e:Edge}(he:xU (dc u f.fn) e) :
  ∃O',aK Tryz.prog 98 O [.mp 2 0,.mp f.b9 0,e.enc] (fun r O1=>r=.cN []∧O1=O')∧Tl u (m.follow u f e) rest O'∧O.length=O'.length:=by
 have eR:=hm.frames f (by rw[ez];simp);obtain⟨t1,t2⟩:=ht.frame (f:=f) (by rw[ez];simp);obtain⟨n1,n2,n3⟩:=ht.apart ez;have hu:∀e∈f.vals,SV.bj O.length e.2:=fun e he=>ht.under (eR.vals e he);obtain⟨f',ga⟩:∃f',f' = { f with blk:=e.block,pos:=0,vals:=gL f.vals (bQ (dc u f.fn) e.block).params (gH f.vals e.args) }:=⟨_,rfl⟩
 have hC:=Az ht.upto ht.gI f t1 t2 hu n1.symm n2.symm n3 eR.fn e he f' ga;have h1:=ht.bX (f':={ f' with vals:=f.vals }) ez (by rw[ga]) (by rw[ga]) rfl;have HG:aX { f' with vals:=f.vals }=aX f':=rfl;rw[HG]at h1;have h2:=h1.y8 (f:={ f' with vals:=f.vals }) (f':=f') (r:=r) (by simp[Mach.bX,ez]) rfl (by
  rw[List.length_set,ga];intro x hx;rcases kL hx with q|q
  ·exact hu x q
  exact om hu e.args _ q)
 rw[wZ]at h2;have wL:f'.dJ=f.dJ:=by rw[ga]
 have eK:m.follow u f e=m.bX f':=by rw[ga];rfl
 rw[eK];refine⟨_,hC,?_,by simp⟩;exact h2.of_eq rfl (by rw[<-wL])
theorem yz{u:cL}{m:Mach}{rest:List aa}{O:List aq}(ht:Tl u m rest O)(hm:cx u m){f:Fr}{r:List Fr}(ez:m.frames=f::r){t:Term}(Gt:xY (dc u f.fn) t) :
  ∃O' Bf,aK Tryz.prog 55 O [.mp 2 0,.mp f.b9 0,t.enc] (fun r O1=>r=.cN []∧O1=O')∧Tl u (m.finish u f t) Bf O'∧O.length=O'.length:=by
 have eR:=hm.frames f (by rw[ez];simp);obtain⟨t1,t2⟩:=ht.frame (f:=f) (by rw[ez];simp);obtain⟨n1,n2,n3⟩:=ht.apart ez;obtain⟨_,_,_,s1,s2,s3,s4,s5⟩:=ht.others;have hu:∀e∈f.vals,SV.bj O.length e.2:=fun e he=>ht.under (eR.vals e he);have hk:=Gt.kind;unfold Mach.finish;by_cases h4:t.kind=4
 ·rw[if_pos h4];exact⟨_,rest,Hk ht.upto ht.gI f t1 t2 hu n3 t h4,ht.oO (m.stop t.n 0) rfl rfl rfl rfl rfl,by simp⟩
 rw[if_neg h4];by_cases h1:t.kind=1
 ·rw[if_pos h1];have hl:=Gt.jump h1;have he:t.to[0]?=some (t.to[0]'(by omega)):=List.getElem?_eq_getElem _;obtain⟨O',q1,q2,q3⟩:=qI ht hm ez (Gt.ni _ (List.mem_of_getElem? he));refine⟨O',rest,Hi ht.upto ht.gI f t1 t2 hu n3 t h1 _ he q1 q3 q2.upto,?_,q3⟩;rw[he];exact q2
 rw[if_neg h1];by_cases h0:t.kind=0
 ·rw[if_pos h0];have hv:=yA eR.vals t.arg;have pR:=ht.under hv;cases hr:r with
  | nil =>
   subst hr;have hC:=CX ht.upto ht.gI f ez (ag t1) _ pR;have nk:=ht.last ez (m.leave f (jA f.vals t.arg)) (by simp[Mach.leave,ez,Mach.stop]) (by simp[Mach.leave,ez,Mach.stop]) (by simp[Mach.leave,ez,Mach.stop]) (by simp[Mach.leave,ez,Mach.stop]) (by simp[Mach.leave,ez,Mach.stop]);exact⟨_,_,DZ ht.upto ht.gI f t1 t2 hu n3 t h0 hC (by simp) nk.upto,nk,by simp⟩
  | cons g r' =>
   subst hr;have hg:g∈m.frames:=by rw[ez];simp
   obtain⟨g1,g2⟩:=ht.frame hg;obtain⟨k1,k2⟩:=ht.Pg hg;have Uk:∀e∈g.vals,SV.bj O.length e.2:=fun e he=>ht.under ((hm.frames g hg).vals e he);have nu:r'.length<=2 ^ 40:=by
    have h1:=hm.depth;have h2:=hm.left;rw[ez]at h1;simp only[List.length_cons]at h1;omega
   have dD:=ht.stack;rw[ez]at dD;have hC:=CY ht.upto ht.gI f g r' ez t1 g1 g2 Uk dD F9 s2 nu n1 k1 k2 _ pR;have eK:m.leave f (jA f.vals t.arg) = { m with frames:={ g with vals:=fR g.vals f.to (jA f.vals t.arg) }::r' }:=by
    unfold Mach.leave;rw[ez];rfl
   have nk:=ht.pop (g':={ g with vals:=fR g.vals f.to (jA f.vals t.arg) }) ez rfl (fun x hx=>by
    rcases jF hx with q|q
    ·exact Uk x q
    rw[q];exact pR) _ eK
   exact⟨_,_,DZ ht.upto ht.gI f t1 t2 hu n3 t h0 hC (by simp) nk.upto,nk,by simp⟩
 rw[if_neg h0];by_cases hV:(jA f.vals t.arg).kind=0
 ·rw[if_neg (by simp[hV])];obtain⟨e,he⟩:=xg Gt h0 h1 h4 (jA f.vals t.arg).n;obtain⟨O',q1,q2,q3⟩:=qI ht hm ez (Gt.ni _ (List.mem_of_getElem? he));refine⟨O',rest,Cv ht.upto ht.gI f t1 t2 hu n3 t ⟨h0,h1,h4⟩ hV (by have:=Gt.cl;omega) e he q1 q3 q2.upto,?_,q3⟩;rw[he];exact q2
 rw[if_pos hV];exact⟨_,rest,Hl ht.upto ht.gI f t1 t2 hu n3 t ⟨h0,h1,h4⟩ hV,ht.oO (m.stop 5 0) rfl rfl rfl rfl rfl,by simp⟩
theorem Dw{u:cL}{m:Mach}{rest:List aa}{O:List aq}(hu:mC u)(ht:Tl u m rest O)(hm:cx u m)(ho:m.over=false)(hd:m.frames.length+m.left+1<=2 ^ 40) :
  ∃O' Bf,aK Tryz.prog 32 O [.mp 2 0] (fun r O1=>r=.cN []∧O1=O')∧Tl u (m.step u) Bf O'∧O.length<=O'.length:=by
 obtain⟨da,lT⟩:=hm.over ho;unfold Mach.step;cases ez:m.frames with
 | nil=>exact absurd ez da
 | cons f r =>
  have eR:=hm.frames f (by rw[ez];simp);obtain⟨t1,t2⟩:=ht.frame (f:=f) (by rw[ez];simp);obtain⟨n1,n2,n3⟩:=ht.apart ez;obtain⟨_,_,_,s1,s2,s3,s4,s5⟩:=ht.others;have Qk:∀e∈f.vals,SV.bj O.length e.2:=fun e he=>ht.under (eR.vals e he);have dD:=ht.stack;rw[ez]at dD;have nu:r.length<=2 ^ 40:=by
   have h2:=hm.left;rw[ez]at hd;simp only[List.length_cons]at hd;omega
  have hF:=lz eR.fn.1 eR.fn.2;have hB:=fg eR.blk.1 eR.blk.2;have PD:=hu.blocks _ (ma eR.fn.1 eR.fn.2) _ (iW eR.blk.1 eR.blk.2);simp only;cases hi:(bQ (dc u f.fn) f.blk).ins[f.pos]? with
  | none =>
   have pQ:f.pos=(bQ (dc u f.fn) f.blk).ins.length:=by
    have:=List.getElem?_eq_none_iff.1 hi;have:=eR.pos;omega
   obtain⟨O',Bf,q1,q2,q3⟩:=yz ht hm ez PD.term;exact⟨O',Bf,step_end ht.upto ht.gI f r ez t1 n1 dD j7 nu _ hF eR.fn.1 _ hB eR.blk.1 pQ q1 (by omega) q2.upto,q2,by omega⟩
  | some i =>
   simp only;have CL:=PD.ins i (List.mem_of_getElem? hi);have bd:=ag hi;have ru:=PD.len;obtain⟨f',ga⟩:∃f',f' = { f with pos:=f.pos+1 }:=⟨_,rfl⟩
   rw[<-ga];have xA:f'.vals=f.vals:=by rw[ga]
   have jY:f'.b9=f.b9:=by rw[ga]
   have wL:f'.dJ=f.dJ:=by rw[ga]
   obtain⟨O1,eh⟩:∃O1,O1=O.set f.b9 (.cells (aX f')):=⟨_,rfl⟩
   have h1:=ht.bX (f':=f') ez jY wL xA;rw[<-eh]at h1;have eF:O.length=O1.length:=by rw[eh];simp
   have nC:nF u m f':=by
    rw[ga];exact⟨eR.fn,eR.blk,bd,eR.vals⟩
   have sy:cx u (m.bX f'):=hm.bX da nC;have S4:(m.bX f').frames=f'::r:=by simp[Mach.bX,ez]
   have Tf:aD u (m.bX f')=aD u m:=by simp[aD,Mach.bX,ez]
   have tc:O1[2]?=some (.cells (aD u m)):=by rw[<-Tf];exact h1.gI
   obtain⟨args,eZ⟩:∃args,args=gH f.vals i.args:=⟨_,rfl⟩
   rw[<-eZ];have mA:args.length=i.args.length:=by rw[eZ];exact r7 _ _
   have Ue:∀v∈args,gE u (m.bX f') v:=by
    rw[eZ];exact fun v hv=>(rn eR.vals i.args v hv).of_heap (by rfl)
   have Py:∀v∈args,SV.bj O1.length v:=fun v hv=>h1.under (Ue v hv);have Qh:=h1.stack;have U7:(m.bX f').frames.length<=2 ^ 41:=by
    rw[S4];simp only[List.length_cons];omega
   have OL:∀fn:Int,0<=fn∧fn<u.fns.length->(bQ (dc u fn) 0).params.length=args.length ->
     ∃O',aK Tryz.prog 30 O1 [.mp 2 0,aI fn,.aB 4 (args.map SV.enc) .sh,aI i.to] (fun r O2=>r=.cN []∧O2=O')∧Tl u ((m.bX f').enter u fn args i.to) [] O'∧O.length<=O'.length:=fun fn pP hp=>by
    have hC:=Cx h1.upto h1.gI Qh (by simp[eY]) s2 h1.len U7 fn pP (hu.ne _ (ma pP.1 pP.2)).1 args Py hp i.to;have nk:=h1.push fn i.to args _ rfl Py;exact⟨_,hC,nk,by simp;omega⟩
   unfold Mach.act;by_cases Ka:i.op=13
   ·rw[if_pos Ka];obtain⟨c1,c2,c3⟩:=CL.call Ka;obtain⟨O',q1,q2,q3⟩:=OL i.n ⟨c1,c2⟩ (by rw[mA];exact c3);exact⟨O',[],F' ht.upto ht.gI f r ez t1 n1 dD j7 nu _ hF eR.fn.1 _ hB eR.blk.1 t2 n3 Qk i hi (by omega) CL.len f' ga args eZ O1 eh Ka q1 q3 q2.upto,q2,q3⟩
   rw[if_neg Ka];by_cases Kb:i.op=14
   ·rw[if_pos Kb];obtain⟨c,hc⟩:=kO (mA.trans rfl) (k:=0) (by have:=CL.app Kb;omega);have Sw:=gf hc;rw[Sw];have Kd:=Ue c (List.mem_of_getElem? hc);have nk:=h1.oO ((m.bX f').stop 5 0) rfl rfl rfl rfl rfl;have jZ:aD u ((m.bX f').stop 5 0)=aD u (m.stop 5 0):=by simp[aD,Mach.bX,Mach.stop,ez]
    by_cases hk:c.kind=2
    ·obtain⟨k1,k2⟩:=SV.Wf.fn Kd hk;have hG:=lz k1 k2;have hD:(dc u c.n).blocks[0]?=some (bQ (dc u c.n) 0):=by
      obtain⟨z1,z2⟩:=Sl hu k1 k2;exact fg z1 z2
     by_cases hp:(bQ (dc u c.n) 0).params.length=args.length
     ·rw[if_pos ⟨hk,hp⟩];obtain⟨O',q1,q2,q3⟩:=OL c.n ⟨k1,k2⟩ hp;exact⟨O',[],IN ht.upto ht.gI f r ez t1 n1 dD j7 nu _ hF eR.fn.1 _ hB eR.blk.1 t2 n3 Qk i hi (by omega) CL.len f' ga args eZ O1 eh Kb c hc hk k1 _ hG _ hD hp Py q1 q3 q2.upto tc,q2,q3⟩
     rw[if_neg (fun q=>hp q.2)];refine⟨_,rest,zg ht.upto ht.gI f r ez t1 n1 dD j7 nu _ hF eR.fn.1 _ hB eR.blk.1 t2 n3 Qk i hi (by omega) CL.len f' ga args eZ O1 eh Kb c hc hk k1 _ hG _ hD hp Py tc,?_,by simp;omega⟩;rw[<-jZ];exact nk
    rw[if_neg (fun q=>hk q.1)];refine⟨_,rest,w7 ht.upto ht.gI f r ez t1 n1 dD j7 nu _ hF eR.fn.1 _ hB eR.blk.1 t2 n3 Qk i hi (by omega) CL.len f' ga args eZ O1 eh Kb c hc hk Py tc,?_,by simp;omega⟩;rw[<-jZ];exact nk
   rw[if_neg Kb];have VF:(m.bX f').short=false:=lT;obtain⟨O2,q1,q2,q3⟩:=CB h1 sy VF CL Ka Kb mA Ue;have iy:=yx sy CL mA Ue;generalize (m.bX f').exec i args=R at *;have PV:R.1.frames=f'::r:=by rw[iy.frames,S4]
   obtain⟨w1,w2⟩:=q2.frame (f:=f') (by rw[PV];simp);rw[jY]at w1;rw[wL,xA]at w2;have pR:=q2.under iy.val;have wQ:∀e∈f.vals,SV.bj O2.length e.2:=fun e he=>(Qk e he).mono (by omega);have W0:∀e∈fR f.vals i.to R.2.1,SV.bj O2.length e.2:=fun x hx=>by
    rcases jF hx with q|q
    ·exact wQ x q
    rw[q];exact pR
   unfold Mach.settle;rw[xA];by_cases R3:R.2.2=0
   ·rw[if_neg (by simp[R3])];have hC:=Ga ht.upto ht.gI f r ez t1 n1 dD j7 nu _ hF eR.fn.1 _ hB eR.blk.1 t2 n3 Qk i hi (by omega) CL.len f' ga args eZ O1 eh ⟨Ka,Kb⟩ R.2.1 R.2.2 q1 (by omega) q2.upto pR R.1 q2.gI w1 w2 wQ n2 R3;have nk:=q2.y8 (f':={ f' with vals:=fR f.vals i.to R.2.1 }) PV rfl W0;exact⟨_,rest,hC,nk.of_eq rfl (by rw[wL]),by simp;omega⟩
   rw[if_pos R3];have hC:=Gc ht.upto ht.gI f r ez t1 n1 dD j7 nu _ hF eR.fn.1 _ hB eR.blk.1 t2 n3 Qk i hi (by omega) CL.len f' ga args eZ O1 eh ⟨Ka,Kb⟩ R.2.1 R.2.2 q1 (by omega) q2.upto pR R.1 q2.gI w1 w2 wQ n2 R3;have q4:=q2.oO (R.1.stop R.2.2 0) rfl rfl rfl rfl rfl;have nk:=q4.y8 (f':={ f' with vals:=fR f.vals i.to R.2.1 }) PV rfl (by
    rw[List.length_set];exact W0)
   exact⟨_,rest,hC,nk.of_eq rfl (by rw[wL]),by simp;omega⟩
def RI.enc(a:RI):aa:=.cN [.agg [.aB 1 (a.out.map aI) .sh,aI a.fin,aI a.val],aI a.n,aI a.e]
theorem Cs{f:FuncId}{O:List aq}{a b d:aa}{sz:Nat}{R:aa->List aq->Prop}(h:aK Tryz.prog f O [a,b,.aB sz [] .sh,d] R):aK Tryz.prog f O [a,b,.v (.slice none 0 0),d] R :=
 ⟨h.1,fun g vs hg ho ha=>h.2 g vs hg ho ⟨ha.1,fun i c u hc hu=>by
  match i,hc,hu with
  | 0,hc,hu=>exact ha.2 0 c u hc hu
  | 1,hc,hu=>exact ha.2 1 c u hc hu
  | 2,hc,hu =>
   simp only[List.getElem?_cons_succ,List.getElem?_cons_zero,Option.some.injEq]at hc;subst hc;have:=(ha.2 2 _ u rfl hu).b6.1;subst this;exact .nil (fun id e=>by cases e) (by simp)
  | 3,hc,hu=>exact ha.2 3 c u hc hu
  | i+4,hc,_=>simp at hc⟩⟩
theorem IM{u:cL}(hu:mC u){fuel:Int}(h0:0<=fuel)(h1:fuel<=1000000):cx u ((Mach.start fuel).enter u u.main [] 0):=by
 have hs:cx u { Mach.start fuel with over:=true } :=
  ⟨by simp[Mach.start],by simp[Mach.start],h0,by simp[Mach.start];omega,by simp[Mach.start],by simp[Mach.start],by simp[Mach.start],by simp[Mach.start,cu],by simp[Mach.start],by simp⟩
 have h:=hs.enter hu (by simp) (by simp[Mach.start];omega) hu.main (args:=[]) (by simp) 0;exact⟨fun f hf=>(h.frames f hf).of_heap (by rfl),fun a ha=>by simp[Mach.start,Mach.enter]at ha,h.left,h.depth,h.out,h.words,h.fin,h.val,h.done,fun _=>⟨by simp[Mach.enter],rfl⟩⟩
theorem Bz{u:cL}(hu:mC u){fuel:Int}(hp:(bQ (dc u u.main) 0).params=[]):Tl u ((Mach.start fuel).enter u u.main [] 0) [] [.gone,.cells [.aB 1 [] .ex,aI 0,aI 0],.cells (aD u ((Mach.start fuel).enter u u.main [] 0)),.spare 0,.map (.int .i64) [],.cells [aI u.main,aI 0,aI 0,aI 0,.mm 4],.cells [.mp 5 0]] where
 len:=rfl
 upto:=by simp[aq.upto,av,ba,aa.upto,aD,Func.aj,Mach.enter,Mach.start]
 holds:=by
  intro p OK;simp only[cv,Mach.enter,Mach.start,mz,gg,hp,gL,List.append_nil,List.mem_cons,List.mem_nil_iff,or_false,List.mem_append]at OK;rcases OK with rfl|rfl|rfl|rfl|rfl|rfl
  all_goals rfl
 nodup:=by
  simp[eI,cv,Mach.enter,Mach.start,mz,gg]
theorem IA{u:cL}{m:Mach}(h:m.over=true)(k:Nat):Mach.run u k m=m:=by
 cases k with
 | zero=>rfl
 | succ k=>simp[Mach.run,h]
theorem yS{u:cL}(hu:mC u){fuel:Int}(SY:0<=fuel)(nC:fuel<=1000000):bw Tryz.prog 17 [u.enc,aI fuel] (vl u fuel).enc:=by
 have hp:=hu.none;have Fe:=Cs (Ao (fuel:=fuel) hu.main (hu.ne _ (ma hu.main.1 hu.main.2)).1 hp 4 .sh);have dD:=Bz hu (fuel:=fuel) hp;have VI:=IM hu SY nC;obtain⟨K,hK⟩:∃K,K=fuel.toNat+2:=⟨_,rfl⟩
 obtain⟨E,hE⟩:∃E,E=Mach.run u K ((Mach.start fuel).enter u u.main [] 0):=⟨_,rfl⟩
 have eK:vl u fuel=if E.short then⟨[],0,0,0,13⟩else⟨E.out,E.fin,E.val,fuel-E.left,0⟩:=by
  rw[hE,hK];rfl
 rw[eK];have Oz:((Mach.start fuel).enter u u.main [] 0).left=fuel:=rfl;unfold yN at Fe;generalize nj:(Mach.start fuel).enter u u.main [] 0=m0 at *;refine zf true 0 Tryz.func17 Tryz.ntmps17 ?_;dsimp only[Tmp,TypeId,slotsOf];refine az (ai ?_);refine aR 2 0 (.ip none [cn u.fns,aI u.main]) rfl (by simp[aq.aJ]) trivial rfl ?_ ?_;rotate_left;simp -dsimp only[simprocAttr,↓I,zp]
 ·refine az (ai ?_);refine lq 2 6 rfl rfl ?_;simp -dsimp only[simprocAttr,↓I,zp];refine az ?_;refine .inr (.inl ⟨_,_,Fe,.inl (ae (zj ?_))⟩);refine ai ?_;refine aL (ah (a8 (ι:={p:Mach×List aa×List aq // cx u p.1∧Tl u p.1 p.2.1 p.2.2∧p.1.left<=fuel∧∃k,p.1.left.toNat+2<=k∧Mach.run u k p.1=E}) (fun p=>⟨45,[(1,aI fuel),(4,.mp 1 0),(5,aI 0),(6,aI 0),(7,.mp 2 0)],p.1.2.2⟩) (fun p=>p.1.1.left.toNat) ⟨(m0,[],_),VI,dD,by simp only[Oz];omega,K,by simp only[Oz];omega,hE.symm⟩ ?_ ?_))
  ·refine zq rfl ?_ ?_;simp -dsimp only[simprocAttr,↓I,zp,zc];rfl
  rintro⟨⟨m,rest,O⟩,hm,ht,X5,k,hk,bL⟩;simp only at hm ht X5 hk bL;have sA:=ht.gI;unfold aD at sA;have XL:=hm.depth;have Lg:=hm.left;have wO:O[1]?=some (.cells [.aB 1 [] .ex,aI 0,aI 0]):=ht.holds (1,_) (by simp[cv]);have xy:=dF wO;have RZ:=ag ht.gI;have wM:=vk ht.upto ht.gI 1 Lg (by omega) (by omega);cases vX:m.over with
  | true =>
   rw[IA vX]at bL;subst bL;rw[vX]at sA;refine bR ?_;simp -dsimp only[simprocAttr,↓I,zp,sA];refine ai ?_;refine cP rfl ?_;refine aN ?_;simp -dsimp only[bH,ne_eq,Nat.reduceEqDiff,reduceCtorEq];cases lT:m.short with
   | true =>
    rw[lT]at sA;refine bR ?_;simp -dsimp only[simprocAttr,↓I,zp,sA];refine ai ?_;refine dS rfl ?_;refine aG ?_;simp -dsimp only[simprocAttr,↓I,zp,wO];refine ai ?_;refine ak ?_;simp -dsimp only[simprocAttr,↓I,zp,zr,Tryz.results17,xy];exact⟨by simp[av,aa.upto],rfl⟩
   | false =>
    rw[lT]at sA;refine bR ?_;simp -dsimp only[simprocAttr,↓I,zp,sA];refine ai ?_;refine cP rfl ?_;refine bZ ?_;refine aG ?_;simp -dsimp only[simprocAttr,↓I,zp,sA,wO]
    repeat(refine⟨by omega,?_⟩)
    refine⟨cm [1,2] O.length [.pure,.pure,.pure,.rd 1,.pure,.pure,.pure,.pure,.rd 1,.pure,.wr 2 [0],.pure,.pure] (by simp) (by simp;omega) rfl rfl (by kernel_rfl),aY ?_⟩;simp -dsimp only[bH,ne_eq,Nat.reduceEqDiff,reduceCtorEq];refine ak ?_;simp -dsimp only[simprocAttr,↓I,zp,zr,Tryz.results17,xy];exact⟨by simp[av,aa.upto,ay],rfl⟩
  | false =>
   obtain⟨k,rfl⟩:∃j,k=j+1:=⟨k-1,by omega⟩
   have Ea:(if(m.gn 1).short then m.gn 1 else Mach.run u k (Mach.step u (m.gn 1)))=E:=by
    rw[<-bL];simp[Mach.run,vX]
   have tB:=ht.oO (m.gn 1) (gO m 1).2.2.2.2.2.1 (gO m 1).1 (gO m 1).2.1 (by rw[(gO m 1).2.2.1]) (gO m 1).2.2.2.2.2.2;have tc:=tB.gI;have Kq:(O.set 2 (.cells (aD u (m.gn 1))))[1]?=some (.cells [.aB 1 [] .ex,aI 0,aI 0]):=tB.holds (1,_) (by simp[cv]);have Tx:=dF Kq;rw[vX]at sA;by_cases Ko:m.left<1
   ·have nE:(m.gn 1).short=true:=by simp[Mach.gn,Ko]
    rw[nE,if_pos rfl]at Ea;have Xt:E.short=true:=by
     rw[<-Ea];exact nE
    obtain⟨O1,eh⟩:∃O1,O1=O.set 2 (.cells (aD u (m.gn 1))):=⟨_,rfl⟩
    rw[<-eh]at wM tc Kq;simp only[<-eh]at Tx;unfold aD at tc;rw[nE]at tc;refine bR ?_;simp -dsimp only[simprocAttr,↓I,zp,sA];refine ai ?_;refine dS rfl ?_;refine bZ ?_;refine ah ?_;refine az ?_;refine .inr (.inl ⟨_,_,wM,.inl (ae (zj ?_))⟩);refine ai ?_;refine bR ?_;simp -dsimp only[simprocAttr,↓I,zp,tc];refine ai ?_;refine dS rfl ?_;refine aG ?_;simp -dsimp only[simprocAttr,↓I,zp,Kq];refine ai ?_;refine ak ?_;simp -dsimp only[simprocAttr,↓I,zp,zr,Tryz.results17,Tx,Xt];exact⟨by simp[av,aa.upto],rfl⟩
   have HM:m.gn 1 = { m with left:=m.left-1 }:=by simp[Mach.gn,Ko]
   have nE:(m.gn 1).short=false:=by
    rw[HM];exact(hm.over vX).2
   have P8:(m.gn 1).over=false:=by
    rw[HM];exact vX
   have sy:cx u (m.gn 1):=by
    rw[HM];exact⟨fun f hf=>(hm.frames f hf).of_heap (by rfl),fun a ha=>⟨(hm.iF a ha).1,fun v hv=>((hm.iF a ha).2 v hv).of_heap (by rfl)⟩,by simp;omega,by simp;omega,hm.out,hm.words,hm.fin,hm.val,hm.done,fun h=>hm.over h⟩
   have pN:(m.gn 1).frames.length+(m.gn 1).left+1<=2 ^ 40:=by
    rw[HM];simp;omega
   obtain⟨O2,TT,q1,q2,q3⟩:=Dw hu tB sy P8 pN;have OO:=sy.step hu P8 pN;have xz:(Mach.step u (m.gn 1)).left<=m.left-1:=by
    have:=Gb u (m.gn 1) sy hu P8;rw[HM]at this ⊢;exact this
   have Yi:=OO.left;rw[nE,if_neg (by simp)]at Ea;obtain⟨O1,eh⟩:∃O1,O1=O.set 2 (.cells (aD u (m.gn 1))):=⟨_,rfl⟩
   rw[<-eh]at wM tc q1;unfold aD at tc;rw[nE]at tc;refine bR ?_;simp -dsimp only[simprocAttr,↓I,zp,sA];refine ai ?_;refine dS rfl ?_;refine bZ ?_;refine ah ?_;refine az ?_;refine .inr (.inl ⟨_,_,wM,.inl (ae (zj ?_))⟩);refine ai ?_;refine bR ?_;simp -dsimp only[simprocAttr,↓I,zp,tc];refine ai ?_;refine cP rfl ?_;refine bZ ?_;refine dA ?_;refine .inr (.inl ⟨_,_,q1,.inl (ae (zj ?_))⟩);refine UA ?_;refine⟨⟨(Mach.step u (m.gn 1),TT,O2),OO,q2,by simp only;omega,k,by simp only;omega,Ea⟩,by simp only;omega,?_⟩;refine zq rfl ?_ ?_;simp -dsimp only[simprocAttr,↓I,zp,zc];rfl
 exact cw.mp rfl rfl
theorem ui{u:cL}:∀{l:List bI},uh u l=0->∀i∈l,kQ u i=0
 | [],_,f,h=>by simp at h
 | g::r,h,f,hf=>by
  have:=vf h;rcases List.mem_cons.1 hf with q|q
  ·subst q;exact this.1
  exact ui this.2 f q
theorem ud{u:cL}:∀{l:List Block},rC u l=0->∀b∈l,∀i∈b.ins,kQ u i=0
 | [],_,f,h=>by simp at h
 | g::r,h,f,hf=>by
  have:=vf h;rcases List.mem_cons.1 hf with q|q
  ·subst q;exact ui this.1
  exact ud this.2 f q
theorem ue{u:cL}:∀{l:List Func},pA u l=0->∀f∈l,∀b∈f.blocks,∀i∈b.ins,kQ u i=0
 | [],_,f,h=>by simp at h
 | g::r,h,f,hf=>by
  have:=vf h;rcases List.mem_cons.1 hf with q|q
  ·subst q;exact ud this.1
  exact ue this.2 f q
theorem GM{u:cL}{i:bI}(h:kQ u i=0):(i.op=13∨i.op=9->i.n<u.fns.length)∧(i.op=13->(bQ (dc u i.n) 0).params.length=i.args.length)∧(i.op=9->(bQ (dc u i.n) 0).params.length≠0):=by
 unfold kQ at h;split at h
 ·exact⟨by omega,by omega,by omega⟩
 split at h
 ·simp at h
 split at h
 ·simp at h
 exact⟨by omega,by omega,by omega⟩
structure Sh(u:cL):Prop where
 oX:u.fns.length<=256
 main:0<=u.main∧u.main<u.fns.length
 none:(bQ (dc u u.main) 0).params=[]
 fns:∀f∈u.fns,Sc f
 calls:∀f∈u.fns,∀b∈f.blocks,∀i∈b.ins,kQ u i=0
theorem G4{u:cL}(fU:u.fit)(h:lN u=0):Sh u:=by
 unfold lN at h;split at h
 ·simp at h
 split at h
 ·simp at h
 split at h
 ·simp at h
 rename_i h3;have h4:=vf h;have h5:=h4.2;split at h5
 ·simp at h5
 rename_i h6;have hw:0<=u.main∧u.main<=(u.fns.length:Int)-1:=by simpa[within]using h3
 refine⟨by omega,by omega,List.length_eq_zero_iff.1 (by omega),fun f hf=>gX (fU.2.2 f hf) (pJ h4.1 f hf),ue h5⟩
theorem N8{u:cL}(fU:u.fit)(h:lN u=0):mC u:=by
 have hw:=G4 fU h;refine⟨hw.main,hw.oX,hw.none,fun f hf=>⟨(hw.fns f hf).ne,by have:=(hw.fns f hf).oX;omega⟩,fun f hf b hb=>?_⟩;have hF:=hw.fns f hf;have hB:=hF.blk b hb;have hE:=yu hB.fin;refine⟨fun i hi=>?_,⟨hE.kind,?_,hE.jump,hE.cond,hE.switch,fun e he=>?_,by have:=hE.cases;omega⟩,by have:=hF.ins b hb;omega⟩
 ·have jt:=D0 (hB.Og i hi);have hc:=GM (hw.calls f hf b hb i hi);have WH:=((fU.2.2 f hf).2.2 b hb).2.2.2.1 i hi;have hlen:=jt.len;refine⟨.inl jt.op,by omega,⟨WH.1,WH.2.2.1⟩,fun q=>(jt.c0 q).1,jt.c2,fun q=>jt.c1 (by have:=jt.op;omega),jt.c3,fun q=>⟨?_,hlen⟩,fun q=>?_,fun q=>?_,jt.app,jt.Ux,fun _=>hlen,jt.vec⟩
  ·have:=jt.T8 q;unfold cu;omega
  ·have:=jt.call (.inl q);have:=hc.1 (.inr q);exact⟨by omega,by omega,hlen⟩
  have:=jt.call (.inr q);exact⟨by omega,hc.1 (.inl q),hc.2.1 q⟩
 ·by_cases h4:b.term.kind=4
  ·have:=hE.N6 h4;omega
  have:=hE.n h4;omega
 have SN:=hE.ni e he;have hm:=iW (f:=f) (k:=e.block) (by omega) (by omega);have:=(hF.blk _ hm).oX;exact⟨by omega,by omega,SN.2,by omega⟩
def runM(u:cL)(fuel:Int):RI :=
 if lN u≠0 then⟨[],0,0,0,lN u⟩
 else if within fuel 1 1000000=false then⟨[],0,0,0,4⟩
 else vl u fuel
theorem IB(u:cL)(fU:u.fit)(fuel:Int):bw Tryz.prog 8 [u.enc,aI fuel] (runM u fuel).enc:=by
 have CH:=Ck u fU;have hw:=dX fuel 1 1000000;obtain⟨R,hR⟩:∃R,R=runM u fuel:=⟨_,rfl⟩
 rw[<-hR];unfold runM at hR;by_cases hc:lN u=0
 ·rw[if_neg (by simp[hc])]at hR;have hu:=N8 fU hc;rw[hc]at CH;cases HZ:within fuel 1 1000000 with
  | false =>
   rw[if_pos HZ]at hR;rw[HZ]at hw;refine zf true 0 Tryz.func8 Tryz.ntmps8 ?_;dsimp only[Tmp,TypeId,slotsOf];refine az (ai ?_);refine aR 2 0 (.ip none [cn u.fns,aI u.main]) rfl (by simp[aq.aJ]) trivial rfl ?_ ?_;rotate_left;simp -dsimp only[simprocAttr,↓I,zp]
   ·refine bS ?_;refine zi CH ?_;refine ai ?_;refine az (ai ?_);refine cP rfl ?_;refine bZ ?_;refine bS ?_;refine zi hw ?_;refine ai ?_;refine dS rfl ?_;refine az (ai ?_);refine ak ?_;simp -dsimp only[simprocAttr,↓I,zp,zr,Tryz.results8];rw[hR];exact⟨by simp[av,aa.upto],rfl⟩
   exact cw.mp rfl rfl
  | true =>
   rw[if_neg (by simp[HZ])]at hR;have Yr:=within_iff.1 HZ;have Qe:=yS hu (fuel:=fuel) (by omega) Yr.2;rw[<-hR]at Qe;unfold RI.enc at Qe;rw[HZ]at hw;refine zf true 0 Tryz.func8 Tryz.ntmps8 ?_;dsimp only[Tmp,TypeId,slotsOf];refine az (ai ?_);refine aR 2 0 (.ip none [cn u.fns,aI u.main]) rfl (by simp[aq.aJ]) trivial rfl ?_ ?_;rotate_left;simp -dsimp only[simprocAttr,↓I,zp]
   ·refine bS ?_;refine zi CH ?_;refine ai ?_;refine az (ai ?_);refine cP rfl ?_;refine bZ ?_;refine bS ?_;refine zi hw ?_;refine ai ?_;refine cP rfl ?_;refine bZ ?_;refine az ?_;refine zi Qe ?_;refine ai ?_;refine ak ?_;simp -dsimp only[simprocAttr,↓I,zp,zr,Tryz.results8];exact⟨by simp[av,aa.upto,ay],rfl⟩
   exact cw.mp rfl rfl
 rw[if_pos hc]at hR;obtain⟨e,he⟩:∃e,e=lN u:=⟨_,rfl⟩
 rw[<-he]at hc CH hR;have tv:decide (e=0)=false:=decide_eq_false hc;refine zf true 0 Tryz.func8 Tryz.ntmps8 ?_;dsimp only[Tmp,TypeId,slotsOf];refine az (ai ?_);refine aR 2 0 (.ip none [cn u.fns,aI u.main]) rfl (by simp[aq.aJ]) trivial rfl ?_ ?_;rotate_left;simp -dsimp only[simprocAttr,↓I,zp]
 ·refine bS ?_;refine zi CH ?_;refine ai ?_;refine aG ?_;simp -dsimp only[simprocAttr,↓I,zp,tv];refine ai ?_;refine dS rfl ?_;refine az (ai ?_);refine ak ?_;simp -dsimp only[simprocAttr,↓I,zp,zr,Tryz.results8];rw[hR];exact⟨by simp[av,aa.upto],rfl⟩
 exact cw.mp rfl rfl
theorem wY(l m:List Int):bw Tryz.prog 20 [bp l,bp m] (.v (.bool (decide (l=m)))):=by
 by_cases hlen:l.length=m.length
 ·have nu:decide ((l.length:Int)=m.length)=true:=decide_eq_true (by omega);obtain⟨R,hR⟩:∃R,R=decide (l=m):=⟨_,rfl⟩
  rw[<-hR];refine zf true 0 Tryz.func20 Tryz.ntmps20 ?_;dsimp only[Tmp,TypeId,slotsOf];refine az (ai ?_);refine gF 0 rfl (fun Tb=>?_);simp only[List.length_map]at Tb;refine bR ?_;simp -dsimp only[simprocAttr,↓I,zp,nu];refine ai ?_;apply aF rfl<;>intro h
  ·cases h
  refine bZ ?_;refine bS (ai ?_);refine ah (a8 (ι:={k:Nat // k<=l.length∧R=decide (l.drop k=m.drop k)}) (fun k=>⟨26,[(0,bp l),(1,bp m),(4,.v (.bool false)),(12,bp l),(13,aI l.length),(14,aI k.1)],[]⟩) (fun k=>l.length-k.1) ⟨0,by omega,hR⟩ ?_ ?_)
  ·refine zq rfl ?_ ?_;simp -dsimp only[simprocAttr,↓I,zp,zc];rfl
  rintro⟨k,hk,gV⟩;refine az (ai ?_);apply fK rfl<;>intro h
  ·refine bZ ?_;have bd:k<l.length:=by simpa using h
   obtain⟨a,ha⟩:∃a,l[k]?=some a:=⟨l[k],by simp[bd]⟩
   obtain⟨b,hb⟩:∃b,m[k]?=some b:=⟨m[k]'(by omega),List.getElem?_eq_getElem _⟩
   rw[dL ha,dL hb]at gV;simp only[List.cons.injEq,Bool.decide_and]at gV;refine aL (ah ?_);refine aG ?_;simp -dsimp only[simprocAttr,↓I,zp,ha];refine ai ?_;by_cases tu:b=a
   ·have PJ:decide (b=a)=true:=decide_eq_true tu;rw[decide_eq_true tu.symm,Bool.true_and]at gV;refine aG ?_;simp -dsimp only[simprocAttr,↓I,zp,hb,PJ]
    repeat(refine⟨by omega,?_⟩)
    refine ai ?_;refine cP rfl ?_;refine k7 ?_;refine dA ?_
    repeat(refine⟨by omega,?_⟩)
    refine kv ?_;refine⟨⟨k+1,bd,gV⟩,by simp;omega,?_⟩;refine zq rfl ?_ ?_;simp -dsimp only[simprocAttr,↓I,zp,zc]
    ·exact Sub.int (by simp)
    rfl
   have PJ:decide (b=a)=false:=decide_eq_false tu;rw[decide_eq_false (fun e=>tu e.symm),Bool.false_and]at gV;refine aG ?_;simp -dsimp only[simprocAttr,↓I,zp,hb,PJ]
   repeat(refine⟨by omega,?_⟩)
   refine ai ?_;refine dS rfl ?_;refine az (ai ?_);refine ak ?_;simp -dsimp only[simprocAttr,↓I,zp,zr,Tryz.results20];rw[gV]
  refine aN ?_;simp -dsimp only[bH,ne_eq,Nat.reduceEqDiff,reduceCtorEq];have fk:k=l.length:=by simp at h;omega
  subst fk;rw[List.drop_length,hlen,List.drop_length]at gV;refine az (ai ?_);refine ak ?_;simp -dsimp only[simprocAttr,↓I,zp,zr,Tryz.results20];rw[gV];rfl
 have nu:decide ((l.length:Int)=m.length)=false:=decide_eq_false (by omega);rw[decide_eq_false (fun e=>hlen (by rw[e]))];refine zf true 0 Tryz.func20 Tryz.ntmps20 ?_;dsimp only[Tmp,TypeId,slotsOf];refine az (ai ?_);refine bR ?_;simp -dsimp only[simprocAttr,↓I,zp,nu];refine ai ?_;refine dS rfl ?_;refine az (ai ?_);refine ak ?_;simp -dsimp only[simprocAttr,↓I,zp,zr,Tryz.results20]
abbrev Pm(out:List Int)(fin val:Int):aa:=.agg [.aB 1 (out.map aI) .sh,aI fin,aI val]
theorem tj(l m:List Int)(e f v w:Int):bw Tryz.prog 10 [Pm l e v,Pm m f w] (.v (.bool ((decide (e=f)&&decide (v=w))&&decide (l=m)))):=by
 have hs:=wY l m;cases h1:decide (e=f)
 ·refine zf true 0 Tryz.func10 Tryz.ntmps10 ?_;dsimp only[Tmp,TypeId,slotsOf];refine az (ai ?_);refine aG ?_;simp -dsimp only[simprocAttr,↓I,zp,h1];refine ai ?_;refine ak ?_;simp -dsimp only[simprocAttr,↓I,zp,zr,Tryz.results10]
 cases h2:decide (v=w)
 ·refine zf true 0 Tryz.func10 Tryz.ntmps10 ?_;dsimp only[Tmp,TypeId,slotsOf];refine az (ai ?_);refine aG ?_;simp -dsimp only[simprocAttr,↓I,zp,h1,h2];refine ai ?_;refine ak ?_;simp -dsimp only[simprocAttr,↓I,zp,zr,Tryz.results10]
 refine zf true 0 Tryz.func10 Tryz.ntmps10 ?_;dsimp only[Tmp,TypeId,slotsOf];refine az (ai ?_);refine aG ?_;simp -dsimp only[simprocAttr,↓I,zp,h1,h2];refine .inl ⟨_,hs,by simp only[av,aa.upto,zt,zu,ay],ae ?_⟩;simp -dsimp only[simprocAttr,↓I,zp,h1,h2];refine ai ?_;refine ak ?_;simp -dsimp only[simprocAttr,↓I,zp,zr,Tryz.results10]
end Go.Proofs.YtocdpaifmnkoaaaGreatDoor
namespace Go.Av
theorem B4{P:Program}{kb:Nat}{c:Code}{Q:dT->St->Prop}{n:Nat}{bt:List (Nat×aa)}{O:List aq}(k m:Nat)(hk:k<O.length)
  (h:cG P kb c Q ⟨n,bt,(O++List.replicate m (aq.spare 0)).set k (.cells ((List.range m).map fun j=>.aB 1 [] (.tok (O.length+j))))⟩):cG P kb c Q ⟨n,bt,O.set k (.cells (List.replicate m (.aB 1 [] .ex)))⟩:=by
 obtain⟨conv,xr⟩:∃conv:Nat->List aa,conv=fun q=>((List.range q).map fun j=>aa.aB 1 [] (.tok (O.length+j)))++List.replicate (m-q) (.aB 1 [] .ex):=⟨_,rfl⟩
 have key:∀q,q<=m->cG P kb c Q ⟨n,bt,(O++List.replicate q (aq.spare 0)).set k (.cells (conv q))⟩->cG P kb c Q ⟨n,bt,O.set k (.cells (List.replicate m (.aB 1 [] .ex)))⟩:=fun q=>by
  induction q with
  | zero =>
   intro _ h;simpa[xr]using h
  | succ q ih =>
   intro hq h;refine ih (by omega) (lq k q (sz:=1) (cs:=conv q) (xs:=[]) ?_ ?_ ?_)
   ·rw[List.getElem?_set_self (by simp;omega)]
   ·rw[xr];simp only;rw[List.getElem?_append_right (by simp)];simp only[List.length_map,List.length_range,Nat.sub_self];rw[show m-q=(m-(q+1))+1 by omega,List.replicate_succ];rfl
   have e1:(O++List.replicate q (aq.spare 0)).set k (.cells (conv q))++[aq.spare ([]:List aa).length]=(O++List.replicate (q+1) (aq.spare 0)).set k (.cells (conv q)):=by
    rw[List.set_append_left _ _ hk,List.set_append_left _ _ hk,List.append_assoc];congr 1;rw[List.replicate_succ'];rfl
   have e2:(conv q).set q (.aB 1 [] (.tok ((O++List.replicate q (aq.spare 0)).set k (.cells (conv q))).length))=conv (q+1):=by
    rw[xr];simp only[List.length_set,List.length_append,List.length_replicate];rw[List.set_append_right _ _ (by simp)];simp only[List.length_map,List.length_range,Nat.sub_self];rw[show m-q=(m-(q+1))+1 by omega,List.replicate_succ,List.set_cons_zero,List.range_succ,List.map_append,List.append_assoc];rfl
   rw[e1,e2,List.set_set];exact h
 refine key m (Nat.le_refl _) ?_;simpa[xr]using h
end Go.Av
namespace Go.Proofs.YtocdpaifmnkoaaaGreatDoor
open Go.Av
def lg(b:Nat)(ls:List (List Int)):List aa:=ls.mapIdx fun j l=>.aB 1 (l.map aI) (.tok (b+j))
theorem Ir{b:Nat}{ls:List (List Int)}{j:Nat}{l:List Int}(h:ls[j]?=some l):(lg b ls)[j]?=some (.aB 1 (l.map aI) (.tok (b+j))):=by
 simp[lg,h]
theorem Is{b:Nat}{ls:List (List Int)}{j:Nat}(l:List Int):(lg b ls).set j (.aB 1 (l.map aI) (.tok (b+j)))=lg b (ls.set j l):=by
 apply List.ext_getElem?;intro i;simp only[lg,List.getElem?_set,List.getElem?_mapIdx,List.length_mapIdx];by_cases e:j=i
 ·subst e;by_cases hl:j<ls.length
  ·simp[hl]
  simp[hl]
 simp[e]
theorem vh(b:Nat)(ls:List (List Int)):(lg b ls).length=ls.length:=by simp[lg]
theorem A7(b n:Nat):lg b (List.replicate n [])=(List.range n).map fun j=>.aB 1 [] (.tok (b+j)):=by
 apply List.ext_getElem?;intro i;simp only[lg,List.getElem?_mapIdx,List.getElem?_map];by_cases h:i<n
 ·simp[h]
 simp[h]
theorem Db(b:Nat)(ls:List (List Int)):(lg b ls).map aa.br=aw (ls.map bp):=by
 have h1:aw (ls.map bp)=ls.map bp:=by
  induction ls with
  | nil=>rfl
  | cons l r ih =>
   simp only[List.map_cons,aw,List.flatMap_cons]at ih ⊢;rw[ih];rfl
 rw[h1];apply List.ext_getElem?;intro i;simp only[lg,List.getElem?_map,List.getElem?_mapIdx];cases ls[i]? with
 | none=>rfl
 | some l =>
  simp only[Option.map_some,Option.some.injEq];rw[cq]
theorem xF{b n:Nat}{ls:List (List Int)}(h:b+ls.length<=n):av n (lg b ls):=by
 rw[a6];intro x hx;obtain⟨j,hj⟩:=List.mem_iff_getElem?.1 hx;simp only[lg,List.getElem?_mapIdx]at hj;cases hl:ls[j]? with
 | none=>rw[hl]at hj;cases hj
 | some l =>
  rw[hl]at hj;simp only[Option.map_some,Option.some.injEq]at hj;subst hj;have:=ag hl;exact⟨ay _ _,show _<_ by omega⟩
theorem gS{cs:List aa}{j:Nat}(x:aa)(h:j<cs.length):bz cs j [x]=cs.set j x:=by
 apply List.ext_getElem?;intro i;rw[qc (by simp;omega),List.getElem?_set];simp only[List.length_cons,List.length_nil,Nat.zero_add];by_cases e:j=i
 ·subst e;simp[h]
 rw[if_neg (by omega),if_neg e]
structure PO(ls:List (List Int))(O:List aq):Prop where
 len:O.length=ls.length+2
 arr:O[1]?=some (.cells (lg 2 ls))
 sp:∀j l,ls[j]?=some l->O[2+j]?=some (.spare l.length)
 up:∀o∈O,o.upto O.length
theorem PO.push{ls:List (List Int)}{O:List aq}(h:PO ls O){j:Nat}{l:List Int}(hj:ls[j]?=some l)(k:Int):PO (ls.set j (l++[k])) ((O.set (2+j) (.spare (l.length+1))).set 1 (.cells (lg 2 (ls.set j (l++[k]))))):=by
 have bd:=ag hj;have hl:=h.len;refine⟨by simp[hl],?_,fun i m hi=>?_,?_⟩
 ·rw[List.getElem?_set_self (by simp;omega)]
 ·rw[List.getElem?_set_ne (by omega)];by_cases e:j=i
  ·subst e;rw[List.getElem?_set_self bd]at hi;simp only[Option.some.injEq]at hi;subst hi;rw[List.getElem?_set_self (by omega)];simp
  rw[List.getElem?_set_ne e]at hi;rw[List.getElem?_set_ne (by omega)];exact h.sp i m hi
 have h1:∀o∈O.set (2+j) (.spare (l.length+1)),o.upto O.length:=bT h.up trivial;have h2:=bT (k:=1) (x:=.cells (lg 2 (ls.set j (l++[k])))) h1 (by
  show av _ _;exact xF (by simp[hl];omega))
 simpa using h2
def mj(k:Nat)(ls:List (List Int))(e:Edge):List (List Int):=ls.set e.block.toNat ((ls[e.block.toNat]?.getD [])++[(k:Int)])
def mi(k:Nat)(ls:List (List Int))(es:List Edge):List (List Int):=es.foldl (mj k) ls
def n7:Nat->List (List Int)->List Block->List (List Int)
 | _,ls,[]=>ls
 | k,ls,b::r=>n7 (k+1) (mi k ls b.term.to) r
def iC(f:Func):List (List Int):=n7 0 (List.replicate f.blocks.length []) f.blocks
theorem xJ(k:Nat)(ls:List (List Int))(e:Edge):(mj k ls e).length=ls.length:=by simp[mj]
theorem rW(k:Nat):∀(es:List Edge) (ls:List (List Int)),(mi k ls es).length=ls.length
 | [],_=>rfl
 | e::r,ls=>by
  show(mi k (mj k ls e) r).length=_;rw[rW k r,xJ]
theorem rX:∀(l:List Block) (k:Nat) (ls:List (List Int)),(n7 k ls l).length=ls.length
 | [],_,_=>rfl
 | b::r,k,ls=>by
  simp only[n7];rw[rX r,rW]
theorem Rw{f:Func}{t:Term}(lf:Sb f t):t.to.length<=257:=by
 rcases(show(t.kind=0∨t.kind=4)∨t.kind=1∨t.kind=2∨t.kind=3 by have:=lf.kind;omega)with q|q|q|q
 ·rw[lf.to q];simp
 ·rw[lf.jump q];omega
 ·rw[lf.cond q];omega
 rw[lf.switch q];have:=lf.cases;omega
theorem FQ(f:Func):(iC f).length=f.blocks.length:=by simp[iC,rX]
theorem FK(n:Nat):(List.replicate n [aa.aB 1 [] .ex]).flatten=List.replicate n (.aB 1 [] .ex):=by
 induction n with
 | zero=>rfl
 | succ n ih=>rw[List.replicate_succ,List.flatten_cons,ih,List.replicate_succ];rfl
theorem Cl(l:List Int)(hl:l.length<=2 ^ 40):bw Tryz.prog 122 [bp l] (bp l):=by
 refine zf true 0 Tryz.func122 Tryz.ntmps122 ?_;dsimp only[Tmp,TypeId,slotsOf];refine yc 0 rfl (fun e=>?_) ?_
 ·have e0:l=[]:=List.map_eq_nil_iff.1 e;subst e0;refine az (ai ?_);refine bS (ai ?_);refine dS rfl ?_;refine az (ai ?_);refine ak ?_;simp -dsimp only[simprocAttr,↓I,zp,zr,Tryz.results122];trivial
 refine az (ai ?_);refine bS (ai ?_);refine cP rfl ?_;refine bZ ?_;refine az ?_
 repeat(refine⟨by omega,?_⟩)
 refine ai ?_;refine ak ?_;simp -dsimp only[simprocAttr,↓I,zp,zr,Tryz.results122,ri]
end Go.Proofs.YtocdpaifmnkoaaaGreatDoor
namespace Go.Av
section
variable {P:Program} {w:World} {H:Type} {enc:TypeId×Value->H} {sp:Nat->Bool} {held:Bool}
end
end Go.Av
namespace Go.Proofs.YtocdpaifmnkoaaaGreatDoor
open Go.Av
theorem laid:laidOutB Tryz.prog=true:=by kernel_rfl
end Go.Proofs.YtocdpaifmnkoaaaGreatDoor
namespace Go.Av
open Go.Lib
section
variable {P:Program} (w:World)
theorem we(t u ty e:TypeId)(i:TypeInfo)(ht:P.underlying t=some (.slice e))(hu:P.underlying u=some .string)(hi:P.info? e=some i)(hz:i.zero=some (.int .u8 0))(eG:i.size=1)(HA:i.bytes=1)
  (v:Value) (n:Nat) (xs:List Value) (kD:w.ownsRowF 0 e 1 v n xs) (s:ByteArray) (E9:n+s.size<=maxLen) (pL:n+s.size<=140737488355328) :
  ∃v' w',(Builtin.append_ #[t,u] ty #[v,.string s]).run P w=.ok v' w'∧w'.ownsRowF 0 e 1 v' (n+s.size) (xs++strCells s)∧w.grownBy w' v.ownBlock∧∀k,v'.ownBlock=some k->v.ownBlock=some k∨w.heap.size<=k:=by
 obtain⟨v',w',h1,h2,h3,h4⟩:=run_append_own_stringF (P:=P) w 0 t u ty e i ht hu hi hz eG HA v n xs kD s E9 pL (Nat.zero_le _);refine⟨v',w',h1,h2,h3,fun k hk=>?_⟩;rcases kD.2 with⟨rfl,rfl⟩|⟨g,cap,cur,fz,rfl,PC,hg,Ou,HQ,Uf,iq,gb⟩
 ·obtain⟨v2,w2,k1,k2,k3,k4⟩:=run_append_own_stringF (P:=P) w w.heap.size t u ty e i ht hu hi hz eG HA (.slice none 0 0) 0 xs ⟨kD.1,.inl ⟨rfl,rfl⟩⟩ s E9 pL (Nat.le_refl _);rw[h1]at k1;simp only[Result.ok.injEq]at k1;obtain⟨rfl,rfl⟩:=k1;exact .inr (k2.lt k hk).1
 by_cases kr:n+s.size<=cap
 ·have hr:=run_append_room_stringF (P:=P) w t u ty e i ht hu hi eG g n cap cur fz hg (by simpa using Ou) s kr (by rw[iq];omega);rw[h1]at hr;simp only[Result.ok.injEq]at hr;obtain⟨rfl,_⟩:=hr;exact .inl hk
 have W4:xs.length=n:=by simpa using kD.1
 have Qg:n+s.size<=9223372036854775807:=by simp only[maxLen]at E9;omega
 have hr:=run_append_grow_string (P:=P) w t u ty e i (.int .u8 0) ht hu hi hz ⟨g,0,none⟩ n cap xs (by rw[eG];simpa using W4) (kD.cells (g:=g) rfl) s (by omega) (by omega) (by rw[HA];exact growslice_fits (by omega) (by omega));rw[h1]at hr;simp only[Result.ok.injEq]at hr;obtain⟨rfl,_⟩:=hr;simp only[Value.ownBlock,Option.some.injEq]at hk;exact .inr (by omega)
theorem tN(t ty e:TypeId)(i:TypeInfo)(ht:P.underlying t=some (.slice e))(hi:P.info? e=some i)(hz:i.zero=some (.int .u8 0))(eG:i.size=1)(HA:i.bytes=1)
  (v:Value) (n:Nat) (xs:List Value) (kD:w.ownsRowF 0 e 1 v n xs) (a:Addr) (c:Nat) (x:Value) (hx:w.cell? a=some x) (Xg:x.oneCell'=true) (E9:n+1<=maxLen) (pL:n+1<=140737488355328) :
  ∃v' w',(Builtin.append_ #[t,t] ty #[v,.slice (some a) 1 c]).run P w=.ok v' w'∧w'.ownsRowF 0 e 1 v' (n+1) (xs++[x])∧w.grownBy w' v.ownBlock∧∀k,v'.ownBlock=some k->v.ownBlock=some k∨w.heap.size<=k:=by
 have mc:∀j u,[x][j]?=some u->w.cell? (a.add j)=some u:=fun j u hj=>by
  match j,hj with
  | 0,hj =>
   simp only[List.getElem?_cons_zero,Option.some.injEq]at hj;rw[<-hj];simpa[Addr.add]using hx
 have h1:∀u∈[x],u.oneCell'=true:=fun u hu=>by
  simp only[List.mem_cons,List.not_mem_nil,or_false]at hu;rw[hu];exact Xg
 have OW:(Value.int IntKind.u8 0).cells.size=1:=rfl;obtain⟨v',w',r1,r2,r3,r4⟩:=run_append_ownF (P:=P) w 0 t ty e i (.int .u8 0) 1 1 ht hi hz eG HA OW (by decide) v n xs kD a 1 c [x] rfl mc h1 E9 (by omega) (Nat.zero_le _);refine⟨v',w',r1,r2,r3,fun k hk=>?_⟩;rcases kD.2 with⟨rfl,rfl⟩|⟨g,cap,cur,fz,rfl,PC,hg,Ou,HQ,Uf,iq,gb⟩
 ·obtain⟨v2,w2,k1,k2,k3,k4⟩:=run_append_ownF (P:=P) w w.heap.size t ty e i (.int .u8 0) 1 1 ht hi hz eG HA OW (by decide) (.slice none 0 0) 0 xs ⟨kD.1,.inl ⟨rfl,rfl⟩⟩ a 1 c [x] rfl mc h1 E9 (by omega) (Nat.le_refl _);rw[r1]at k1;simp only[Result.ok.injEq]at k1;obtain⟨rfl,rfl⟩:=k1;exact .inr (k2.lt k hk).1
 by_cases kr:n+1<=cap
 ·have hr:=run_append_roomF (P:=P) w t ty e i ht hi g n cap cur fz hg (by rw[eG];exact Ou) a 1 c [x] (by rw[eG];rfl) mc h1 kr (by rw[eG,iq];simp only[List.length_singleton];omega);rw[r1]at hr;simp only[Result.ok.injEq]at hr;obtain⟨rfl,_⟩:=hr;exact .inl hk
 have Qg:n+1<=9223372036854775807:=by simp only[maxLen]at E9;omega
 have hr:=run_append_grow (P:=P) w t ty e i (.int .u8 0) ht hi hz ⟨g,0,none⟩ n cap xs (by rw[eG];exact kD.1) (kD.cells (g:=g) rfl) a 1 c [x] (by rw[eG];rfl) mc (by omega) (by omega) (by rw[HA];exact growslice_fits (by omega) (by omega));rw[r1]at hr;simp only[Result.ok.injEq]at hr;obtain⟨rfl,_⟩:=hr;simp only[Value.ownBlock,Option.some.injEq]at hk;exact .inr (by omega)
theorem ou{ops:Array Oper}{rest:List Oper}{o:Oper}{a:Act}{Q:Exit->Act->World->Prop}(mB:o.guard=none)(sl x:Operand)(t u:TypeId)
  (ho:o.op=.call { callee:=.builtin .append,args:=#[sl,x],argTypes:=#[t,u] })
  (e:TypeId) (i:TypeInfo) (ht:P.underlying t=some (.slice e)) (hu:P.underlying u=some .string) (hi:P.info? e=some i) (hz:i.zero=some (.int .u8 0)) (eG:i.size=1) (HA:i.bytes=1)
  (v:Value) (n:Nat) (xs:List Value) (hs:a.eval sl=v) (kD:w.ownsRowF 0 e 1 v n xs) (s:ByteArray) (hx:a.eval x=.string s) (E9:n+s.size<=maxLen) (pL:n+s.size<=140737488355328)
  (h:∀v' w',w'.ownsRowF 0 e 1 v' (n+s.size) (xs++strCells s)->w.grownBy w' v.ownBlock->(∀k,v'.ownBlock=some k->v.ownBlock=some k∨w.heap.size<=k)->wpList P ops Q rest (a.put o.dst v') w'):wpList P ops Q (o::rest) a w:=by
 refine wpList_plain mB fun K hK=>?_;obtain⟨v',w',hr,h2,h3,h4⟩:=we (P:=P) w t u o.type e i ht hu hi hz eG HA v n xs kD s E9 pL;unfold Oper.wp execOp;simp only[ho,resolve,invoke,builtin,Sem.run_bind,Sem.run_pure,Result.andThen_ok,List.map_toArray,List.map_cons,List.map_nil,hs,hx,hr];exact hK _ _ (h v' w' h2 h3 h4)
theorem nA{ops:Array Oper}{rest:List Oper}{o:Oper}{a:Act}{Q:Exit->Act->World->Prop}(mB:o.guard=none)(sl x:Operand)(t:TypeId)
  (ho:o.op=.call { callee:=.builtin .append,args:=#[sl,x],argTypes:=#[t,t] })
  (e:TypeId) (i:TypeInfo) (ht:P.underlying t=some (.slice e)) (hi:P.info? e=some i) (hz:i.zero=some (.int .u8 0)) (eG:i.size=1) (HA:i.bytes=1)
  (v:Value) (n:Nat) (xs:List Value) (hs:a.eval sl=v) (kD:w.ownsRowF 0 e 1 v n xs) (ad:Addr) (c:Nat) (y:Value) (hx:a.eval x=.slice (some ad) 1 c) (hy:w.cell? ad=some y) (Xh:y.oneCell'=true) (E9:n+1<=maxLen) (pL:n+1<=140737488355328)
  (h:∀v' w',w'.ownsRowF 0 e 1 v' (n+1) (xs++[y])->w.grownBy w' v.ownBlock->(∀k,v'.ownBlock=some k->v.ownBlock=some k∨w.heap.size<=k)->wpList P ops Q rest (a.put o.dst v') w'):wpList P ops Q (o::rest) a w:=by
 refine wpList_plain mB fun K hK=>?_;obtain⟨v',w',hr,h2,h3,h4⟩:=tN (P:=P) w t o.type e i ht hi hz eG HA v n xs kD ad c y hy Xh E9 pL;unfold Oper.wp execOp;simp only[ho,resolve,invoke,builtin,Sem.run_bind,Sem.run_pure,Result.andThen_ok,List.map_toArray,List.map_cons,List.map_nil,hs,hx,hr];exact hK _ _ (h v' w' h2 h3 h4)
end
end Go.Av
namespace Go.Proofs.YtocdpaifmnkoaaaGreatDoor
open Go.Av Go.RowKit Go.Proofs
def sH:Go.Shelf.Ren:=⟨fun|240=>160|276=>180|n=>n,fun|0=>0|4=>4|9=>9|20=>20|37=>210|70=>209|72=>212|164=>267|n=>n,fun n=>n⟩
theorem Ek:Go.Proofs.Lays.n240 Tryz.prog sH:={
 mixed:=by kernel_rfl,
 f240:=Tryz.func160.trans (congrArg some (by kernel_rfl)),
 f276:=Tryz.func180.trans (congrArg some (by kernel_rfl)),
 t0:=Tryz.underlying0,
 a0:=Tryz.isAgg0,
 z0:=Tryz.sizeOf0,
 v0:=Tryz.zeroValue0,
 t4:=Tryz.underlying4,
 a4:=Tryz.isAgg4,
 z4:=Tryz.sizeOf4,
 v4:=Tryz.zeroValue4,
 t9:=Tryz.underlying9,
 a9:=Tryz.isAgg9,
 z9:=Tryz.sizeOf9,
 v9:=Tryz.zeroValue9,
 t20:=Tryz.underlying20,
 a20:=Tryz.isAgg20,
 z20:=Tryz.sizeOf20,
 v20:=Tryz.zeroValue20,
 t70:=Tryz.underlying209,
 a70:=Tryz.isAgg209,
 z70:=Tryz.sizeOf209,
 v70:=Tryz.zeroValue209,
 t72:=Tryz.underlying212,
 a72:=Tryz.isAgg212,
 z72:=Tryz.sizeOf212,
 v72:=Tryz.zeroValue212,
 t164:=Tryz.underlying267,
 a164:=Tryz.isAgg267,
 z164:=Tryz.sizeOf267,
 v164:=Tryz.zeroValue267 }
theorem Xa:Builder.X72 Tryz.prog sH:=⟨by kernel_rfl,by kernel_rfl⟩
structure zC(w w':World)(b:Nat)(row:Option Nat):Prop where
 os:w'.os=w.os
 tape:w'.tape=w.tape
 output:w'.output=w.output
 size:w.heap.size<=w'.heap.size
 block:∀k,k<w.heap.size->k≠b->some k≠row->w'.heap[k]?=w.heap[k]?
theorem kf{w:World}{b i:Nat}{cs:Array Value}{T:TypeId}{fz:Nat×Nat}{x:Value}(h:w.heap[b]?=some (.cells cs T fz)):(w.setCell ⟨b,i,none⟩ x).heap[b]?=some (.cells (cs.setIfInBounds i x) T fz):=by
 simp only[World.setCell,Array.getElem?_modify,h];simp
theorem iR{w:World}{b i k:Nat}{x:Value}(h:k≠b):(w.setCell ⟨b,i,none⟩ x).heap[k]?=w.heap[k]?:=by
 simp only[World.setCell,Array.getElem?_modify];rw[if_neg (by omega)]
theorem zC.setCell{w w':World}{b:Nat}{row:Option Nat}(h:zC w w' b row)(i:Nat)(x:Value):zC w (w'.setCell ⟨b,i,none⟩ x) b row where
 os:=h.os
 tape:=h.tape
 output:=h.output
 size:=by
  have:=h.size;simp[World.setCell];exact this
 block:=fun k hk h1 h2=>(iR h1).trans (h.block k hk h1 h2)
theorem zC.refl(w:World)(b:Nat)(row:Option Nat):zC w w b row:=⟨rfl,rfl,rfl,Nat.le_refl _,fun _ _ _ _=>rfl⟩
theorem zC.grown{w w1 w2:World}{b:Nat}{row:Option Nat}(h:zC w w1 b row)(k:w1.grownBy w2 row):zC w w2 b row where
 os:=k.os.trans h.os
 tape:=k.tape.trans h.tape
 output:=k.output.trans h.output
 size:=Nat.le_trans h.size k.size
 block:=fun j hj h1 h2=>(k.block j (Nat.lt_of_lt_of_le hj h.size) h2).trans (h.block j hj h1 h2)
theorem rY{w:World}{b:Nat}{cs:Array Value}{v:Value}{n:Nat}{xs:List Value}(hb:w.heap[b]?=some (.cells cs 212 (0,0)))(hv:w.ownsRowF 0 5 1 v n xs):v.ownBlock≠some b:=Lib.ownBlock_neF hv hb (by decide)
theorem Bk(b:Nat)(p v:Value)(n:Nat)(xs:List Value)(w:World)(hb:w.heap[b]?=some (.cells #[p,v] 212 (0,0)))(hp:p=.pointer none∨p=.pointer (some ⟨b,0,none⟩))(hv:w.ownsRowF 0 5 1 v n xs) :
  Calls Tryz.prog 160 #[.pointer (some ⟨b,0,none⟩)] w fun e w'=>e=.returned (.tuple #[])∧w'.heap[b]?=some (.cells #[.pointer (some ⟨b,0,none⟩),v] 212 (0,0))∧w'.ownsRowF 0 5 1 v n xs∧zC w w' b none:=by
 rcases hp with rfl|rfl
 ·refine(Any.Builder_copyCheck_fresh Ek Xa b w (by rw[Lib.cell_of_heap hb];rfl) (by simp[World.shape?,hb];rfl) (Lib.frozen_of_heap hb 0)).mono ?_;rintro e w' ⟨rfl,rfl⟩;refine⟨rfl,kf hb,?_,(zC.refl w b none).setCell 0 _⟩;exact hv.kept (row:=some b) ⟨rfl,rfl,rfl,by simp[World.setCell],fun k _ hk=>iR fun e=>hk (by simp[e])⟩ (.inr (rY hb hv))
 refine(Any.Builder_copyCheck_used Ek Xa b w (by rw[Lib.cell_of_heap hb];rfl)).mono ?_;rintro e w' ⟨rfl,rfl⟩;exact⟨rfl,hb,hv,zC.refl _ b none⟩
set_option maxHeartbeats 4000000 in
set_option maxRecDepth 100000 in
theorem vB(b:Nat)(p v:Value)(l:List UInt8)(s:ByteArray)(w:World)(hb:w.heap[b]?=some (.cells #[p,v] 212 (0,0)))(hp:p=.pointer none∨p=.pointer (some ⟨b,0,none⟩))(hv:w.ownsRowF 0 5 1 v l.length (Lib.byteCells l))(hlen:l.length+s.size<=2 ^ 40) :
  Calls Tryz.prog 118 #[.pointer (some ⟨b,0,none⟩),.string s] w fun e w'=>e=.returned (.tuple #[.int .i64 s.size,.nilIface])∧∃v',w'.heap[b]?=some (.cells #[.pointer (some ⟨b,0,none⟩),v'] 212 (0,0)) ∧
   w'.ownsRowF 0 5 1 v' (l.length+s.size) (Lib.byteCells l++Lib.strCells s)∧zC w w' b v.ownBlock∧∀k,v'.ownBlock=some k->v.ownBlock=some k∨w.heap.size<=k:=by
 obtain⟨i0,hi,VS,OW,VT⟩:=info_parts (show(Tryz.prog.info? 5).map (fun i=>(i.zero,i.size,i.bytes))=some (some (.int .u8 0),1,1) by kernel_rfl);have UG:∀args w,(callFunc 160 args).run Tryz.prog w=.ok (.enter 160 args) w:=enters_of Tryz.func160 (by kernel_rfl) rfl
 go_enter Tryz.func118,Tryz.ntmps118
 go_wp2_with (go_at_fn 160;refine(Bk b p v _ _ _ hb hp hv).mono ?_)
 rintro e w1 ⟨rfl,D4,uZ,tB⟩;have c1:w1.cell? ⟨b,1,none⟩=some v:=by rw[Lib.cell_of_heap D4];rfl
 go_wp2_with (at_builtin;refine ou _ rfl _ _ 210 9 rfl 5 i0 Tryz.underlying210 Tryz.underlying9 hi VS OW VT _ _ _ rfl uZ s rfl ?c3 ?c4 ?_)
 case c3=>unfold maxLen;omega
 case c4=>omega
 intro v' w2 uU qN OI;have da:=rY D4 uZ;have bd:b<w1.heap.size:=aO D4;have rM:w2.heap[b]?=some (.cells #[.pointer (some ⟨b,0,none⟩),v] 212 (0,0)):=(qN.block b bd (fun e=>da e.symm)).trans D4;have d1:w2.cell? ⟨b,1,none⟩=some v:=by rw[Lib.cell_of_heap rM];rfl
 have f1:w2.frozen? ⟨b,1,none⟩=false:=Lib.frozen_of_heap rM 1;have P3:=rY rM uU;obtain⟨ao,n',cap,rfl⟩:∃ao n' cap,v'=.slice ao n' cap:=by
  rcases uU.2 with⟨hv,_⟩|⟨g,cap,cur,fz,hv,_⟩
  ·exact⟨_,_,_,hv⟩
  exact⟨_,_,_,hv⟩
 go_wp2
 go_ret2
 have Qi:zC w w1 b v.ownBlock:=⟨tB.os,tB.tape,tB.output,tB.size,fun k h1 h2 _=>tB.block k h1 h2 (by simp)⟩
 refine⟨rfl,_,kf rM,?_,(Qi.grown qN).setCell 1 _,fun k hk=>(OI k hk).imp id fun q=>Nat.le_trans tB.size q⟩;exact uU.kept (row:=some b) ⟨rfl,rfl,rfl,by simp[World.setCell],fun k _ hk=>iR fun e=>hk (by simp[e])⟩ (.inr P3)
set_option maxHeartbeats 4000000 in
set_option maxRecDepth 100000 in
theorem y5(b:Nat)(p v:Value)(l:List UInt8)(c:Int)(w:World)(hb:w.heap[b]?=some (.cells #[p,v] 212 (0,0)))(hp:p=.pointer none∨p=.pointer (some ⟨b,0,none⟩))(hv:w.ownsRowF 0 5 1 v l.length (Lib.byteCells l))(hlen:l.length+1<=2 ^ 40) :
  Calls Tryz.prog 120 #[.pointer (some ⟨b,0,none⟩),.int .u8 c] w fun e w'=>e=.returned .nilIface∧∃v',w'.heap[b]?=some (.cells #[.pointer (some ⟨b,0,none⟩),v'] 212 (0,0)) ∧
   w'.ownsRowF 0 5 1 v' (l.length+1) (Lib.byteCells l++[.int .u8 c])∧zC w w' b v.ownBlock∧∀k,v'.ownBlock=some k->v.ownBlock=some k∨w.heap.size<=k:=by
 obtain⟨i0,hi,VS,OW,VT⟩:=info_parts (show(Tryz.prog.info? 5).map (fun i=>(i.zero,i.size,i.bytes))=some (some (.int .u8 0),1,1) by kernel_rfl);have UG:∀args w,(callFunc 160 args).run Tryz.prog w=.ok (.enter 160 args) w:=enters_of Tryz.func160 (by kernel_rfl) rfl
 go_enter Tryz.func120,Tryz.ntmps120
 go_wp2_with (go_at_fn 160;refine(Bk b p v _ _ _ hb hp hv).mono ?_)
 rintro e w1 ⟨rfl,D4,uZ,tB⟩;have c1:w1.cell? ⟨b,1,none⟩=some v:=by rw[Lib.cell_of_heap D4];rfl
 go_wp2_with (at_builtin;refine nA _ rfl _ _ 210 rfl 5 i0 Tryz.underlying210 hi VS OW VT _ _ _ rfl (uZ.alloc _) ⟨w1.heap.size,0,none⟩ 1 (.int .u8 c) rfl ?c1 rfl ?c3 ?c4 ?_)
 case c1=>simp
 case c3=>unfold maxLen;omega
 case c4=>omega
 intro v' w2 uU qN OI;have da:=rY D4 uZ;have bd:b<w1.heap.size:=aO D4;have rM:w2.heap[b]?=some (.cells #[.pointer (some ⟨b,0,none⟩),v] 212 (0,0)):=by
  rw[qN.block b (by simp;omega) (fun e=>da e.symm),Lib.alloc_old w1 _ b bd];exact D4
 have d1:w2.cell? ⟨b,1,none⟩=some v:=by rw[Lib.cell_of_heap rM];rfl
 have f1:w2.frozen? ⟨b,1,none⟩=false:=Lib.frozen_of_heap rM 1;have P3:=rY rM uU;obtain⟨ao,n',cap,rfl⟩:∃ao n' cap,v'=.slice ao n' cap:=by
  rcases uU.2 with⟨hv,_⟩|⟨g,cap,cur,fz,hv,_⟩
  ·exact⟨_,_,_,hv⟩
  exact⟨_,_,_,hv⟩
 go_wp2
 go_ret
 have Qi:zC w w1 b v.ownBlock:=⟨tB.os,tB.tape,tB.output,tB.size,fun k h1 h2 _=>tB.block k h1 h2 (by simp)⟩
 have Qj:zC w w2 b v.ownBlock:={
  os:=qN.os.trans tB.os
  tape:=qN.tape.trans tB.tape
  output:=qN.output.trans tB.output
  size:=by
   have h1:=qN.size;have h2:=tB.size;simp only[World.alloc,Array.size_push]at h1;omega
  block:=fun k hk h1 h2=>by
   have Kl:=Nat.lt_of_lt_of_le hk tB.size;rw[qN.block k (by simp;omega) h2,Lib.alloc_old w1 _ k Kl];exact Qi.block k hk h1 h2 }
 refine⟨rfl,_,kf rM,?_,Qj.setCell 1 _,fun k hk=>(OI k hk).imp id fun q=>by
  have h2:=tB.size;omega⟩
 exact uU.kept (row:=some b) ⟨rfl,rfl,rfl,by simp[World.setCell],fun k _ hk=>iR fun e=>hk (by simp[e])⟩ (.inr P3)
set_option maxHeartbeats 4000000 in
set_option maxRecDepth 100000 in
theorem F3(b:Nat)(p v:Value)(l:List UInt8)(w:World)(hb:w.heap[b]?=some (.cells #[p,v] 212 (0,0)))(hv:w.ownsRowF 0 5 1 v l.length (Lib.byteCells l))(h0:l≠[]) :
  Calls Tryz.prog 121 #[.pointer (some ⟨b,0,none⟩)] w fun e w'=>e=.returned (.string ⟨l.toArray⟩)∧w'.heap[b]?=some (.cells #[p,v] 212 (0,0)) ∧
   w'.ownsRowF 0 5 1 v l.length (Lib.byteCells l)∧zC w w' b v.ownBlock:=by
 have Lg:l.length≠0:=by simpa using h0
 obtain⟨g,cap,cur,fz,rfl,PC,hg,Ou,HQ,Uf,iq,gb⟩:∃g cap cur fz,v=.slice (some ⟨g,0,none⟩) l.length cap∧0<=g∧w.heap[g]?=some (.cells cur 5 fz)∧fz.2<=l.length*1∧l.length<=cap∧cap<=maxLen∧cur.size=cap*1∧cur.toList.take (l.length*1)=Lib.byteCells l:=by
  rcases hv.2 with⟨_,hz⟩|⟨g,cap,cur,fz,hv,r⟩
  ·exact absurd hz Lg
  exact⟨g,cap,cur,fz,hv,r⟩
 have XR:g≠b:=fun e=>rY hb hv (by simp[Value.ownBlock,e]);have c1:w.drew.cell? ⟨b,1,none⟩=some (.slice (some ⟨g,0,none⟩) l.length cap):=by
  have:w.drew.heap[b]?=some (.cells #[p,.slice (some ⟨g,0,none⟩) l.length cap] 212 (0,0)):=hb;rw[Lib.cell_of_heap this];rfl
 have Y1:(Builtin.unsafeSliceData_ #[210] 247 #[.slice (some ⟨g,0,none⟩) l.length cap]).run Tryz.prog w.drew=.ok (.pointer (some ⟨g,0,none⟩)) w.drew :=
  Lib.run_unsafeSliceData_row _ _ _ _ _ _ (by omega)
 have Y6:(Builtin.unsafeString_ #[247,3] 9 #[.pointer (some ⟨g,0,none⟩),.int .i64 l.length]).run Tryz.prog w.drew=.ok (.string ⟨l.toArray⟩) (w.drew.freeze ⟨g,0,none⟩ l.length):=by
  refine Lib.run_unsafeString_row w.drew 247 3 9 5 Tryz.underlying247 (by kernel_rfl) g cur.size (by have Uj:w.drew.heap[g]?=some (.cells cur 5 fz):=hg;simp[World.shape?,Uj]) l h0 (by omega) (by unfold maxLen at Uf;omega) ?_;intro j x hx;exact hv.cells (g:=g) rfl j (.int .u8 x.toNat) (by simp[Lib.byteCells,hx])
 have ez:(w.drew.freeze ⟨g,0,none⟩ l.length).heap=w.heap.modify g fun | .cells c elem (lo,hi)=>.cells c elem (if lo == hi then(0,0+l.length)else(min lo 0,max hi (0+l.length)))|o=>o:=by
  simp only[World.freeze,if_neg Lg];rfl
 have da:∀k,k≠g->(w.drew.freeze ⟨g,0,none⟩ l.length).heap[k]?=w.heap[k]?:=fun k hk=>by
  rw[ez,Array.getElem?_modify,if_neg (fun e=>hk e.symm)]
 have oZ:∃T',T'.2<=l.length*1∧(w.drew.freeze ⟨g,0,none⟩ l.length).heap[g]?=some (.cells cur 5 T'):=by
  obtain⟨lo,hi⟩:=fz;refine⟨if lo == hi then(0,0+l.length)else(min lo 0,max hi (0+l.length)),?_,?_⟩
  ·simp only at Ou;split<;>simp<;>omega
  rw[ez,Array.getElem?_modify,if_pos rfl,hg];rfl
 have Tt:(w.drew.freeze ⟨g,0,none⟩ l.length).heap[b]?=some (.cells #[p,.slice (some ⟨g,0,none⟩) l.length cap] 212 (0,0)) ∧
   (w.drew.freeze ⟨g,0,none⟩ l.length).ownsRowF 0 5 1 (.slice (some ⟨g,0,none⟩) l.length cap) l.length (Lib.byteCells l)∧zC w (w.drew.freeze ⟨g,0,none⟩ l.length) b (some g):=by
  obtain⟨T',h1,h2⟩:=oZ;refine⟨(da b (fun e=>XR e.symm)).trans hb,⟨hv.1,.inr ⟨g,cap,cur,T',rfl,PC,h2,h1,HQ,Uf,iq,gb⟩⟩,?_⟩;refine⟨?_,?_,?_,?_,fun k _ _ hk=>da k fun e=>hk (by rw[e])⟩
  ·simp only[World.freeze,if_neg Lg];rfl
  ·simp only[World.freeze,if_neg Lg];rfl
  ·simp only[World.freeze,if_neg Lg];rfl
  rw[ez,Array.size_modify];exact Nat.le_refl _
 have mixed:Tryz.prog.follows .mixedOrders=true:=by kernel_rfl
 go_enter Tryz.func121,Tryz.ntmps121
 go_wp2
 go_region_o
 all_goals (go_wp2;go_ret;exact⟨rfl,Tt⟩)
end Go.Proofs.YtocdpaifmnkoaaaGreatDoor
namespace Go.Av
theorem y4{g:G}(hg:Good g){hd bf m:Nat}{l l':List UInt8}{key:Value}{l1:Loc}{p v p' v':Value}{w':World}
  (ho:g.objs[hd]?=some (.map (.sb bf m l) [(key,.mp hd 0)])) (hb:g.objs[bf]?=some (.spare m)) (he:g.env[hd]?=some (some l1)) (gy:l1.lo=0)
  (di:g.w.heap[l1.block]?=some (.cells #[p,v] GA (0,0))) (hv:w9 g bf l v)
  (h1:w'.heap[l1.block]?=some (.cells #[p',v'] GA (0,0))) (OK:p'=.pointer none∨p'=.pointer (some ⟨l1.block,0,none⟩)) (h2:w'.ownsRowF 0 Uy 1 v' l'.length (Lib.byteCells l'))
  (OJ:w'.os=g.w.os) (TG:w'.tape=g.w.tape) (Fq:w'.output=g.w.output) (c7:g.w.heap.size<=w'.heap.size)
  (s8:∀k,k<g.w.heap.size->k≠l1.block->some k≠v.ownBlock->w'.heap[k]?=g.w.heap[k]?) (OI:∀k,v'.ownBlock=some k->v.ownBlock=some k∨g.w.heap.size<=k) :
  ∃g':G,g'.w=w'∧Le g g'∧Good g'∧g'.objs=(g.objs.set bf (.spare (m+1))).set hd (.map (.sb bf (m+1) l') [(key,.mp hd 0)]):=by
 have da:hd≠bf:=fun e=>by rw[e,hb]at ho;cases ho
 have ru:=ag hb;have Gq:bf<g.env.length:=by rw[hg.len];exact ru
 have XW:=ag ho;have Zc:hd<g.env.length:=by rw[hg.len];exact XW
 have D4:=aO di;have rM:=aO h1;obtain⟨w1,lD⟩:∃w1:World,w1 = { w' with heap:=w'.heap.setIfInBounds l1.block (.cells #[p,v] GA (0,0)) }:=⟨_,rfl⟩
 have Qm:w1.heap.size=w'.heap.size:=by rw[lD];simp
 have Lp:∀k,k≠l1.block->w1.heap[k]?=w'.heap[k]?:=fun k hk=>by
  rw[lD];exact Array.getElem?_setIfInBounds_ne (fun e=>hk e.symm)
 have TK:w1.heap[l1.block]?=some (.cells #[p,v] GA (0,0)):=by
  rw[lD];simp[rM]
 have WJ:∀k,v'.ownBlock=some k->k≠l1.block∧∃cur fz,w'.heap[k]?=some (.cells cur Uy fz):=fun k hk=>by
  rcases h2.2 with⟨rfl,_⟩|⟨b,cap,cur,fz,rfl,_,q,_⟩
  ·simp[Value.ownBlock]at hk
  simp only[Value.ownBlock,Option.some.injEq]at hk;subst hk;refine⟨fun e=>?_,cur,fz,q⟩;rw[e,h1]at q;simp only[Option.some.injEq,Obj.cells.injEq]at q;exact absurd q.2.1 (by decide)
 obtain⟨eb,Uh⟩:∃eb,g.env[bf]?=some eb:=⟨_,List.getElem?_eq_getElem Gq⟩
 obtain⟨Qw,hA,hB,hC⟩:∃Qw:Option Loc,(∀k,v'.ownBlock=some k->∃lb:Loc,Qw=some lb∧lb.lo=0∧lb.block=k)∧(∀l2,Qw=some l2->g.w.heap.size<=l2.block∨∃l0:Loc,g.env[bf]?=some (some l0)∧l0.block=l2.block∧l0.lo<=l2.lo) ∧
   ∀l2,Qw=some l2->v'.ownBlock=some l2.block:=by
  cases Yn:v'.ownBlock with
  | none=>exact⟨none,fun k h=>(by cases h),fun l2 h=>(by cases h),fun l2 h=>(by cases h)⟩
  | some k =>
   rcases OI k Yn with q|q
   ·obtain⟨lb,q1,q2,q3⟩:=hv.2 k q;refine⟨some lb,fun k' h=>⟨lb,rfl,q2,by rw[q3];simpa using h⟩,fun l2 h=>?_,fun l2 h=>?_⟩
    ·simp only[Option.some.injEq]at h;subst h;exact .inr ⟨lb,q1,rfl,Nat.le_refl _⟩
    simp only[Option.some.injEq]at h;subst h;rw[q3]
   refine⟨some ⟨k,0,0⟩,fun k' h=>⟨⟨k,0,0⟩,rfl,rfl,by simpa using h⟩,fun l2 h=>?_,fun l2 h=>?_⟩
   ·simp only[Option.some.injEq]at h;subst h;exact .inl q
   simp only[Option.some.injEq]at h;subst h;rfl
 have kD:∀k,v.ownBlock=some k->∃lb:Loc,g.env[bf]?=some (some lb)∧lb.lo=0∧lb.block=k:=hv.2;have t1:jT g bf (.spare m) Qw (.spare (m+1)) w1:={
  obj:=hb
  os:=by rw[lD];exact OJ
  tape:=by rw[lD];exact TG
  output:=by rw[lD];exact Fq
  size:=by rw[Qm];exact c7
  block:=fun k hk hh=>by
   by_cases e:k=l1.block
   ·rw[e,TK,di]
   rw[Lp k e];refine s8 k hk e fun q=>?_;obtain⟨lb,q1,_,q3⟩:=kD k q.symm;exact hh lb q1 trivial q3
  cell:=fun b off x hx hh=>by
   have bd:=lr hx;have ir:w1.heap[b]?=g.w.heap[b]?:=by
    by_cases e:b=l1.block
    ·rw[e,TK,di]
    rw[Lp b e];refine s8 b bd e fun q=>?_;obtain⟨lb,q1,q2,q3⟩:=kD b q.symm;have:=hh lb q1 trivial q3;omega
   rw[gh ir];exact hx
  place:=fun l2 h2 _=>(hB l2 h2).imp id fun⟨l0,a,b,c⟩=>⟨l0,a,trivial,b,c⟩
  spare:=fun m2 h=>by
   simp only[aq.spare.injEq]at h;subst h;exact .inl ⟨m+1,rfl,Nat.lt_succ_self _⟩
  plain:=fun h=>absurd trivial h
  gone:=by simp }
 have W8:=Le.bo hg t1;have g1:Good (g.bo bf Qw (.spare (m+1)) w1):=Good.bo hg t1 (fun l2 h2=>by
  obtain⟨q1,cur,fz,q2⟩:=WJ _ (hC l2 h2);exact⟨cur,(Uy,fz),(Lp _ q1).trans q2⟩) (fun l2 h2 _=>by
  obtain⟨q1,cur,fz,q2⟩:=WJ _ (hC l2 h2);rw[Qm];exact aO q2)
 obtain⟨gm,Kh⟩:∃gm:G,gm=g.bo bf Qw (.spare (m+1)) w1:=⟨_,rfl⟩
 rw[<-Kh]at W8 g1;have sA:gm.objs[hd]?=some (.map (.sb bf m l) [(key,.mp hd 0)]):=by
  rw[Kh];simp only[G.bo];rw[List.getElem?_set_ne (fun e=>da e.symm)];exact ho
 have Th:gm.env[hd]?=some (some l1):=by
  rw[Kh];simp only[G.bo];rw[List.getElem?_set_ne (fun e=>da e.symm)];exact he
 have HP:gm.w=w1:=by rw[Kh];rfl
 have TB:∀k,k≠l1.block->w'.heap[k]?=gm.w.heap[k]?:=fun k hk=>by rw[HP];exact(Lp k hk).symm
 have t2:jT gm hd (.map (.sb bf m l) [(key,.mp hd 0)]) (some l1) (.map (.sb bf (m+1) l') [(key,.mp hd 0)]) w':={
  obj:=sA
  os:=by rw[HP,lD]
  tape:=by rw[HP,lD]
  output:=by rw[HP,lD]
  size:=by rw[HP,Qm];exact Nat.le_refl _
  block:=fun k _ hh=>TB k fun e=>hh l1 Th trivial e.symm
  cell:=fun b off x hx hh=>by
   by_cases e:b=l1.block
   ·have:=hh l1 Th trivial e.symm;omega
   rw[gh (TB b e)];exact hx
  place:=fun l2 h2 _=>by
   simp only[Option.some.injEq]at h2;subst h2;exact .inr ⟨l1,Th,trivial,rfl,Nat.le_refl _⟩
  spare:=fun m2 h=>by cases h
  plain:=fun _=>⟨by simp[aq.aJ],Th⟩
  gone:=by simp }
 have Yw:=Le.bo g1 t2;refine⟨gm.bo hd (some l1) (.map (.sb bf (m+1) l') [(key,.mp hd 0)]) w',rfl,W8.trans Yw,Good.bo g1 t2 ?_ ?_,?_⟩
 ·refine⟨l1,_,rfl,gy,h1,p',v',rfl,?_,?_,fun m0 h0=>?_⟩
  ·rcases OK with q|q
   ·exact .inl q
   refine .inr ⟨(key,.mp hd 0),List.mem_cons_self,?_⟩;rw[q];refine .mp (l:=l1) (o:=.map (.sb bf (m+1) l') [(key,.mp hd 0)]) ?_ ?_ (by simp[aq.aJ])
   ·simp only[G.bo];rw[List.getElem?_set_self (ag Th)]
   simp only[G.bo];rw[List.getElem?_set_self (ag sA)]
  ·simp only[G.bo,List.length_set];rw[Kh];simpa[G.bo]using ru
  have E7:m+1=m0:=by
   simp only[G.bo]at h0;rw[List.getElem?_set_ne da,Kh]at h0;simp only[G.bo]at h0;rw[List.getElem?_set_self ru]at h0;simpa using h0
  refine⟨by omega,fun _=>⟨h2,fun k hk=>?_⟩⟩;obtain⟨lb,q1,q2,q3⟩:=hA k hk;refine⟨lb,?_,q2,q3⟩;simp only[G.bo];rw[List.getElem?_set_ne da,Kh];simp only[G.bo];rw[List.getElem?_set_self Gq,q1]
 ·intro l2 h2 _;simp only[Option.some.injEq]at h2;subst h2;exact rM
 simp only[G.bo,Kh]
end Go.Av
namespace Go.Proofs.YtocdpaifmnkoaaaGreatDoor
open Go.Av
def Kt(hd bf m:Nat)(l:List UInt8)(key:Value):aq:=.map (.sb bf m l) [(key,.mp hd 0)]
def ph(O:List aq)(hd bf m:Nat)(l:List UInt8)(key:Value):List aq:=(O.set bf (.spare (m+1))).set hd (Kt hd bf (m+1) l key)
theorem y3{g:G}(hg:Go.Av.Good g){hd bf m:Nat}{l:List UInt8}{key:Value}(ho:g.objs[hd]?=some (Kt hd bf m l key))(hb:g.objs[bf]?=some (.spare m)){u:Value}(hu:RV g (.mp hd 0) u) :
  ∃(l1:Go.Av.Loc) (p v:Value),u=.pointer (some ⟨l1.block,0,none⟩)∧g.env[hd]?=some (some l1)∧l1.lo=0∧g.w.heap[l1.block]?=some (.cells #[p,v] GA (0,0))∧(p=.pointer none∨p=.pointer (some ⟨l1.block,0,none⟩))∧w9 g bf l v:=by
 obtain⟨l1,o1,he,h1,_,e⟩:=hu.jG;obtain⟨l2,ob,e1,gy,hh,hm⟩:=hg.map hd _ _ ho;rw[he]at e1;simp only[Option.some.injEq]at e1;subst e1;obtain⟨p,v,rfl,hp,hv⟩:=hm;refine⟨l1,p,v,e,he,gy,hh,?_,(hv.2 m hb).2 rfl⟩;rcases hp with q|⟨kx,q1,q2⟩
 ·exact .inl q
 simp only[List.mem_cons,List.not_mem_nil,or_false]at q1;subst q1;obtain⟨l3,o3,U8,_,_,e3⟩:=q2.jG;rw[he]at U8;simp only[Option.some.injEq]at U8;subst U8;exact .inr e3
theorem vJ{g:G}{x y:aa}{vs:Array Value}(h:jq g [x,y] vs):∃a b,vs = #[a,b]∧RV g x a∧RV g y b:=by
 obtain⟨h1,h2⟩:=h;simp only[List.length_cons,List.length_nil]at h1;refine⟨vs[0],vs[1],?_,h2 0 x _ rfl (Array.getElem?_eq_getElem _),h2 1 y _ rfl (Array.getElem?_eq_getElem _)⟩;apply Array.ext
 ·simpa using h1
 intro i Ki Gs;simp at Gs
 match i,Gs with
 | 0,_=>rfl
 | 1,_=>rfl
theorem Ep{g:G}{x:aa}{vs:Array Value}(h:jq g [x] vs):∃a,vs = #[a]∧RV g x a:=by
 obtain⟨h1,h2⟩:=h;simp only[List.length_cons,List.length_nil]at h1;refine⟨vs[0],?_,h2 0 x _ rfl (Array.getElem?_eq_getElem _)⟩;apply Array.ext
 ·simpa using h1
 intro i Ki Gs;simp at Gs
 match i,Gs with
 | 0,_=>rfl
theorem sc{O:List aq}{hd bf m:Nat}{l:List UInt8}{key:Value}(s:ByteArray)(ho:O[hd]?=some (Kt hd bf m l key))(hb:O[bf]?=some (.spare m))(hlen:l.length+s.size<=2 ^ 40) :
  aK Tryz.prog 118 O [.mp hd 0,.v (.string s)] (fun r O'=>r=.cN [.v (.int .i64 s.size),.v .nilIface]∧O'=ph O hd bf m (l++s.data.toList) key):=by
 refine⟨⟨_,Tryz.func118,by kernel_rfl,by kernel_rfl⟩,fun g vs hg xu ha=>?_⟩;subst xu;obtain⟨u,x,rfl,hu,hx⟩:=vJ ha;obtain⟨rfl,_⟩:=hx.b6;obtain⟨l1,p,v,rfl,he,gy,di,hp,hv⟩:=y3 hg ho hb hu;refine(vB l1.block p v l s g.w di hp hv.1 hlen).mono ?_;rintro e w' ⟨rfl,v',q1,q2,q3,q4⟩;have xw:(l++s.data.toList).length=l.length+s.size:=by
  rw[List.length_append,Array.length_toList];rfl
 have wJ:Lib.byteCells (l++s.data.toList)=Lib.byteCells l++Lib.strCells s:=by rw[Lib.byteCells_append];rfl
 obtain⟨g',e1,e2,e3,e4⟩:=y4 (l':=l++s.data.toList) hg ho hb he gy di hv q1 (.inr rfl) (by rw[xw,wJ];exact q2) q3.os q3.tape q3.output q3.size q3.block q4;refine⟨g',_,_,rfl,e1,e2,e3,?_,rfl,e4⟩;refine .cN rfl fun i c u hc hu=>?_
 match i,hc,hu with
 | 0,hc,hu =>
  simp at hc hu;subst hc;subst hu;exact .v ⟨by show(-9223372036854775808:Int)<=_;omega,by show _<=(9223372036854775807:Int);omega⟩
 | 1,hc,hu =>
  simp at hc hu;subst hc;subst hu;exact .v trivial
 | i+2,hc,hu=>simp at hc
theorem vR{O:List aq}{hd bf m:Nat}{l:List UInt8}{key:Value}(c:UInt8)(ho:O[hd]?=some (Kt hd bf m l key))(hb:O[bf]?=some (.spare m))(hlen:l.length+1<=2 ^ 40) :
  aK Tryz.prog 120 O [.mp hd 0,.v (.int .u8 c.toNat)] (fun r O'=>r=.v .nilIface∧O'=ph O hd bf m (l++[c]) key):=by
 refine⟨⟨_,Tryz.func120,by kernel_rfl,by kernel_rfl⟩,fun g vs hg xu ha=>?_⟩;subst xu;obtain⟨u,x,rfl,hu,hx⟩:=vJ ha;obtain⟨rfl,_⟩:=hx.b6;obtain⟨l1,p,v,rfl,he,gy,di,hp,hv⟩:=y3 hg ho hb hu;refine(y5 l1.block p v l c.toNat g.w di hp hv.1 hlen).mono ?_;rintro e w' ⟨rfl,v',q1,q2,q3,q4⟩;have wJ:Lib.byteCells (l++[c])=Lib.byteCells l++[.int .u8 c.toNat]:=by rw[Lib.byteCells_append];rfl
 obtain⟨g',e1,e2,e3,e4⟩:=y4 (l':=l++[c]) hg ho hb he gy di hv q1 (.inr rfl) (by rw[wJ,List.length_append];exact q2) q3.os q3.tape q3.output q3.size q3.block q4;exact⟨g',_,_,rfl,e1,e2,e3,.v trivial,rfl,e4⟩
theorem sN{O:List aq}{hd bf m:Nat}{l:List UInt8}{key:Value}(ho:O[hd]?=some (Kt hd bf m l key))(hb:O[bf]?=some (.spare m))(h0:l≠[]) :
  aK Tryz.prog 121 O [.mp hd 0] (fun r O'=>r=.v (.string ⟨l.toArray⟩)∧O'=ph O hd bf m l key):=by
 refine⟨⟨_,Tryz.func121,by kernel_rfl,by kernel_rfl⟩,fun g vs hg xu ha=>?_⟩;subst xu;obtain⟨u,rfl,hu⟩:=Ep ha;obtain⟨l1,p,v,rfl,he,gy,di,hp,hv⟩:=y3 hg ho hb hu;refine(F3 l1.block p v l g.w di hv.1 h0).mono ?_;rintro e w' ⟨rfl,q1,q2,q3⟩;obtain⟨g',e1,e2,e3,e4⟩:=y4 (l':=l) hg ho hb he gy di hv q1 hp q2 q3.os q3.tape q3.output q3.size q3.block (fun k hk=>.inl hk);exact⟨g',_,_,rfl,e1,e2,e3,.v trivial,rfl,e4⟩
def pO(x0 x1 x2 x4 x5 x6:aq)(L:List cQ):List aq:=[.gone,.gone,.gone,.gone,.gone,.gone,x0,x1,x2,.map .str (jf 0 L),x4,x5,x6,.cells [.aB 4 (L.map cQ.enc) (.tok 14),.mm 9,.mm 10,.mm 11,.mm 12],.spare L.length]
def i64(n:Int):Prop:=-9223372036854775808<=n∧n<=9223372036854775807
theorem rK(k:Nat):∀(L:List cQ) (i:Nat),ba k (jf i L)
 | [],_=>trivial
 | _::r,i=>⟨trivial,rK k r (i+1)⟩
theorem cQ.aj(k:Nat)(L:List cQ):av k (L.map cQ.enc):=by
 rw[a6];intro x hx;obtain⟨y,_,rfl⟩:=List.mem_map.1 hx;exact⟨trivial,trivial,⟨ay _ _,trivial⟩,trivial,trivial⟩
theorem bA{x0 x1 x2 x4 x5 x6:aq}(hx:∀o∈[x0,x1,x2,x4,x5,x6],o.upto 15)(L:List cQ):∀o∈pO x0 x1 x2 x4 x5 x6 L,o.upto 15:=fun o ho=>by
 simp only[pO,List.mem_cons,List.not_mem_nil,or_false]at ho;rcases ho with rfl|rfl|rfl|rfl|rfl|rfl|rfl|rfl|rfl|rfl|rfl|rfl|rfl|rfl|rfl
 iterate 6 trivial
 ·exact hx _ (by simp)
 ·exact hx _ (by simp)
 ·exact hx _ (by simp)
 ·exact rK 15 L 0
 ·exact hx _ (by simp)
 ·exact hx _ (by simp)
 ·exact hx _ (by simp)
 ·exact⟨⟨cQ.aj _ _,show 14<15 by decide⟩,show 9<15 by decide,show 10<15 by decide,show 11<15 by decide,show 12<15 by decide,trivial⟩
 trivial
theorem DT(u:Nat):∀k:Nat,u<10 ^ (k+1)->(Lib.decDigits u).length<=k+1:=fun k=>by
 induction k generalizing u with
 | zero =>
  intro h;rw[iQ (by simpa using h)];simp
 | succ k ih =>
  intro h;by_cases hu:u<10
  ·rw[iQ hu];simp
  rw[lO hu,List.length_append,List.length_singleton];have:=ih (u / 10) (by rw[Nat.pow_succ]at h;omega);omega
theorem AW(n:Int)(h:i64 n):(Lib.itoa n).length<=20:=by
 obtain⟨h0,h1⟩:=h;unfold Lib.itoa;split
 ·rw[List.length_cons];have:=DT n.natAbs 18 (by omega)
  simp_all
 exact Nat.le_trans (DT _ 18 (by omega)) (by omega)
theorem Ej:∀(l:List Int),(∀k∈l,i64 k)->(jj l).length<=21*l.length
 | [],_=>by simp[jj]
 | x::l,h=>by
  have h1:=Ej l (fun k hk=>h k (List.mem_cons_of_mem _ hk));have h2:=AW x (h x List.mem_cons_self);simp only[jj,List.flatMap_cons,List.length_append,List.length_cons,List.length_nil]at h1 ⊢;omega
theorem aH:rQ Tryz.prog 9=some .str:=by
 unfold rQ;rw[Tryz.underlying9]
theorem vA{O:List aq}{n hd bf m:Nat}{l:List UInt8}{key:Value}:∀i,i<n->i ∉ [bf,hd]->(ph O hd bf m l key)[i]?=O[i]?:=fun i _ h=>by
 have h1:¬bf=i:=fun e=>h (by simp[e]);have h2:¬hd=i:=fun e=>h (by simp[e]);rw[ph,List.getElem?_set_ne h2,List.getElem?_set_ne h1]
theorem RF:BS Tryz.prog:=Tryz.zeroValue212
theorem lE(x0 x1 x2 x4 x5 x6:aq)(L:List cQ)(op n:Int)(args:List Int)(hn:args.length<=1000000)(Pv:∀k∈op::n::args,i64 k)(nB:∀(i:Nat)(a:Int),args[i]?=some a->op≠201∨i % 2=1->∃(j:Nat)(x:cQ),a=j∧L[j]?=some x)(hL:L.length<=1000000000)(hx:∀o∈[x0,x1,x2,x4,x5,x6],o.upto 15) :
  aK Tryz.prog 75 (pO x0 x1 x2 x4 x5 x6 L) [.mp 13 0,aI op,aI n,bp args] fun r O'=>r=aI (dC L op n args).1∧O'=pO x0 x1 x2 x4 x5 x6 (dC L op n args).2:=by
 unfold pO;refine zf true 15 Tryz.func75 Tryz.ntmps75 ?_;dsimp only[Tmp,TypeId,slotsOf];refine az (ai ?_);refine az ?_;refine⟨RF,?_⟩;refine ai ?_;refine bS ?_
 repeat(refine⟨by omega,?_⟩)
 refine ai ?_;obtain⟨K,hK⟩:∃K,K=op::n::args:=⟨_,rfl⟩
 have YU:K.length=args.length+1+1:=by rw[hK];rfl
 rw[<-hK]at Pv;refine ah (a8 (ι:={i:Nat // i<=K.length}) (fun p=>⟨106,[(0,.mp 13 0),(1,aI op),(2,aI n),(3,bp args),(8,aI 0),(9,.mp 16 0),(21,.aB 1 (K.map aI) .sh),(22,aI K.length),(23,aI p.1)],[.gone,.gone,.gone,.gone,.gone,.gone,x0,x1,x2,.map .str (jf 0 L),x4,x5,x6,.cells [.aB 4 (L.map cQ.enc) (.tok 14),.mm 9,.mm 10,.mm 11,.mm 12],.spare L.length,.spare (2*p.1),.map (.sb 15 (2*p.1) (jj (K.take p.1))) [(.bool false,.mp 16 0)],.spare (2+args.length)]⟩) (fun p=>K.length-p.1) ⟨0,by omega⟩ ?_ ?_)
 ·refine zq rfl ?_ ?_;simp -dsimp only[simprocAttr,↓I,zp,zc]
  ·subst hK;exact⟨Sub.sh rfl,Sub.refl _⟩
  rfl
 rintro⟨i,hi⟩;refine az (ai ?_);apply fK rfl<;>intro h
 ·refine bZ ?_;have Ve:i<K.length:=by simpa using h
  obtain⟨k,hk⟩:∃k,K[i]?=some k:=⟨K[i],by simp[Ve]⟩
  have Vi:=Pv k (List.mem_of_getElem? hk);refine aL (ah ?_);refine aG ?_;simp -dsimp only[simprocAttr,↓I,zp,hk];refine ai ?_;refine az ?_;refine zi (Fx k Vi.1 Vi.2) ?_;have RW:(jj (K.take i)).length<=21*1000002:=by
   have:=Ej (K.take i) (fun k hk=>Pv k (List.mem_of_mem_take hk));rw[List.length_take]at this;omega
  have sx:(Lib.itoa k).length<=20:=AW k Vi;have c7:(qP k).size=(Lib.itoa k).length:=rfl;have Ke:(qP k).data.toList=Lib.itoa k:=rfl;have hlen:(jj (K.take i)).length+(qP k).size<=2 ^ 40:=by omega
  refine .inr (.inl ⟨_,_,(sc (hd:=16) (bf:=15) (m:=2*i) (l:=jj (K.take i)) (key:=.bool false) (qP k) rfl rfl hlen),.inl (ae ?_)⟩);simp -dsimp only[simprocAttr,↓I,zp,ph,Kt];refine ai ?_;refine dw hT hm ?_;simp -dsimp only[simprocAttr,↓I,zp];have S':(jj (K.take i)++(qP k).data.toList).length+1<=2 ^ 40:=by
   rw[List.length_append,Ke];omega
  refine .inr (.inl ⟨_,_,(vR (hd:=16) (bf:=15) (m:=2*i+1) (l:=jj (K.take i)++(qP k).data.toList) (key:=.bool false) 32 rfl rfl S'),.inl (ae ?_)⟩);simp -dsimp only[simprocAttr,↓I,zp,ph,Kt];refine ai ?_;refine dA ?_
  repeat(refine⟨by omega,?_⟩)
  refine kv ?_;have Fp:jj (K.take i)++((qP k).data.toList++[32])=jj (K.take (i+1)):=by
   rw[List.take_add_one,hk];simp[FA,qP]
  refine⟨⟨i+1,by omega⟩,by simp only;omega,?_⟩;refine zq rfl ?_ ?_;simp -dsimp only[simprocAttr,↓I,zp,zc]
  ·exact Sub.int (by simp)
  simp only;rw[Fp];rfl
 refine aN ?_;simp -dsimp only[bH,ne_eq,Nat.reduceEqDiff,reduceCtorEq];have Ve:i=K.length:=by simp at h;omega
 subst Ve;rw[List.take_length];subst hK;have Kk:jj (op::n::args)≠[]:=by simp[jj]
 have RX:(⟨(jj (op::n::args)).toArray⟩:ByteArray)=wR op n args:=rfl;have P0:=xj op n args L 0;rw[Nat.zero_add]at P0;refine bS ?_;refine .inr (.inl ⟨_,_,sN (hd:=16) (bf:=15) (m:=2*(args.length+1+1)) (l:=jj (op::n::args)) (key:=.bool false) rfl rfl Kk,.inr ⟨18,[15,16],vA,ae ?_⟩⟩);by_cases hq:j0 L op n args<L.length
 ·rw[if_pos hq]at P0;have hi:dC L op n args=(j0 L op n args,L):=by rw[dC,if_pos hq]
  rw[hi];simp -dsimp only[simprocAttr,↓I,zp,ph,Kt,RX,P0,aH];refine⟨trivial,?_⟩;refine⟨ob (by kernel_rfl),?_⟩;refine ai ?_;refine az (ai ?_);refine dS rfl ?_;refine az (ai ?_);refine ak ?_;simp -dsimp only[simprocAttr,↓I,zp,zr,Tryz.results75];exact bA hx L
 rw[if_neg hq]at P0;have hi:dC L op n args=(j0 L op n args,L++[⟨op,n,args,sF L op 0 args (if op=200 then n else 0)⟩]):=by rw[dC,if_neg hq]
 simp -dsimp only[simprocAttr,↓I,zp,ph,Kt,RX,P0,aH];refine⟨trivial,?_⟩;refine⟨ob (by kernel_rfl),?_⟩;refine ai ?_;refine az (ai ?_);apply aF rfl<;>intro h
 ·cases h
 refine bZ ?_;refine az ?_;refine zi (Cl args (by omega)) ?_;refine ai ?_;refine jb (⟨106,[(0,.mp 13 0),(1,aI op),(2,aI n),(3,bp args),(9,.mp 16 0),(14,.mp 18 0)],[.gone,.gone,.gone,.gone,.gone,.gone,x0,x1,x2,.map .str (jf 0 L),x4,x5,x6,.cells [.aB 4 (L.map cQ.enc) (.tok 14),.mm 9,.mm 10,.mm 11,.mm 12],.spare L.length,.spare (2*(args.length+1+1)+1),.map (.sb 15 (2*(args.length+1+1)+1) (jj (op::n::args))) [(.bool false,.mp 16 0)],.spare (2+args.length),.cells [aI op,aI n,bp args,aI (if op=200 then n else 0)]]⟩) ?_ ?_
 ·refine az (ai ?_);apply aF rfl<;>intro h
  ·have gz:op=200:=by simpa using h
   subst gz;refine dA ?_
   (refine aY ?_;simp -dsimp only[bH,ne_eq,Nat.reduceEqDiff,reduceCtorEq])
   refine zq rfl ?_ ?_;simp -dsimp only[simprocAttr,↓I,zp,zc];rfl
  refine bc ?_;refine zq rfl ?_ ?_;simp -dsimp only[simprocAttr,↓I,zp,zc];have gz:¬op=200:=by simpa using h
  simp only[if_neg gz]
 obtain⟨F,hF⟩:∃F,F=sF L op 0 args (if op=200 then n else 0):=⟨_,rfl⟩
 rw[<-hF]at hi;generalize (if op=200 then n else 0)=m0 at *;refine bS (ai ?_);refine ah (a8 (ι:={p:Nat×Int // p.1<=args.length∧F=sF L op p.1 (args.drop p.1) p.2}) (fun p=>⟨106,[(0,.mp 13 0),(1,aI op),(2,aI n),(3,bp args),(9,.mp 16 0),(14,.mp 18 0),(52,bp args),(53,aI args.length),(54,aI p.1.1)],[.gone,.gone,.gone,.gone,.gone,.gone,x0,x1,x2,.map .str (jf 0 L),x4,x5,x6,.cells [.aB 4 (L.map cQ.enc) (.tok 14),.mm 9,.mm 10,.mm 11,.mm 12],.spare L.length,.spare (2*(args.length+1+1)+1),.map (.sb 15 (2*(args.length+1+1)+1) (jj (op::n::args))) [(.bool false,.mp 16 0)],.spare (2+args.length),.cells [aI op,aI n,bp args,aI p.1.2]]⟩) (fun p=>args.length-p.1.1) ⟨(0,m0),by simp,hF⟩ ?_ ?_)
 ·refine zq rfl ?_ ?_;simp -dsimp only[simprocAttr,↓I,zp,zc];rfl
 rintro⟨⟨i,m⟩,Ki,hm⟩;simp only at Ki hm;refine az (ai ?_);apply fK rfl<;>intro h
 ·refine bZ ?_;have sx:i<args.length:=by simpa using h
  obtain⟨a,ha⟩:∃a,args[i]?=some a:=⟨args[i],by simp[sx]⟩
  have Wr:=nB i a ha;rw[dL ha]at hm;simp only[sF]at hm;refine aL (ah ?_);refine aG ?_;simp -dsimp only[simprocAttr,↓I,zp,ha];refine ai ?_;by_cases Hv:op=201
  ·have D3:decide (op=201)=true:=decide_eq_true Hv;by_cases Vq:i % 2=1
   ·rw[if_pos (.inr Vq)]at hm;have P5:(i:Int).tmod 2=1:=by
     rw[Int.tmod_eq_emod_of_nonneg (by omega)];omega
    refine aG ?_;simp -dsimp only[simprocAttr,↓I,zp,D3,P5]
    repeat(refine⟨by omega,?_⟩)
    refine ai ?_;apply aF rfl<;>intro h;rotate_left
    ·simp at h
    obtain⟨j,x,rfl,hx⟩:=Wr (.inr Vq);have Gw:(L.map cQ.enc)[j]?=some (.agg [aI x.op,aI x.n,bp x.args,aI x.late]):=by simp[hx,cQ.enc]
    rw[Int.toNat_natCast,hx]at hm;simp only[Option.map_some,Option.getD_some]at hm;refine fE ?_;simp -dsimp only[simprocAttr,↓I,zp,Gw];refine⟨ob (by kernel_rfl),?_⟩;refine ai ?_;refine dA ?_
    repeat(refine⟨by omega,?_⟩)
    refine kv ?_;refine⟨⟨(i+1,_),by simp only;omega,hm⟩,by simp only;omega,?_⟩;refine zq rfl ?_ ?_;simp -dsimp only[simprocAttr,↓I,zp,zc]
    ·exact Sub.int (by simp)
    rfl
   rw[if_neg (by rintro(q|q);exact q Hv;exact Vq q)]at hm;have P5:(i:Int).tmod 2=0:=by
    rw[Int.tmod_eq_emod_of_nonneg (by omega)];omega
   refine aG ?_;simp -dsimp only[simprocAttr,↓I,zp,D3,P5]
   repeat(refine⟨by omega,?_⟩)
   refine ai ?_;apply aF rfl<;>intro h
   ·simp at h
   refine k7 ?_;refine dA ?_
   repeat(refine⟨by omega,?_⟩)
   refine kv ?_;refine⟨⟨(i+1,_),by simp only;omega,hm⟩,by simp only;omega,?_⟩;refine zq rfl ?_ ?_;simp -dsimp only[simprocAttr,↓I,zp,zc]
   ·exact Sub.int (by simp)
   rfl
  rw[if_pos (.inl Hv)]at hm;have D3:decide (op=201)=false:=decide_eq_false Hv;refine aG ?_;simp -dsimp only[simprocAttr,↓I,zp,D3];refine ai ?_;apply aF rfl<;>intro h;rotate_left
  ·cases h
  obtain⟨j,x,rfl,hx⟩:=Wr (.inl Hv);have Gw:(L.map cQ.enc)[j]?=some (.agg [aI x.op,aI x.n,bp x.args,aI x.late]):=by simp[hx,cQ.enc]
  rw[Int.toNat_natCast,hx]at hm;simp only[Option.map_some,Option.getD_some]at hm;refine fE ?_;simp -dsimp only[simprocAttr,↓I,zp,Gw];refine⟨ob (by kernel_rfl),?_⟩;refine ai ?_;refine dA ?_
  repeat(refine⟨by omega,?_⟩)
  refine kv ?_;refine⟨⟨(i+1,_),by simp only;omega,hm⟩,by simp only;omega,?_⟩;refine zq rfl ?_ ?_;simp -dsimp only[simprocAttr,↓I,zp,zc]
  ·exact Sub.int (by simp)
  rfl
 refine aN ?_;simp -dsimp only[bH,ne_eq,Nat.reduceEqDiff,reduceCtorEq];have sx:i=args.length:=by simp at h;omega
 subst sx;rw[List.drop_length]at hm;simp only[sF]at hm;subst hm;have wN:=Al op n args F L 0 hq;rw[Nat.zero_add]at wN;refine az ?_
 repeat(refine⟨by omega,?_⟩)
 refine⟨ob (by kernel_rfl),?_⟩;refine ai ?_;refine az ?_;refine .inr (.inl ⟨_,_,sN (hd:=16) (bf:=15) (m:=2*(args.length+1+1)+1) (l:=jj (op::n::args)) (key:=.bool false) rfl rfl Kk,.inr ⟨19,[15,16],vA,ae ?_⟩⟩);have CP:((L.length+1:Nat):Int)-1=L.length:=by omega
 simp -dsimp only[simprocAttr,↓I,zp,ph,Kt,RX,aH,wN,List.length_append,List.length_map,CP]
 repeat(refine⟨by omega,?_⟩)
 refine⟨trivial,?_⟩;refine⟨ob (by kernel_rfl),?_⟩;refine ai ?_;have Yg:j0 L op n args=L.length:=by have:=yI L op n args;omega
 have Te:L.map cQ.enc++[.agg [aI op,aI n,bp args,aI F]]=(L++[(⟨op,n,args,F⟩:cQ)]).map cQ.enc:=by simp[cQ.enc]
 refine aG ?_;simp -dsimp only[simprocAttr,↓I,zp,CP,List.length_append,List.length_map]
 repeat(refine⟨by omega,?_⟩)
 refine ai ?_;refine ak ?_;simp -dsimp only[simprocAttr,↓I,zp,zr,Tryz.results75,hi,Yg];have aW:=bA hx (L++[(⟨op,n,args,F⟩:cQ)]);unfold pO at aW;rw[<-Te,List.length_append]at aW;exact⟨aW,by rw[<-Te]⟩
theorem aK.args{P:Program}{f:FuncId}{O:List aq}{args args':List aa}{R:aa->List aq->Prop}(h:aK P f O args R)(hl:args'.length=args.length)(hs:∀(j:Nat)(c d:aa),args'[j]?=some c->args[j]?=some d->Sub O c d):aK P f O args' R :=
 ⟨h.1,fun g vs hg ho ha=>h.2 g vs hg ho ⟨ha.1.trans hl,fun j d u hd hu=>by
  obtain⟨c,hc⟩:∃c,args'[j]?=some c:=⟨args'[j]'(by have:=ag hd;omega),List.getElem?_eq_getElem _⟩
  exact hs j c d hc hd g u ho (ha.2 j c u hc hu)⟩⟩
theorem aK.iL{P:Program}{f:FuncId}{O:List aq}{args:List aa}{R:aa->List aq->Prop}(h:aK P f O (args.map aa.share) R):aK P f O args R :=
 aK.args h (List.length_map _).symm fun j c d hc hd=>by
  rw[List.getElem?_map,hc]at hd;simp only[Option.map_some,Option.some.injEq]at hd;exact Sub.share hd
theorem u6(x0 x1 x2 x4 x5 x6:aq)(L:List cQ)(op n:Int)(h1:i64 op)(h2:i64 n)(hL:L.length<=1000000000)(hx:∀o∈[x0,x1,x2,x4,x5,x6],o.upto 15) :
  aK Tryz.prog 75 (pO x0 x1 x2 x4 x5 x6 L) [.mp 13 0,aI op,aI n,.v (.slice none 0 0)] fun r O'=>r=aI (dC L op n []).1∧O'=pO x0 x1 x2 x4 x5 x6 (dC L op n []).2 :=
 aK.args (lE x0 x1 x2 x4 x5 x6 L op n [] (by simp) (by intro k hk;simp at hk;rcases hk with rfl|rfl<;>assumption) (by simp) hL hx) rfl (fun j c d hc hd=>by
  match j,hc,hd with
  | 0,hc,hd=>simp at hc hd;subst hc;subst hd;exact Sub.refl _
  | 1,hc,hd=>simp at hc hd;subst hc;subst hd;exact Sub.refl _
  | 2,hc,hd=>simp at hc hd;subst hc;subst hd;exact Sub.refl _
  | 3,hc,hd=>simp at hc hd;subst hc;subst hd;exact Sub.nil rfl (fun _ h=>by cases h) (fun h=>by cases h)
  | j+4,hc,hd=>simp at hc)
theorem mR(x0 x1 x2 x4 x5 x6:aq)(L:List cQ)(n:Int)(h2:i64 n)(hL:L.length<=1000000000)(hx:∀o∈[x0,x1,x2,x4,x5,x6],o.upto 15) :
  aK Tryz.prog 83 (pO x0 x1 x2 x4 x5 x6 L) [.mp 13 0,aI n] fun r O'=>r=aI (dC L 0 n []).1∧O'=pO x0 x1 x2 x4 x5 x6 (dC L 0 n []).2:=by
 have hi:=u6 x0 x1 x2 x4 x5 x6 L 0 n (by unfold i64;omega) h2 hL hx;have aW:=bA hx (dC L 0 n []).2;unfold pO at hi aW ⊢;refine zf true 15 Tryz.func83 Tryz.ntmps83 ?_;dsimp only[Tmp,TypeId,slotsOf];refine az (ai ?_);refine az ?_;refine .inr (.inl ⟨_,_,hi,.inl (ae (zj ?_))⟩);refine ai ?_;refine ak ?_;simp -dsimp only[simprocAttr,↓I,zp,zr,Tryz.results83];exact aW
theorem qV(x0 x1 x2 x4 x5 x6:aq)(L:List cQ)(hL:L.length<=1000000000)(hx:∀o∈[x0,x1,x2,x4,x5,x6],o.upto 15) :
  aK Tryz.prog 42 (pO x0 x1 x2 x4 x5 x6 L) [.mp 13 0] fun r O'=>r=aI (dC L 200 (L.length+1:Nat) []).1∧O'=pO x0 x1 x2 x4 x5 x6 (dC L 200 (L.length+1:Nat) []).2:=by
 have hi:=u6 x0 x1 x2 x4 x5 x6 L 200 (L.length+1:Nat) (by unfold i64;omega) (by unfold i64;omega) hL hx;have aW:=bA hx (dC L 200 (L.length+1:Nat) []).2;have e1:((L.length:Nat):Int)+1=(L.length+1:Nat):=rfl;unfold pO at hi aW ⊢;refine zf true 15 Tryz.func42 Tryz.ntmps42 ?_;dsimp only[Tmp,TypeId,slotsOf];refine az (ai ?_);refine aG ?_;simp -dsimp only[simprocAttr,↓I,zp,List.length_map]
 repeat(refine⟨by omega,?_⟩)
 rw[e1];refine .inr (.inl ⟨_,_,hi,.inl (ae (zj ?_))⟩);refine ai ?_;refine ak ?_;simp -dsimp only[simprocAttr,↓I,zp,zr,Tryz.results42];exact aW
def AZ:Go.Shelf.Ren:=⟨fun|125=>195|128=>212|129=>199|n=>n,fun|3=>3|4=>4|5=>5|9=>9|46=>283|51=>288|53=>158|n=>n,fun n=>n⟩
theorem Lw:Go.Proofs.Lays.n125 Tryz.prog AZ:={
 mixed:=by kernel_rfl,
 f125:=Tryz.func195.trans (congrArg some (by kernel_rfl)),
 f128:=Tryz.func212.trans (congrArg some (by kernel_rfl)),
 f129:=Tryz.func199.trans (congrArg some (by kernel_rfl)),
 t3:=Tryz.underlying3,
 a3:=Tryz.isAgg3,
 z3:=Tryz.sizeOf3,
 v3:=Tryz.zeroValue3,
 t4:=Tryz.underlying4,
 a4:=Tryz.isAgg4,
 z4:=Tryz.sizeOf4,
 v4:=Tryz.zeroValue4,
 t5:=Tryz.underlying5,
 a5:=Tryz.isAgg5,
 z5:=Tryz.sizeOf5,
 v5:=Tryz.zeroValue5,
 t9:=Tryz.underlying9,
 a9:=Tryz.isAgg9,
 z9:=Tryz.sizeOf9,
 v9:=Tryz.zeroValue9,
 t46:=Tryz.underlying283,
 a46:=Tryz.isAgg283,
 z46:=Tryz.sizeOf283,
 v46:=Tryz.zeroValue283,
 t51:=Tryz.underlying288,
 a51:=Tryz.isAgg288,
 z51:=Tryz.sizeOf288,
 v51:=Tryz.zeroValue288,
 t53:=Tryz.underlying158,
 a53:=Tryz.isAgg158,
 z53:=Tryz.sizeOf158,
 v53:=Tryz.zeroValue158 }
def eQ(l:List Int):List aa:=l.map fun p=>.agg [aI p,aI 1]
theorem aU(n:Nat)(l:List Int):av n (eQ l):=by
 rw[a6];intro x hx;obtain⟨y,_,rfl⟩:=List.mem_map.1 hx;exact⟨trivial,trivial,trivial⟩
theorem pG(l:List Int):(eQ l).length=l.length:=List.length_map _
theorem pF{l:List Int}{i:Nat}{p:Int}(h:l[i]?=some p):(eQ l)[i]?=some (.agg [aI p,aI 1]):=by simp[eQ,h]
theorem uH(l:List Int):(eQ l).map aa.share=eQ l:=by
 unfold eQ;rw[List.map_map];rfl
theorem G5(p q:Int):bw Tryz.prog 186 [.agg [aI p,aI 1],.agg [aI q,aI 1]] (aI 0):=by
 refine zf true 0 Tryz.func186 Tryz.ntmps186 ?_;dsimp only[Tmp,TypeId,slotsOf];refine az (ai ?_);refine az (ai ?_);refine ak ?_;simp -dsimp only[simprocAttr,↓I,zp,zr,Tryz.results186]
theorem Gl(p:Int):bw Tryz.prog 188 [.agg [aI p,aI 1]] (.v (.bool (decide (p=0)))):=by
 refine zf true 0 Tryz.func188 Tryz.ntmps188 ?_;dsimp only[Tmp,TypeId,slotsOf];refine az (ai ?_);refine az (ai ?_);refine ak ?_;simp -dsimp only[simprocAttr,↓I,zp,zr,Tryz.results188]
theorem r0{P:Program}{src dst:TypeId}{d:TypeDesc}(hs:P.underlying src=some d)(hd:P.underlying dst=some (.int .u64))(n:Nat)(hn:n<2 ^ 63)(w:World) :
  (convert src dst (.int .i64 n)).run P w=.ok (.int .u64 n) w:=by
 have hw:IntKind.u64.wrap n=n:=by
  rw[IntKind.wrap];simp[IntKind.bits,IntKind.signed];omega
 simp[convert,run_underlying hs,run_underlying hd,Conv.intToInt,hw]
theorem EP{P:Program}{o:Oper}{σ:St}{src dst:TypeId}{x:Operand}{d:TypeDesc}{n:Nat}(ho:o.op=.convert src dst x)(hd:∀d,o.dst=some d->d<σ.n)(hs:P.underlying src=some d)(ht:P.underlying dst=some (.int .u64))(hn:n<2 ^ 63)(hx:σ.ev x=some (aI n)) :
  Cert P o σ (.v (.int .u64 n)) .pure :=
 Cert.bW .pure (.inl rfl) hd fun a g _ h _=>by
  have ex:=(h x (by simp[ho,Op.operands]) _ hx).b6.1;refine⟨.int .u64 n,?_,.v ⟨?_,?_⟩⟩
  ·simp[execOp,ho,ex,r0 hs ht n hn]
  ·show(0:Int)<=_;omega
  show _<=(18446744073709551615:Int);omega
theorem yJ(l:List Int)(hl:l.length<=12):bw Tryz.prog 213 [.aB 2 (eQ l) .sh,aI 0,aI l.length,.fn (.func 186) [] []] (.cN []):=by
 refine zf true 0 Tryz.func213 Tryz.ntmps213 ?_;dsimp only[Tmp,TypeId,slotsOf];refine az (ai ?_);refine ah (a8 (ι:={i:Nat // 1<=i∧(i<=l.length∨i=1)}) (fun p=>⟨53,[(0,.aB 2 (eQ l) .sh),(1,aI 0),(2,aI l.length),(3,.fn (.func 186) [] []),(8,aI p.1)],[]⟩) (fun p=>l.length-p.1) ⟨1,by omega⟩ ?_ ?_)
 ·refine zq rfl ?_ ?_;simp -dsimp only[simprocAttr,↓I,zp,zc];rfl
 rintro⟨i,hi⟩;refine bS (ai ?_);apply aF rfl<;>intro h
 ·refine bZ ?_;have sx:i<l.length:=by simpa using h
  refine aL (ah ?_);refine az (ai ?_);obtain⟨q,hq⟩:∃q,l[i]?=some q:=⟨l[i],by simp[sx]⟩
  obtain⟨r,hr⟩:∃r,l[i-1]?=some r:=⟨l[i-1]'(by omega),List.getElem?_eq_getElem _⟩
  have Tv:=pF hq;have AM:=pF hr;have Ki:(i:Int)-1=(i-1:Nat):=by omega
  refine ah (a8 (ι:=Unit) (fun _=>⟨53,[(0,.aB 2 (eQ l) .sh),(1,aI 0),(2,aI l.length),(3,.fn (.func 186) [] []),(8,aI i),(9,aI i)],[]⟩) (fun _=>0) () ?_ ?_)
  ·refine zq rfl ?_ ?_;simp -dsimp only[simprocAttr,↓I,zp,zc];rfl
  rintro⟨⟩;have pQ:decide ((0:Int)<(i:Int))=true:=by simp;omega
  refine bR ?_;simp -dsimp only[simprocAttr,↓I,zp,Tv,AM,Ki,pQ]
  repeat(refine⟨by omega,?_⟩)
  refine .inl ⟨_,G5 q r,by simp only[av,aa.upto,zt,zu,ay,aU],ae ?_⟩;simp -dsimp only[simprocAttr,↓I,zp];refine⟨ob (by kernel_rfl),?_⟩;refine ai ?_;refine cP rfl ?_;refine aN ?_;simp -dsimp only[bH,ne_eq,Nat.reduceEqDiff,reduceCtorEq];refine dA ?_
  repeat(refine⟨by omega,?_⟩)
  refine kv ?_;refine⟨⟨i+1,by omega⟩,by simp only;omega,?_⟩;refine zq rfl ?_ ?_;simp -dsimp only[simprocAttr,↓I,zp,zc]
  ·exact Sub.int (by simp)
  rfl
 refine aN ?_;simp -dsimp only[bH,ne_eq,Nat.reduceEqDiff,reduceCtorEq]
 skip
 simp -dsimp only[simprocAttr,↓I,zp,zr,Tryz.results213];trivial
theorem Ia(n:Nat)(hn:n<13):bw Tryz.prog 195 [.v (.int .u64 n)] (aI (Lib.bitLen n)):=by
 refine⟨⟨_,Tryz.func195,by kernel_rfl,by kernel_rfl⟩,fun g vs hg xu ha=>?_⟩;obtain⟨u,rfl,hu⟩:=Ep ha;obtain⟨rfl,_⟩:=hu.b6;refine(Any.bits_Len Lw n g.w (by omega) (by omega)).mono ?_;rintro e w' ⟨rfl,rfl⟩;have hb:∀n,n<13->Lib.bitLen n<=64:=by decide
 have:=hb n hn;exact⟨g,_,_,rfl,rfl,Le.refl g,hg,.v ⟨by show(-9223372036854775808:Int)<=_;omega,by show _<=(9223372036854775807:Int);simp only[Int.toNat_natCast];omega⟩,rfl,xu⟩
theorem FL(l:List Int)(hl:l.length<=12)(k:Nat):bw Tryz.prog 196 [.aB 2 (eQ l) .sh,aI 0,aI l.length,aI k,.fn (.func 186) [] []] (.cN []):=by
 refine zf true 0 Tryz.func196 Tryz.ntmps196 ?_;dsimp only[Tmp,TypeId,slotsOf];refine az (ai ?_);refine az (ai ?_);refine ah (a8 (ι:=Unit) (fun _=>⟨148,[(0,.aB 2 (eQ l) .sh),(1,aI 0),(2,aI l.length),(3,aI k),(4,.fn (.func 186) [] [])],[]⟩) (fun _=>0) () ?_ ?_)
 ·refine zq rfl ?_ ?_;simp -dsimp only[simprocAttr,↓I,zp,zc];rfl
 rintro⟨⟩;refine ah ?_;refine az ?_
 repeat(refine⟨by omega,?_⟩)
 refine ai ?_;refine bS (ai ?_);apply aF rfl<;>intro h;rotate_left
 ·simp at h;omega
 refine az ?_;refine .inl ⟨_,yJ l hl,by simp only[av,aa.upto,zt,zu,ay,aU],ae ?_⟩;simp -dsimp only[simprocAttr,↓I,zp];refine ai ?_;refine ak ?_;simp -dsimp only[simprocAttr,↓I,zp,zr,Tryz.results196];trivial
theorem vC(l:List Int)(hl:l.length<=12):bw Tryz.prog 185 [.aB 2 (eQ l) .sh,.fn (.func 186) [] []] (.cN []):=by
 have e:=pG l;refine zf true 0 Tryz.func185 Tryz.ntmps185 ?_;dsimp only[Tmp,TypeId,slotsOf];refine aG ?_;simp -dsimp only[simprocAttr,↓I,zp,e];refine ai ?_;refine mE ⟨false,false⟩ hT 3 rfl rfl rfl (by simp) ?_;simp -dsimp only[simprocAttr,↓I,zp];refine⟨_,_,EP (n:=l.length) rfl (by simp) Tryz.underlying3 Tryz.underlying283 (by omega) rfl,?_⟩;simp -dsimp only[simprocAttr,↓I,zp];refine .inl ⟨_,Ia l.length (by omega),by simp only[av,aa.upto,zt,zu,ay,aU],ae ?_⟩;simp -dsimp only[simprocAttr,↓I,zp];refine .inl ⟨_,FL l hl (Lib.bitLen l.length),by simp only[av,aa.upto,zt,zu,ay,aU],ae ?_⟩;simp -dsimp only[simprocAttr,↓I,zp];refine aY ?_;simp -dsimp only[simprocAttr,↓I,zp,zr,Tryz.results185];trivial
theorem kA{L:List cQ}{t:Nat}{x:cQ}(h:L[t]?=some x):(L.map cQ.enc)[t]?=some (.agg [aI x.op,aI x.n,bp x.args,aI x.late]):=by simp[h,cQ.enc]
theorem kY(x0 x1 x2 x4 x5 x6:aq)(L:List cQ){t:Nat}{p q:Int}(h:lY L t p q)(hx:∀o∈[x0,x1,x2,x4,x5,x6],o.upto 15) :
  aK Tryz.prog 162 (pO x0 x1 x2 x4 x5 x6 L) [.mp 13 0,aI t] fun r O'=>r=.agg [aI q,.aB 2 (eQ (lp p)) .sh]∧O'=pO x0 x1 x2 x4 x5 x6 L:=by
 have aW:=bA hx L;unfold pO at aW ⊢;cases h with
 | int h =>
  have hg:=kA h;refine zf true 15 Tryz.func162 Tryz.ntmps162 ?_;dsimp only[Tmp,TypeId,slotsOf];refine az (ai ?_);refine aG ?_;simp -dsimp only[simprocAttr,↓I,zp,hg];refine ai ?_;refine bS (ai ?_);refine ah ?_;refine az (ai ?_);apply aF rfl<;>intro h;rotate_left
  ·cases h
  refine az (ai ?_);refine ak ?_;simp -dsimp only[simprocAttr,↓I,zp,zr,Tryz.results162];exact⟨aW,by simp[av,aa.upto],by simp[lp,eQ]⟩
 | var h =>
  have hg:=kA h;refine zf true 15 Tryz.func162 Tryz.ntmps162 ?_;dsimp only[Tmp,TypeId,slotsOf];refine az (ai ?_);refine aG ?_;simp -dsimp only[simprocAttr,↓I,zp,hg];refine ai ?_;refine bS (ai ?_);refine ah ?_;refine az (ai ?_);apply aF rfl<;>intro h
  ·cases h
  refine az (ai ?_);apply aF rfl<;>intro h
  ·cases h
  refine k7 ?_;refine az (ai ?_);refine ak ?_;simp -dsimp only[simprocAttr,↓I,zp,zr,Tryz.results162];exact⟨aW,by simp[av,aa.upto],by simp[lp,eQ]⟩
 | sum hp hn h =>
  rename_i late;have hg:=kA h;refine zf true 15 Tryz.func162 Tryz.ntmps162 ?_;dsimp only[Tmp,TypeId,slotsOf];refine az (ai ?_);refine aG ?_;simp -dsimp only[simprocAttr,↓I,zp,hg];refine ai ?_;refine bS (ai ?_);refine ah ?_;refine az (ai ?_);apply aF rfl<;>intro h
  ·cases h
  refine az (ai ?_);apply aF rfl<;>intro h;rotate_left
  ·cases h
  refine az (ai ?_);refine bS (ai ?_);refine ah (a8 (ι:=Bool) (fun b=>cond b ⟨56,[(0,.mp 13 0),(1,aI t),(4,.mp 15 0),(5,.mp 16 0),(6,.mp 17 0),(7,aI 2)],[.gone,.gone,.gone,.gone,.gone,.gone,x0,x1,x2,.map .str (jf 0 L),x4,x5,x6,.cells [.aB 4 (L.map cQ.enc) (.tok 14),.mm 9,.mm 10,.mm 11,.mm 12],.spare L.length,.cells [aI 0,.aB 2 [] .ex],.cells [aI 201,aI q,bp [p,1],aI late],.cells [aI q,.aB 2 [.agg [aI p,aI 1]] (.tok 18)],.spare 1]⟩ ⟨56,[(0,.mp 13 0),(1,aI t),(4,.mp 15 0),(5,.mp 16 0),(6,.mp 17 0),(7,aI 0)],[.gone,.gone,.gone,.gone,.gone,.gone,x0,x1,x2,.map .str (jf 0 L),x4,x5,x6,.cells [.aB 4 (L.map cQ.enc) (.tok 14),.mm 9,.mm 10,.mm 11,.mm 12],.spare L.length,.cells [aI 0,.aB 2 [] .ex],.cells [aI 201,aI q,bp [p,1],aI late],.cells [aI q,.aB 2 [] .ex]]⟩) (fun b=>cond b 0 1) false ?_ ?_)
  ·refine zq rfl ?_ ?_;simp -dsimp only[simprocAttr,↓I,zp,zc,cond_false];rfl
  rintro(_|_)
  ·dsimp only[cond_false];refine bS (ai ?_);apply aF rfl<;>intro h;rotate_left
   ·cases h
   refine bZ ?_;refine aL (ah ?_);refine dw hT hm ?_;simp -dsimp only[simprocAttr,↓I,zp];refine⟨ob (by kernel_rfl),?_⟩;refine ai ?_;refine dA ?_
   repeat(refine⟨by omega,?_⟩)
   refine kv ?_;refine⟨true,by decide,?_⟩;refine zq rfl ?_ ?_;simp -dsimp only[simprocAttr,↓I,zp,zc,cond_true];rfl
  dsimp only[cond_true];refine bS (ai ?_);apply aF rfl<;>intro h
  ·cases h
  refine aN ?_;simp -dsimp only[bH,ne_eq,Nat.reduceEqDiff,reduceCtorEq];refine az (ai ?_);refine ak ?_;simp -dsimp only[simprocAttr,↓I,zp,zr,Tryz.results162];exact⟨aW,by simp[av,aa.upto],by simp[lp,eQ,hp]⟩
end Go.Proofs.YtocdpaifmnkoaaaGreatDoor
namespace Go.Av

def ry(aP:ee)(rv:List ResultVar)(R:aa->List aq->Prop):dT->St->Prop
 | .exit _,_=>False
 | _,σ=>on (eV aP σ rv) fun rs=>R (iu rs) σ.objs
theorem l8{P:Program}{aP:ee}(hT:b8 P aP){f:FuncId}{fn:Func}{c:Code}{O:List aq}{args:List aa}{R:aa->List aq->Prop}(hf:P.funcs[f]?=some fn)(hb:fn.body=some c)
  (AI : (fn.name == "runtime.NumGoroutine") = false) (hn : args.length <= fn.ntmps) (h : cG P O.length c (ry aP fn.results.toList R) ⟨fn.ntmps, slotsOf 0 args, O⟩) : aK P f O args R := by
 refine⟨⟨fn,hf,AI,by simp[hb]⟩,fun g vs hg ho ha=>?_⟩;refine calls_of_wp hf hb ?_;have bV:Rel g ⟨fn.ntmps,slotsOf 0 args,O⟩ { tmps:=vs++Array.replicate (fn.ntmps-vs.size) undef,defers:=[] } g:={
  le:=Le.refl g
  good:=hg
  objs:=ho
  size:=by
   have:=ha.1;simp only[Array.size_append,Array.size_replicate];omega
  defers:=rfl
  slot:=fun s x hx=>by
   obtain⟨_,h1⟩:=mO args 0 s x hx;simp only[Nat.sub_zero]at h1;have bd:=ag h1;have kg:s<vs.size:=by rw[ha.1];exact bd
   refine⟨vs[s],?_,ha.2 s x _ h1 (by simp[kg])⟩;simp only;rw[Array.getElem?_append,if_pos kg];simp[kg] }
 refine wp_mono (h g _ g (by rw[ho];exact Nat.le_refl _) bV) fun e a w hp=>?_;have key:∀g' fL,g'.w=w->Rel g fL a g'->(on (eV aP fL fn.results.toList) fun rs=>R (Av.iu rs) fL.objs) ->
   a.defers=[]∧∃v,(results fn a.tmps).run P w=.ok v w∧∃g' v' r,Ending.returned v=.returned v'∧g'.w=w∧Le g g'∧Good g'∧RV g' r v'∧R r g'.objs:=by
  intro g' fL hw hr hq;subst hw;obtain⟨rs,xy,h4⟩:=aE hq;obtain⟨us,q1,q2⟩:=mT hT hr xy;have hO:g'.objs=fL.objs:=hr.objs;refine⟨hr.defers,(if h:us.toArray.size=1 then us.toArray[0]else .tuple us.toArray),?_,g',_,_,rfl,rfl,hr.le,hr.good,RV.iu q2,by rw[hO];exact h4⟩;have hm:fn.results.mapM (kU a)=Functor.map List.toArray (fn.results.toList.mapM (kU a)):=Array.mapM_eq_mapM_toList;have eK:results fn a.tmps=(do
   let vs <-fn.results.mapM (kU a)
   pure (if h:vs.size=1 then vs[0]else .tuple vs)):=rfl
  rw[eK,hm];simp only[Sem.run_bind,Sem.run_map,q1,Result.andThen_ok,Sem.run_pure]
 cases e with
 | normal =>
  obtain⟨g',fL,h1,h2,h3⟩:=hp;exact key g' fL h1 h2 h3
 | ret =>
  obtain⟨g',fL,h1,h2,h3⟩:=hp;exact key g' fL h1 h2 h3
 | exit id =>
  obtain⟨g',fL,h1,h2,h3⟩:=hp;exact h3.elim
 | goto l=>exact hp.elim
 | panic c=>exact hp.elim
 | outgrown=>exact hp.elim


end Go.Av
