/-
  Texts bound together by a program of mine: YtjdnhamngpafmaaGreatT9, YtjdnhamngpafmaaGreatT10, YtjdnhamngpafmaaGreatT26, YtjdnhamngpafmaaGreatT11, YtjdnhamngpafmaaGreatT12, YtjdnhamngpafmaaGreatT13, YtjdnhamngpafmaaGreatT14, YtjdnhamngpafmaaGreatT15, YtjdnhamngpafmaaGreatT16, YtjdnhamngpafmaaGreatT17, YtjdnhamngpafmaaGreatT27, YtjdnhamngpafmaaGreatT28, YtjdnhamngpafmaaGreatT29, YtjdnhamngpafmaaGreatT31, YtjdnhamngpafmaaGreatT32, YtjdnhamngpafmaaGreatT33, YtjdnhamngpafmaaGreatPp, YtjdnhamngpafmaaGreatPq, YtjdnhamngpafmaaGreatT34, YtjdnhamngpafmaaGreatT35, YtjdnhamngpafmaaGreatPn, YtjdnhamngpafmaaGreatT36, YtjdnhamngpafmaaGreatPs, YtjdnhamngpafmaaGreatPt, YtjdnhamngpafmaaGreatT18, YtjdnhamngpafmaaGreatT19.
-/
import Derived.Test.YtjdnhamngpafmaaGreatA2
import Derived.Laws.Closers25b
set_option linter.all false
set_option maxRecDepth 100000
set_option maxHeartbeats 4000000

namespace Go.Proofs.YtjdnhamngpafmaaGreat
open Go.Av
theorem xE{op:Int}:∀{l r:List SV} {k:Nat} {x y:SV},l[k]?=some x->r[k]?=some y->jV op (l.take (k+1)) (r.take (k+1))=jV op (l.take k) (r.take k)++[(cX op x.n y.n).1]
 | a::l,b::r,0,x,y,h1,h2=>by
  simp only[List.getElem?_cons_zero,Option.some.injEq]at h1 h2;subst h1;subst h2;simp[jV]
 | a::l,b::r,k+1,x,y,h1,h2=>by
  have ih:=xE (op:=op) (l:=l) (r:=r) (k:=k) (by simpa using h1) (by simpa using h2);simp only[List.take_succ_cons,jV,List.cons_append];rw[ih]
theorem vl{op:Int}:∀(l r:List SV),(jV op l r).length=min l.length r.length
 | [],_=>by simp[jV]
 | _::_,[]=>by simp[jV]
 | a::l,b::r=>by simp[jV,vl l r]
theorem oG(k:Nat)(op a b:Int):SV.bc k (cX op a b).1:=by
 unfold cX
 repeat' split
 all_goals exact vk _ _
theorem pK{op:Int}{k:Nat}:∀(l r:List SV),∀v∈jV op l r,SV.bc k v
 | [],_,v,h=>by simp[jV]at h
 | _::_,[],v,h=>by simp[jV]at h
 | a::l,b::r,v,h=>by
  simp only[jV,List.mem_cons]at h;rcases h with rfl|h
  ·exact oG _ _ _ _
  exact pK l r v h
theorem BJ{O:List al}(br:∀o∈O,o.upto O.length)(i:Ins)(args:List SV)(hl:∀v∈args,SV.bc O.length v)(h1:i.op=24->∃x,args[0]?=some x)(h2:i.op≠22->i.op≠24->∃x y,args=[x,y])
  (hn:i.op=24->0<=i.n) (hw:∀v∈args,v.kind=4->v.list.length<=1000∧∀x∈v.list,fG x.n) :
  ba Tryz.prog 136 O [i.enc,.aB 4 (args.map SV.enc) .sh] (fun r O'=>r=.cK [(cY i args).1.enc,aI (cY i args).2]∧O'=O):=by
 have P0:∀l:List SV,ae.agg [aI 4,aI 0,.aB 4 (l.map SV.enc) .sh,.v (.pointer none)]=(SV.mk 4 0 l none).enc:=fun l=>(SV.jC 4 0 l none).symm;refine zf true O.length Tryz.func136 Tryz.ntmps136 ?_;dsimp only[Tmp,TypeId,slotsOf];refine ay (ah ?_);refine bU 2 0 ([aI i.to,aI i.op,aI i.n,aT i.args]) rfl rfl (by rfl) ?_;simp -dsimp only[simprocAttr,↓aa,zp];refine cb (ah ?_);refine ai ?_;refine ay (ah ?_);apply aM rfl<;>intro h
 ·have e:i.op=22:=by simpa using h
  refine cb ?_;refine .inr (.inr ⟨_,xI br args hl 0 _,an (zj ?_)⟩);refine ah ?_;cases cA:j5 args 0 with
  | true =>
   apply aM rfl<;>intro h
   ·simp[cA]at h
   refine cm ?_;refine ay (ah ?_);refine aq ?_;simp -dsimp only[simprocAttr,↓aa,zp,zr,Tryz.results136,P0];have hz:=(SV.bc.mk (k:=4) (m:=0) (a:=none) (by simp) hl).aL;rw[SV.jC]at hz;refine⟨br,⟨hz,trivial,trivial⟩,?_⟩;simp[cY,e,cA,SV.jC]
  | false =>
   apply aM rfl<;>intro h
   ·refine ay (ah ?_);refine aq ?_;simp -dsimp only[simprocAttr,↓aa,zp,zr,Tryz.results136,ck];refine⟨br,fg,?_⟩;simp[cY,e,cA]
   simp[cA]at h
 have K5:i.op≠22:=by simpa using h
 refine ay (ah ?_);apply aM rfl<;>intro h
 ·have e:i.op=24:=by simpa using h
  obtain⟨x,hx⟩:=h1 e;have qq:=fo hx;have AI:=hn e;have EZ:=hl x (List.mem_of_getElem? hx);by_cases hk:x.kind=4
  ·have hd:decide (x.kind=4)=true:=decide_eq_true hk;by_cases hlen:(x.list.length:Int)<=i.n
   ·have lZ:decide ((x.list.length:Int)<=i.n)=true:=decide_eq_true hlen;refine cJ ?_;simp -dsimp only[simprocAttr,↓aa,zp,hx,hd,lZ];refine⟨ob (by kernel_rfl),?_⟩;refine ah ?_;refine cN rfl ?_;refine ay (ah ?_);refine aq ?_;simp -dsimp only[simprocAttr,↓aa,zp,zr,Tryz.results136,ck];refine⟨br,fg,?_⟩;simp[cY,e,qq,hlen]
   have lZ:decide ((x.list.length:Int)<=i.n)=false:=decide_eq_false hlen;obtain⟨z,hz⟩:∃z,x.list[i.n.toNat]?=some z:=⟨x.list[i.n.toNat]'(by omega),List.getElem?_eq_getElem _⟩
   have ME:=mq EZ z (List.mem_of_getElem? hz);have Sz:=fo hz;refine cJ ?_;simp -dsimp only[simprocAttr,↓aa,zp,hx,hd,lZ];refine⟨ob (by kernel_rfl),?_⟩;refine ah ?_;refine cd rfl ?_;refine cm ?_;refine aS ?_;simp -dsimp only[simprocAttr,↓aa,zp,hx,hz]
   repeat(refine⟨by omega,?_⟩)
   refine⟨ob (by kernel_rfl),?_⟩;refine ah ?_;refine aq ?_;simp -dsimp only[simprocAttr,↓aa,zp,zr,Tryz.results136];refine⟨br,uU ME,?_⟩;simp[cY,e,qq,hlen,hk,Sz]
  have hd:decide (x.kind=4)=false:=decide_eq_false hk;refine cJ ?_;simp -dsimp only[simprocAttr,↓aa,zp,hx,hd];refine⟨ob (by kernel_rfl),?_⟩;refine ah ?_;refine cN rfl ?_;refine ay (ah ?_);refine aq ?_;simp -dsimp only[simprocAttr,↓aa,zp,zr,Tryz.results136,ck];refine⟨br,fg,?_⟩;simp[cY,e,qq,hk]
 have Oj:i.op≠24:=by simpa using h
 obtain⟨x,y,e⟩:=h2 K5 Oj;subst e;have cA:=xI br [x,y] hl 4;cases hk:j5 [x,y] 4 with
 | false =>
  simp only[hk,List.map_cons,List.map_nil]at cA;refine kA ?_;refine cb ?_;refine .inr (.inr ⟨_,cA _,an (zj ?_)⟩);refine⟨ob (by kernel_rfl),?_⟩;refine ah ?_;refine cN rfl ?_;refine ay (ah ?_);refine aq ?_;simp -dsimp only[simprocAttr,↓aa,zp,zr,Tryz.results136,ck];refine⟨br,fg,?_⟩;simp[cY,K5,Oj,hk]
 | true =>
  simp only[hk,List.map_cons,List.map_nil]at cA;by_cases hlen:x.list.length=y.list.length
  ·have hd:decide ((x.list.length:Int)=y.list.length)=true:=decide_eq_true (by omega);refine kA ?_;refine cb ?_;refine .inr (.inr ⟨_,cA _,an ?_⟩);simp -dsimp only[simprocAttr,↓aa,zp,hd];refine⟨ob (by kernel_rfl),?_⟩;refine ah ?_;apply aM rfl<;>intro h
   ·cases h
   refine cm ?_;refine ay (ah ?_);refine gS (O.length+2) 2 (by rw[kE];rfl) rfl ?_;simp -dsimp only[simprocAttr,↓aa,zp];refine cb (ah ?_);refine fp 68 rfl (fun Tc=>?_);simp only[List.length_map]at Tc;have gU:x.kind=4∧y.kind=4:=by simpa[j5]using hk
   obtain⟨OW,E0⟩:=hw x (by simp) gU.1;obtain⟨hyl,T5⟩:=hw y (by simp) gU.2;refine ai (aO (ι:={j:Nat // j<=x.list.length}) (fun j=>⟨99,[(1,.aB 4 [x.enc,y.enc] .sh),(2,.ip none [aI i.to,aI i.op,aI i.n,aT i.args]),(4,.mp (O.length+1) 0),(5,aI 0),(6,.mp (O.length+2) 0),(68,.aB 4 (x.list.map SV.enc) .sh),(69,aI x.list.length),(70,aI j.1)],O++[.gone,.cells [aI 0,aI 0,.aB 4 [] .ex,.v (.pointer none)],.cells [aI 4,aI 0,.aB 4 ((jV i.n (x.list.take j.1) (y.list.take j.1)).map SV.enc) (.tok (O.length+3)),.v (.pointer none)],.spare j.1]⟩) (fun j=>x.list.length-j.1) ⟨0,by omega⟩ ?_ ?_)
   ·refine zq rfl ?_ ?_;simp -dsimp only[simprocAttr,↓aa,zp,zc];simp[jV]
   rintro⟨j,hj⟩;have ta:(jV i.n (x.list.take j) (y.list.take j)).length=j:=by
    rw[vl,List.length_take,List.length_take];omega
   refine ay (ah ?_);apply ib rfl<;>intro h
   ·refine cm ?_;have aZ:j<x.list.length:=by simpa using h
    obtain⟨a,ha⟩:∃a,x.list[j]?=some a:=⟨x.list[j],by simp[aZ]⟩
    obtain⟨b,hb⟩:∃b,y.list[j]?=some b:=⟨y.list[j]'(by omega),List.getElem?_eq_getElem _⟩
    have Y7:=E0 a (List.mem_of_getElem? ha);have SF:=T5 b (List.mem_of_getElem? hb);refine aH (ai ?_);refine aS ?_;simp -dsimp only[simprocAttr,↓aa,zp,ha];refine ah ?_;refine bU 8 4 ([aI a.kind,aI a.n,.aB 4 (a.list.map SV.enc) .sh,eP a.arr]) rfl rfl (by simp only[List.map_cons,List.map_nil,cy,b8,dw,dx,dv,dt,du,cr]) ?_;simp -dsimp only[simprocAttr,↓aa,zp];refine aS ?_;simp -dsimp only[simprocAttr,↓aa,zp,hb];refine zi (rW i.n a.n b.n Y7 SF) ?_;refine⟨ob (by kernel_rfl),?_⟩;refine ah ?_;generalize hB:(cX i.n a.n b.n).1=B;refine bU 9 5 ([aI B.kind,aI B.n,.aB 4 (B.list.map SV.enc) .sh,eP B.arr]) rfl rfl (by simp only[List.map_cons,List.map_nil,cy,b8,dw,dx,dv,dt,du,cr]) ?_;simp -dsimp only[simprocAttr,↓aa,zp];refine j4 ?_;simp -dsimp only[simprocAttr,↓aa,zp,ta]
    repeat(refine⟨by omega,?_⟩)
    refine ah ?_;have yn:=xE (op:=i.n) ha hb;rw[hB]at yn;have EZ:=(hl x (by simp)).mono (show O.length<=O.length+4 by omega);have T4:=(hl y (by simp)).mono (show O.length<=O.length+4 by omega);have ME:=SV.ag (n:=O.length+4) (pK (op:=i.n) (x.list.take (j+1)) (y.list.take (j+1)));rw[yn,List.map_append,List.map_cons,List.map_nil]at ME;have WA:=SV.ag (mq EZ);refine En 4 ([.gone,.cells [aI 0,aI 0,.aB 4 [] .ex,.v (.pointer none)],.cells [aI 4,aI 0,.aB 4 ((jV i.n (x.list.take j) (y.list.take j)).map SV.enc++[B.enc]) (.tok (O.length+3)),.v (.pointer none)],.spare (j+1)]) [(1,.aB 4 [x.enc,y.enc] .sh),(2,.ip none [aI i.to,aI i.op,aI i.n,aT i.args]),(4,.mp (O.length+1) 0),(5,aI 0),(6,.mp (O.length+2) 0),(68,.aB 4 (x.list.map SV.enc) .sh),(69,aI x.list.length),(70,aI j)] rfl (by simp) (by omega) (by simp[bq,aY,Go.Av.look]) ?_ ?_ ?_ ?_
    ·exact fun o ho=>al.cE (by omega) (br o ho)
    ·simp[al.upto,au,ae.upto,ME]
    ·simp[au,ae.upto,av,EZ.aL,T4.aL,WA]
    refine cF ?_
    repeat(refine⟨by omega,?_⟩)
    refine fw ?_;refine⟨⟨j+1,aZ⟩,by simp;omega,?_⟩;refine zq rfl ?_ ?_;simp -dsimp only[simprocAttr,↓aa,zp,zc]
    ·exact Sub.int (by simp)
    simp only[yn,List.map_append,List.map_cons,List.map_nil]
   refine aG ?_;simp -dsimp only[bD,ne_eq,Nat.reduceEqDiff,reduceCtorEq];have ru:j=x.list.length:=by simp at h;omega
   subst ru;have hy:y.list.take x.list.length=y.list:=by rw[hlen,List.take_length]
   have hz:=(SV.bc.mk (k:=4) (m:=0) (a:=none) (n:=O.length) (l:=jV i.n x.list y.list) (by simp) (pK _ _)).aL;rw[SV.jC]at hz;refine ay (ah ?_);refine aq ?_;simp -dsimp only[simprocAttr,↓aa,zp,zr,Tryz.results136,hy];refine⟨br,⟨hz,trivial,trivial⟩,?_⟩;have en:bW [x,y] 0=x∧bW [x,y] 1=y:=⟨rfl,rfl⟩
   simp[cY,K5,Oj,hk,hlen,SV.jC,en,eP]
  have hd:decide ((x.list.length:Int)=y.list.length)=false:=decide_eq_false (by omega);refine kA ?_;refine cb ?_;refine .inr (.inr ⟨_,cA _,an ?_⟩);simp -dsimp only[simprocAttr,↓aa,zp,hd];refine⟨ob (by kernel_rfl),?_⟩;refine ah ?_;refine cN rfl ?_;refine ay (ah ?_);refine aq ?_;simp -dsimp only[simprocAttr,↓aa,zp,zr,Tryz.results136,ck];refine⟨br,fg,?_⟩;simp[cY,K5,Oj,hk,hlen,bW]
def m9(l:List Int)(n:Int):Int:=if l.findIdx (· == n)<l.length then(l.findIdx (· == n):Nat)else -1
theorem CV{l:List Int}{n:Int}{k:Nat}(hk:l[k]?=some n)(h:∀x∈l.take k,x≠n):l.findIdx (· == n)=k:=by
 have aZ:=I hk;have e:l=l.take k++n::l.drop (k+1):=by
  rw[List.getElem?_eq_getElem aZ]at hk;simp only[Option.some.injEq]at hk
  conv=>lhs;rw[<-List.take_append_drop k l,List.drop_eq_getElem_cons aZ,hk]
 have hn:(l.take k).findIdx (· == n)=(l.take k).length:=by
  rw[List.findIdx_eq_length];intro x hx;simpa using h x hx
 rw[e,List.findIdx_append,hn];simp[List.findIdx_cons];omega
theorem pn(l:List Int)(n:Int):bh Tryz.prog 66 [aT l,aI n] (aI (m9 l n)):=by
 refine zf true 0 Tryz.func66 Tryz.ntmps66 ?_;dsimp only[Tmp,TypeId,slotsOf];refine ay (ah ?_);refine fp 0 rfl (fun hlen=>?_);simp only[List.length_map]at hlen;refine cb (ah ?_);refine ai (aO (ι:={j:Nat // j<=l.length∧∀x∈l.take j,x≠n}) (fun j=>⟨19,[(0,aT l),(1,aI n),(4,aI 0),(7,aI l.length),(8,aI j.1)],[]⟩) (fun j=>l.length-j.1) ⟨0,by omega,by simp⟩ ?_ ?_)
 ·refine zq rfl ?_ ?_;simp -dsimp only[simprocAttr,↓aa,zp,zc];rfl
 rintro⟨j,hj,cA⟩;refine ay (ah ?_);apply ib rfl<;>intro h
 ·refine cm ?_;have aZ:j<l.length:=by simpa using h
  obtain⟨v,hv⟩:∃v,l[j]?=some v:=⟨l[j],by simp[aZ]⟩
  refine aH (ai ?_);refine ay (ah ?_);refine aS ?_;simp -dsimp only[simprocAttr,↓aa,zp,hv]
  repeat(refine⟨by omega,?_⟩)
  refine ah ?_;apply aM rfl<;>intro h
  ·have hk:n=v:=by simpa using h
   refine ay (ah ?_);refine aq ?_;simp -dsimp only[simprocAttr,↓aa,zp,zr,Tryz.results66];subst hk;have:=CV hv cA;simp[m9,this,aZ]
  refine kA ?_;have hk:n≠v:=by simpa using h
  refine cF ?_
  repeat(refine⟨by omega,?_⟩)
  refine fw ?_;refine⟨⟨j+1,aZ,fun w hw=>?_⟩,by simp;omega,?_⟩
  ·rw[List.take_add_one,hv]at hw;simp only[Option.toList_some,List.mem_append,List.mem_singleton]at hw;rcases hw with hw|rfl
   ·exact cA w hw
   exact fun e=>hk e.symm
  refine zq rfl ?_ ?_;simp -dsimp only[simprocAttr,↓aa,zp,zc]
  ·exact Sub.int (by simp)
  rfl
 refine aG ?_;simp -dsimp only[bD,ne_eq,Nat.reduceEqDiff,reduceCtorEq];have gU:j=l.length:=by simp at h;omega
 subst gU;refine ay (ah ?_);refine aq ?_;simp -dsimp only[simprocAttr,↓aa,zp,zr,Tryz.results66];rw[List.take_length]at cA;have:l.findIdx (· == n)=l.length:=by
  rw[List.findIdx_eq_length];intro x hx;simpa using cA x hx
 simp[m9,this]
theorem zS(t:Term)(n:Int)(ht:t.cases.length<=2 ^ 60):bh Tryz.prog 131 [t.enc,aI n] (aI (eT t n)):=by
 have Mq:=pn t.cases n;have hle:t.cases.findIdx (· == n)<=t.cases.length:=List.findIdx_le_length;refine zf true 0 Tryz.func131 Tryz.ntmps131 ?_;dsimp only[Tmp,TypeId,slotsOf];refine ay (ah ?_);refine cb (ah ?_);apply aM rfl<;>intro h
 ·have e:t.kind=2:=by simpa using h
  refine cb (ah ?_);apply aM rfl<;>intro h
  ·have e0:n≠0:=by simpa using h
   refine ay (ah ?_);refine aq ?_;simp -dsimp only[simprocAttr,↓aa,zp,zr,Tryz.results131];simp[eT,e,e0]
  have e0:n=0:=by simpa using h
  refine cm ?_;refine ay (ah ?_);refine aq ?_;simp -dsimp only[simprocAttr,↓aa,zp,zr,Tryz.results131];simp[eT,e,e0]
 have e:t.kind≠2:=by simpa using h
 refine cm ?_;by_cases hf:t.cases.findIdx (· == n)<t.cases.length
 ·have hI:m9 t.cases n=(t.cases.findIdx (· == n):Nat):=by simp[m9,hf]
  rw[hI]at Mq;generalize hq:t.cases.findIdx (· == n)=q at Mq;refine cb ?_;refine zi Mq ?_;refine ah ?_;refine ay (ah ?_);apply aM rfl<;>intro h
  ·refine ay (ah ?_);refine aq ?_;simp -dsimp only[simprocAttr,↓aa,zp,zr,Tryz.results131];simp[eT,e,hq]
  simp at h
 have hI:m9 t.cases n=-1:=by simp[m9,hf]
 rw[hI]at Mq;have hq:t.cases.findIdx (· == n)=t.cases.length:=by omega
 refine cb ?_;refine zi Mq ?_;refine ah ?_;refine ay (ah ?_);apply aM rfl<;>intro h
 ·simp at h
 refine cm ?_;refine ay (ah ?_);refine aq ?_;simp -dsimp only[simprocAttr,↓aa,zp,zr,Tryz.results131];simp[eT,e,hq]
def eN(t:Term):Int:=if t.kind=1 then 1 else if t.kind=2 then 2 else if t.kind=3 then(t.cases.length:Int)+1 else 0
def q9(t:Term):Bool:=decide (t.kind=0) ||(decide (t.kind=2) ||decide (t.kind=3))
def ec(t:Term):Bool:=(decide (0<=t.kind)&&decide (t.kind<=4))&&(((decide ((t.to.length:Int)=eN t)&&(q9 t ||decide (t.arg=0)))&&(decide (t.kind=4) ||decide (t.n=0)))&&(decide (t.kind=3) ||decide ((t.cases.length:Int)=0)))
theorem M4(t:Term)(hk:t.kind=0)(gA:t.cases.length<=2 ^ 60):bh Tryz.prog 110 [t.enc] (.v (.bool (ec t))):=by
 have he:eN t=0:=by simp[eN,hk]
 have ha:q9 t=true:=by simp[q9,hk]
 unfold ec;rw[he,ha];have h0:decide (t.kind=0)=true:=decide_eq_true hk;have h4:decide (t.kind=4)=false:=decide_eq_false (by omega);have h3:decide (t.kind=3)=false:=decide_eq_false (by omega);have hZ:decide (0<=t.kind)=true:=decide_eq_true (by omega);have oB:decide (t.kind<=4)=true:=decide_eq_true (by omega);rw[hZ,oB,h3,h4];refine zf true 0 Tryz.func110 Tryz.ntmps110 ?_;dsimp only[Tmp,TypeId,slotsOf];refine ay (ah ?_);refine ay (ah ?_);refine cb (ah ?_);refine ai ?_;refine aS ?_;simp -dsimp only[simprocAttr,↓aa,zp,h0];refine ah ?_;refine cN rfl ?_;refine cF (ah ?_);cases hA:decide ((t.to.length:Int)=0)<;>cases hB:decide (t.arg=0)<;>cases hC:decide (t.n=0)<;>cases hD:decide ((t.cases.length:Int)=0)
 all_goals
  refine aS ?_;simp -dsimp only[simprocAttr,↓aa,zp,hA,hB,hC,hD];refine ah ?_;refine aq ?_;simp -dsimp only[simprocAttr,↓aa,zp,zr,Tryz.results110,Bool.true_or,Bool.false_or,Bool.or_true,Bool.or_false,Bool.true_and,Bool.false_and,Bool.and_true,Bool.and_false]
theorem M5(t:Term)(hk:t.kind=1)(gA:t.cases.length<=2 ^ 60):bh Tryz.prog 110 [t.enc] (.v (.bool (ec t))):=by
 have he:eN t=1:=by simp[eN,hk]
 have ha:q9 t=false:=by simp[q9,hk]
 unfold ec;rw[he,ha];have h0:decide (t.kind=0)=false:=decide_eq_false (by omega);have h1:decide (t.kind=1)=true:=decide_eq_true hk;have h4:decide (t.kind=4)=false:=decide_eq_false (by omega);have h3:decide (t.kind=3)=false:=decide_eq_false (by omega);have hZ:decide (0<=t.kind)=true:=decide_eq_true (by omega);have oB:decide (t.kind<=4)=true:=decide_eq_true (by omega);rw[hZ,oB,h3,h4];refine zf true 0 Tryz.func110 Tryz.ntmps110 ?_;dsimp only[Tmp,TypeId,slotsOf];refine ay (ah ?_);refine ay (ah ?_);refine cb (ah ?_);refine ai ?_;refine aS ?_;simp -dsimp only[simprocAttr,↓aa,zp,h0];refine ah ?_;refine cd rfl ?_;refine aS ?_;simp -dsimp only[simprocAttr,↓aa,zp,h1];refine ah ?_;refine cN rfl ?_;refine cF (ah ?_);cases hA:decide ((t.to.length:Int)=1)<;>cases hB:decide (t.arg=0)<;>cases hC:decide (t.n=0)<;>cases hD:decide ((t.cases.length:Int)=0)
 all_goals
  refine aS ?_;simp -dsimp only[simprocAttr,↓aa,zp,hA,hB,hC,hD];refine ah ?_;refine aq ?_;simp -dsimp only[simprocAttr,↓aa,zp,zr,Tryz.results110,Bool.true_or,Bool.false_or,Bool.or_true,Bool.or_false,Bool.true_and,Bool.false_and,Bool.and_true,Bool.and_false]
theorem M6(t:Term)(hk:t.kind=2)(gA:t.cases.length<=2 ^ 60):bh Tryz.prog 110 [t.enc] (.v (.bool (ec t))):=by
 have he:eN t=2:=by simp[eN,hk]
 have ha:q9 t=true:=by simp[q9,hk]
 unfold ec;rw[he,ha];have h0:decide (t.kind=0)=false:=decide_eq_false (by omega);have h1:decide (t.kind=1)=false:=decide_eq_false (by omega);have h2:decide (t.kind=2)=true:=decide_eq_true hk;have h4:decide (t.kind=4)=false:=decide_eq_false (by omega);have h3:decide (t.kind=3)=false:=decide_eq_false (by omega);have hZ:decide (0<=t.kind)=true:=decide_eq_true (by omega);have oB:decide (t.kind<=4)=true:=decide_eq_true (by omega);rw[hZ,oB,h3,h4];refine zf true 0 Tryz.func110 Tryz.ntmps110 ?_;dsimp only[Tmp,TypeId,slotsOf];refine ay (ah ?_);refine ay (ah ?_);refine cb (ah ?_);refine ai ?_;refine aS ?_;simp -dsimp only[simprocAttr,↓aa,zp,h0];refine ah ?_;refine cd rfl ?_;refine aS ?_;simp -dsimp only[simprocAttr,↓aa,zp,h1];refine ah ?_;refine cd rfl ?_;refine aS ?_;simp -dsimp only[simprocAttr,↓aa,zp,h2];refine ah ?_;refine cN rfl ?_;refine cF (ah ?_);cases hA:decide ((t.to.length:Int)=2)<;>cases hB:decide (t.arg=0)<;>cases hC:decide (t.n=0)<;>cases hD:decide ((t.cases.length:Int)=0)
 all_goals
  refine aS ?_;simp -dsimp only[simprocAttr,↓aa,zp,hA,hB,hC,hD];refine ah ?_;refine aq ?_;simp -dsimp only[simprocAttr,↓aa,zp,zr,Tryz.results110,Bool.true_or,Bool.false_or,Bool.or_true,Bool.or_false,Bool.true_and,Bool.false_and,Bool.and_true,Bool.and_false]
theorem M7(t:Term)(hk:t.kind=3)(gA:t.cases.length<=2 ^ 60):bh Tryz.prog 110 [t.enc] (.v (.bool (ec t))):=by
 have he:eN t=(t.cases.length:Int)+1:=by simp[eN,hk]
 have ha:q9 t=true:=by simp[q9,hk]
 unfold ec;rw[he,ha];have h0:decide (t.kind=0)=false:=decide_eq_false (by omega);have h1:decide (t.kind=1)=false:=decide_eq_false (by omega);have h2:decide (t.kind=2)=false:=decide_eq_false (by omega);have h3:decide (t.kind=3)=true:=decide_eq_true hk;have h4:decide (t.kind=4)=false:=decide_eq_false (by omega);have hZ:decide (0<=t.kind)=true:=decide_eq_true (by omega);have oB:decide (t.kind<=4)=true:=decide_eq_true (by omega);rw[hZ,oB,h3,h4];refine zf true 0 Tryz.func110 Tryz.ntmps110 ?_;dsimp only[Tmp,TypeId,slotsOf];refine ay (ah ?_);refine ay (ah ?_);refine cb (ah ?_);refine ai ?_;refine aS ?_;simp -dsimp only[simprocAttr,↓aa,zp,h0];refine ah ?_;refine cd rfl ?_;refine aS ?_;simp -dsimp only[simprocAttr,↓aa,zp,h1];refine ah ?_;refine cd rfl ?_;refine aS ?_;simp -dsimp only[simprocAttr,↓aa,zp,h2];refine ah ?_;refine cd rfl ?_;refine aS ?_;simp -dsimp only[simprocAttr,↓aa,zp,h3];refine ah ?_;refine cN rfl ?_;refine cF ?_
 repeat(refine⟨by omega,?_⟩)
 refine ah ?_;cases hA:decide ((t.to.length:Int)=(t.cases.length:Int)+1)<;>cases hB:decide (t.arg=0)<;>cases hC:decide (t.n=0)<;>cases hD:decide ((t.cases.length:Int)=0)
 all_goals
  refine aS ?_;simp -dsimp only[simprocAttr,↓aa,zp,hA,hB,hC,hD];refine ah ?_;refine aq ?_;simp -dsimp only[simprocAttr,↓aa,zp,zr,Tryz.results110,Bool.true_or,Bool.false_or,Bool.or_true,Bool.or_false,Bool.true_and,Bool.false_and,Bool.and_true,Bool.and_false]
theorem M8(t:Term)(hk:t.kind=4)(gA:t.cases.length<=2 ^ 60):bh Tryz.prog 110 [t.enc] (.v (.bool (ec t))):=by
 have he:eN t=0:=by simp[eN,hk]
 have ha:q9 t=false:=by simp[q9,hk]
 unfold ec;rw[he,ha];have h0:decide (t.kind=0)=false:=decide_eq_false (by omega);have h1:decide (t.kind=1)=false:=decide_eq_false (by omega);have h2:decide (t.kind=2)=false:=decide_eq_false (by omega);have h3:decide (t.kind=3)=false:=decide_eq_false (by omega);have h4:decide (t.kind=4)=true:=decide_eq_true hk;have hZ:decide (0<=t.kind)=true:=decide_eq_true (by omega);have oB:decide (t.kind<=4)=true:=decide_eq_true (by omega);rw[hZ,oB,h3,h4];refine zf true 0 Tryz.func110 Tryz.ntmps110 ?_;dsimp only[Tmp,TypeId,slotsOf];refine ay (ah ?_);refine ay (ah ?_);refine cb (ah ?_);refine ai ?_;refine aS ?_;simp -dsimp only[simprocAttr,↓aa,zp,h0];refine ah ?_;refine cd rfl ?_;refine aS ?_;simp -dsimp only[simprocAttr,↓aa,zp,h1];refine ah ?_;refine cd rfl ?_;refine aS ?_;simp -dsimp only[simprocAttr,↓aa,zp,h2];refine ah ?_;refine cd rfl ?_;refine aS ?_;simp -dsimp only[simprocAttr,↓aa,zp,h3];refine ah ?_;refine cd rfl ?_;refine aS ?_;simp -dsimp only[simprocAttr,↓aa,zp,h4];refine ah ?_;refine cN rfl ?_;refine cF (ah ?_);cases hA:decide ((t.to.length:Int)=0)<;>cases hB:decide (t.arg=0)<;>cases hC:decide (t.n=0)<;>cases hD:decide ((t.cases.length:Int)=0)
 all_goals
  refine aS ?_;simp -dsimp only[simprocAttr,↓aa,zp,hA,hB,hC,hD];refine ah ?_;refine aq ?_;simp -dsimp only[simprocAttr,↓aa,zp,zr,Tryz.results110,Bool.true_or,Bool.false_or,Bool.or_true,Bool.or_false,Bool.true_and,Bool.false_and,Bool.and_true,Bool.and_false]
theorem Bv(t:Term)(hk:¬(0<=t.kind∧t.kind<=4)):bh Tryz.prog 110 [t.enc] (.v (.bool (ec t))):=by
 have hr:ec t=false:=by
  unfold ec;have:(decide (0<=t.kind)&&decide (t.kind<=4))=false:=by
   by_cases h0:0<=t.kind<;>by_cases h4:t.kind<=4<;>simp[h0,h4]<;>omega
  rw[this];rfl
 rw[hr];have h0:decide (t.kind=0)=false:=decide_eq_false (by omega);have h1:decide (t.kind=1)=false:=decide_eq_false (by omega);have h2:decide (t.kind=2)=false:=decide_eq_false (by omega);have h3:decide (t.kind=3)=false:=decide_eq_false (by omega);have h4:decide (t.kind=4)=false:=decide_eq_false (by omega);refine zf true 0 Tryz.func110 Tryz.ntmps110 ?_;dsimp only[Tmp,TypeId,slotsOf];refine ay (ah ?_);refine ay (ah ?_);refine cb (ah ?_);refine ai ?_;refine aS ?_;simp -dsimp only[simprocAttr,↓aa,zp,h0];refine ah ?_;refine cd rfl ?_;refine aS ?_;simp -dsimp only[simprocAttr,↓aa,zp,h1];refine ah ?_;refine cd rfl ?_;refine aS ?_;simp -dsimp only[simprocAttr,↓aa,zp,h2];refine ah ?_;refine cd rfl ?_;refine aS ?_;simp -dsimp only[simprocAttr,↓aa,zp,h3];refine ah ?_;refine cd rfl ?_;refine aS ?_;simp -dsimp only[simprocAttr,↓aa,zp,h4];refine ah ?_;refine cd rfl ?_;refine ay (ah ?_);refine aq ?_;simp -dsimp only[simprocAttr,↓aa,zp,zr,Tryz.results110]
theorem D2(t:Term)(gA:t.cases.length<=2 ^ 60):bh Tryz.prog 110 [t.enc] (.v (.bool (ec t))):=by
 by_cases hk:0<=t.kind∧t.kind<=4
 ·rcases(show t.kind=0∨t.kind=1∨t.kind=2∨t.kind=3∨t.kind=4 by omega)with h|h|h|h|h
  ·exact M4 t h gA
  ·exact M5 t h gA
  ·exact M6 t h gA
  ·exact M7 t h gA
  exact M8 t h gA
 exact Bv t hk
def dK(l:List Int)(n:Int):Bool:=decide (l.findIdx (· == n)<l.length)
theorem iZ(l:List Int)(n:Int):bh Tryz.prog 39 [aT l,aI n] (.v (.bool (dK l n))):=by
 have Mq:=pn l n;have hd:decide (0<=m9 l n)=dK l n:=by
  unfold m9 dK;by_cases h:l.findIdx (· == n)<l.length
  ·rw[if_pos h];simp[h]
  rw[if_neg h];simp[h]
 generalize m9 l n=r at *;refine zf true 0 Tryz.func39 Tryz.ntmps39 ?_;dsimp only[Tmp,TypeId,slotsOf];refine ay (ah ?_);refine ay ?_;refine .inl ⟨_,Mq,by simp only[au,ae.upto,zt,zu,av],an ?_⟩;simp -dsimp only[simprocAttr,↓aa,zp,hd];refine ah ?_;refine aq ?_;simp -dsimp only[simprocAttr,↓aa,zp,zr,Tryz.results39]
theorem vt{u:cf}{m:Mach}{O:List al}(br:∀o∈O,o.upto O.length)(h0:O[2]?=some (.cells (az u m)))(size fill:SV)(hs:SV.bc O.length size)(hf:SV.bc O.length fill)(h1:0<=m.left)(h2:m.left<=2 ^ 40)(jL:m.short=false)
  (bI:∀x,((m.bj size fill).2.1).arr≠some x) :
  ba Tryz.prog 154 O [.mp 2 0,size.enc,fill.enc] (fun r O'=>r=.cK [(m.bj size fill).2.1.enc,aI (m.bj size fill).2.2]∧O'=O.set 2 (.cells (az u (m.bj size fill).1))):=by
 have gh:O.set 2 (.cells (az u m))=O:=by
  obtain⟨aZ,e⟩:=List.getElem?_eq_some_iff.1 h0;rw[<-e,List.set_getElem_self]
 by_cases hk:size.kind=0
 ·by_cases hn:size.n<0∨1024<size.n
  ·have hd:decide (size.kind=0)=true:=decide_eq_true hk;rcases(show size.n<0∨(¬size.n<0∧1024<size.n) by omega)with BT|⟨BT,HR⟩
   ·have lK:decide (size.n<0)=true:=decide_eq_true BT;refine zf true O.length Tryz.func154 Tryz.ntmps154 ?_;dsimp only[Tmp,TypeId,slotsOf];refine ay (ah ?_);refine aH (ai ?_);refine aS ?_;simp -dsimp only[simprocAttr,↓aa,zp,hd];refine ah ?_;refine cd rfl ?_;refine aS ?_;simp -dsimp only[simprocAttr,↓aa,zp,lK];refine ah ?_;refine cN rfl ?_;refine ay (ah ?_);refine aq ?_;simp -dsimp only[simprocAttr,↓aa,zp,zr,Tryz.results154,ck];refine⟨br,fg,?_⟩;simp[Mach.bj,hk,hn,gh]
   have lK:decide (size.n<0)=false:=decide_eq_false BT;have kq:decide (1024<size.n)=true:=decide_eq_true HR;refine zf true O.length Tryz.func154 Tryz.ntmps154 ?_;dsimp only[Tmp,TypeId,slotsOf];refine ay (ah ?_);refine aH (ai ?_);refine aS ?_;simp -dsimp only[simprocAttr,↓aa,zp,hd];refine ah ?_;refine cd rfl ?_;refine aS ?_;simp -dsimp only[simprocAttr,↓aa,zp,lK,kq];refine ah ?_;refine cN rfl ?_;refine ay (ah ?_);refine aq ?_;simp -dsimp only[simprocAttr,↓aa,zp,zr,Tryz.results154,ck];refine⟨br,fg,?_⟩;simp[Mach.bj,hk,hn,gh]
  have hd:decide (size.kind=0)=true:=decide_eq_true hk;have lK:decide (size.n<0)=false:=decide_eq_false (by omega);have kq:decide (1024<size.n)=false:=decide_eq_false (by omega);by_cases hp:m.left<size.n
  ·have jT:(m.db size.n).short=true:=by simp[Mach.db,hp]
   have vQ:=ba.frame (uM br h0 size.n h1 h2 (by omega)) (by simp) ⟨I h0,trivial,trivial⟩ br;have Gq:=dh h0 (.cells (az u (m.db size.n)));have eg:=bg br h0 (ds:=az u (m.db size.n)) (fun h=>bS h (n7 m size.n));obtain⟨O1,dD⟩:∃O1,O1=O.set 2 (.cells (az u (m.db size.n))):=⟨_,rfl⟩
   have hlen:O.length=O1.length:=by rw[dD];simp
   have dS:(m.bj size fill)=(m.db size.n,.zero,0):=by simp[Mach.bj,hk,hn,jT]
   rw[dS];simp only[<-dD]at vQ Gq eg ⊢;have CX:∀X,(O1++X)[2]?=some (.cells (az u (m.db size.n))):=fun X=>cj Gq;unfold az at CX;rw[jT]at CX;rw[hlen]at eg;refine zf true O.length Tryz.func154 Tryz.ntmps154 ?_;dsimp only[Tmp,TypeId,slotsOf];refine ay (ah ?_);refine aH (ai ?_);refine aS ?_;simp -dsimp only[simprocAttr,↓aa,zp,hd];refine ah ?_;refine cd rfl ?_;refine aS ?_;simp -dsimp only[simprocAttr,↓aa,zp,lK,kq];refine ah ?_;refine cd rfl ?_;refine kA ?_;refine ay ?_;refine .inr (.inl ⟨_,_,vQ _,.inl (an (zj ?_))⟩);refine ah ?_;refine cJ ?_;simp -dsimp only[simprocAttr,↓aa,zp,CX];refine ah ?_;refine cN rfl ?_;refine aS ?_;simp -dsimp only[simprocAttr,↓aa,zp,hlen];refine ah ?_;refine aq ?_;simp -dsimp only[simprocAttr,↓aa,zp,zr,Tryz.results154,ck,hlen];exact⟨eg,fg⟩
  exfalso;have jT:(m.db size.n).short=false:=by simp[Mach.db,hp,jL]
  refine bI (m.next+8) ?_;simp[Mach.bj,hk,hn,jT,SV.arr]
 have hd:decide (size.kind=0)=false:=decide_eq_false hk;refine zf true O.length Tryz.func154 Tryz.ntmps154 ?_;dsimp only[Tmp,TypeId,slotsOf];refine ay (ah ?_);refine aH (ai ?_);refine aS ?_;simp -dsimp only[simprocAttr,↓aa,zp,hd];refine ah ?_;refine cN rfl ?_;refine ay (ah ?_);refine aq ?_;simp -dsimp only[simprocAttr,↓aa,zp,zr,Tryz.results154,ck];refine⟨br,fg,?_⟩;simp[Mach.bj,hk,gh]
theorem oq{O X:List al}{k:Nat}:(O++X).take (O.length+k)=O++X.take k:=by
 rw[List.take_append,List.take_of_length_le (by omega),Nat.add_sub_cancel_left]
def sT(v:SV)(n k:Nat):List ae:=List.replicate k v.enc++List.replicate (n-k) (.agg [aI 0,aI 0,.aB 4 [] .ex,.v (.pointer none)])
theorem Bm{v:SV}{n k:Nat}(h:k<=n):(sT v n k).length=n:=by
 simp[sT];omega
theorem uV{v:SV}{n k:Nat}:∀x∈sT v n k,x.cells.length=4:=fun x hx=>by
 simp only[sT,List.mem_append,List.mem_replicate]at hx;rcases hx with⟨_,rfl⟩|⟨_,rfl⟩
 ·exact v.cV
 rfl
theorem Hq(v:SV)(n:Nat):ao (sT v n 0)=(List.replicate n [aI 0,aI 0,.aB 4 [] .ex,.v (.pointer none)]).flatten:=by
 simp[sT,ao,List.flatMap,ae.cells]
theorem Hp{v:SV}{n k:Nat}(h:k<n):(sT v n k).set k v.enc=sT v n (k+1):=by
 obtain⟨j,hj⟩:∃j,n-k=j+1:=⟨n-k-1,by omega⟩
 unfold sT;rw[hj,show n-(k+1)=j by omega,List.set_append_right _ _ (by simp),List.replicate_succ' (n:=k)];simp[List.replicate_succ]
theorem J3(v:SV)(n:Nat):sT v n n=(List.replicate n v).map SV.enc:=by simp[sT]
theorem zz{u:cf}{m:Mach}{O:List al}(br:∀o∈O,o.upto O.length)(h0:O[2]?=some (.cells (az u m)))(size fill:SV)(hs:SV.bc O.length size)(hf:SV.bc O.length fill)(h1:0<=m.left)(h2:m.left<=2 ^ 40)(jL:m.short=false)
  (hk:size.kind=0) (BT:0<=size.n) (HR:size.n<=1024) (hp:size.n<=m.left) :
  ba Tryz.prog 154 O [.mp 2 0,size.enc,fill.enc] (fun r O'=>r=.cK [.agg [aI 3,aI 0,.aB 4 [] .sh,.mp (O.length+4) 0],aI 0]∧O'=O.set 2 (.cells (az u (m.db size.n))) ++
   [.gone,.gone,.cells [aI 3,aI 0,.aB 4 [] .ex,.mp (O.length+4) 0],.cells (ao ((List.replicate size.n.toNat fill).map SV.enc)),.cells [.ms (O.length+3) 0 size.n.toNat size.n.toNat]]):=by
 have hd:decide (size.kind=0)=true:=decide_eq_true hk;have lK:decide (size.n<0)=false:=decide_eq_false (by omega);have kq:decide (1024<size.n)=false:=decide_eq_false (by omega);have jT:(m.db size.n).short=false:=by simp[Mach.db,jL,show ¬m.left<size.n by omega]
 have vQ:=ba.frame (uM br h0 size.n h1 h2 (by omega)) (by simp) ⟨I h0,trivial,trivial⟩ br;have Gq:=dh h0 (.cells (az u (m.db size.n)));have eg:=bg br h0 (ds:=az u (m.db size.n)) (fun h=>bS h (n7 m size.n));obtain⟨O1,dD⟩:∃O1,O1=O.set 2 (.cells (az u (m.db size.n))):=⟨_,rfl⟩
 have hlen:O.length=O1.length:=by rw[dD];simp
 simp only[<-dD]at vQ Gq eg ⊢;have CX:∀X,(O1++X)[2]?=some (.cells (az u (m.db size.n))):=fun X=>cj Gq;unfold az at CX;rw[jT]at CX;rw[hlen]at eg;obtain⟨n,hn⟩:∃n:Nat,size.n=n:=⟨size.n.toNat,by omega⟩
 refine zf true (O.length+5) Tryz.func154 Tryz.ntmps154 ?_;dsimp only[Tmp,TypeId,slotsOf];refine ay (ah ?_);refine bU 4 0 ([aI size.kind,aI size.n,.aB 4 (size.list.map SV.enc) .sh,eP size.arr]) rfl rfl (by simp only[List.map_cons,List.map_nil,cy,b8,dw,dx,dv,dt,du,cr]) ?_;simp -dsimp only[simprocAttr,↓aa,zp];refine bU 5 1 ([aI fill.kind,aI fill.n,.aB 4 (fill.list.map SV.enc) .sh,eP fill.arr]) rfl rfl (by simp only[List.map_cons,List.map_nil,cy,b8,dw,dx,dv,dt,du,cr]) ?_;simp -dsimp only[simprocAttr,↓aa,zp];refine aH (ai ?_);refine aS ?_;simp -dsimp only[simprocAttr,↓aa,zp,hd];refine ah ?_;apply aM rfl<;>intro h
 ·cases h
 refine aS ?_;simp -dsimp only[simprocAttr,↓aa,zp,lK,kq];refine ah ?_;apply aM rfl<;>intro h
 ·cases h
 refine kA ?_;refine ay ?_;refine .inr (.inl ⟨_,_,vQ _,.inl (an (zj ?_))⟩);refine ah ?_;refine cJ ?_;simp -dsimp only[simprocAttr,↓aa,zp,CX];refine ah ?_;apply aM rfl<;>intro h
 ·cases h
 refine cm ?_;refine aS ?_;simp -dsimp only[simprocAttr,↓aa,zp,hlen,hn]
 repeat(refine⟨by omega,?_⟩)
 refine ah ?_;refine cJ ?_;simp -dsimp only[simprocAttr,↓aa,zp,hlen,hn];refine ah ?_;refine ai (aO (ι:={j:Nat // j<=n}) (fun j=>⟨48,[(5,.ip none [aI fill.kind,aI fill.n,.aB 4 (fill.list.map SV.enc) .sh,eP fill.arr]),(6,.mp (O1.length+2) 0),(7,aI 0),(8,.mp (O1.length+4) 0),(38,aI n),(39,aI j.1)],O1++[.gone,.gone,.cells [aI 0,aI 0,.aB 4 [] .ex,.v (.pointer none)],.cells (ao (sT fill n j.1)),.cells [.ms (O1.length+3) 0 n n]]⟩) (fun j=>n-j.1) ⟨0,by omega⟩ ?_ ?_)
 ·refine zq rfl ?_ ?_;simp -dsimp only[simprocAttr,↓aa,zp,zc];rw[Hq]
 rintro⟨j,hj⟩;refine ay (ah ?_);apply ib rfl<;>intro h
 ·refine cm ?_;have aZ:j<n:=by simpa using h
  have de:=ca (uV (v:=fill) (n:=n) (k:=j));rw[Bm hj]at de;have gh:=lS (uV (v:=fill) (n:=n) (k:=j)) (k:=j) (by rw[Bm hj];exact aZ) fill.cV;rw[Hp aZ,SV.aj]at gh;refine aH (ai ?_);refine ay (ah ?_);refine j4 ?_;simp -dsimp only[simprocAttr,↓aa,zp,de,gh]
  repeat(refine⟨by omega,?_⟩)
  refine ah ?_;refine cF ?_
  repeat(refine⟨by omega,?_⟩)
  refine fw ?_;refine⟨⟨j+1,aZ⟩,by simp;omega,?_⟩;refine zq rfl ?_ ?_;simp -dsimp only[simprocAttr,↓aa,zp,zc]
  ·exact Sub.int (by simp)
  rfl
 refine aG ?_;simp -dsimp only[bD,ne_eq,Nat.reduceEqDiff,reduceCtorEq];have ru:j=n:=by simp at h;omega
 subst ru;refine ay (ah ?_);refine aq ?_;simp -dsimp only[simprocAttr,↓aa,zp,zr,Tryz.results154,hlen];have VV:size.n.toNat=j:=by omega
 have iO:∀v∈List.replicate j fill,SV.bc (O1.length+5) v:=fun v hv=>by
  rw[(List.mem_replicate.1 hv).2];exact hf.mono (by omega)
 rw[oq,VV,J3];refine⟨fun o ho=>?_,by simp[au,ae.upto],rfl⟩;rcases List.mem_append.1 ho with ho|ho
 ·exact al.cE (by omega) (eg o ho)
 have hc:=SV.iM iO;simp only[List.take_succ_cons,List.take_zero,List.mem_cons,List.mem_nil_iff,or_false]at ho;rcases ho with rfl|rfl|rfl|rfl|rfl
 ·trivial
 ·trivial
 ·simp[al.upto,au,ae.upto]
 ·exact hc
 simp[al.upto,au,ae.upto]
theorem kk{O X:List al}{k:Nat}{x y:al}(h:O[k]?=some x):(O++X).set k y=O.set k y++X:=by
 rw[List.set_append_left _ _ (I h)]
theorem jw{O:List al}{k:Nat}{x:al}(h:O[k]?=some x):O.set k x=O:=by
 obtain⟨aZ,e⟩:=List.getElem?_eq_some_iff.1 h;rw[<-e,List.set_getElem_self]
theorem x6{u:cf}{m:Mach}{O:List al}(br:∀o∈O,o.upto O.length)(h0:O[2]?=some (.cells (az u m)))(vS:O[3]?=some (.spare m.out.length))(i:Ins)(args:List SV)(hl:∀v∈args,SV.bc O.length v)
  (jq:i.op=15) (x:SV) (hx:args[0]?=some x) (ho:m.out.length<=1000) :
  ba Tryz.prog 137 O [.mp 2 0,i.enc,.aB 4 (args.map SV.enc) .sh] (fun r O'=>r=.cK [(m.effect i args).2.1.enc,aI (m.effect i args).2.2]∧O'=(O.set 3 (.spare (m.effect i args).1.out.length)).set 2 (.cells (az u (m.effect i args).1))):=by
 have qq:=fo hx;have ka:decide (i.op=15)=true:=decide_eq_true jq;have fB:(O.set 3 (.spare m.out.length)).set 2 (.cells (az u m))=O:=by rw[jw vS,jw h0]
 have vn:∀X,(O++X)[2]?=some (.cells (az u m)):=fun X=>cj h0;have CY:∀X,(O++X)[3]?=some (.spare m.out.length):=fun X=>cj vS;unfold az at vn;by_cases hk:x.kind=0
 ·have hd:decide (x.kind=0)=true:=decide_eq_true hk;by_cases hf:m.out.length=1000
  ·have PJ:decide ((m.out.length:Int)=1000)=true:=decide_eq_true (by omega);have dS:m.effect i args=(m,.zero,6):=by simp[Mach.effect,jq,qq,hk,hf]
   rw[dS];refine zf true O.length Tryz.func137 Tryz.ntmps137 ?_;dsimp only[Tmp,TypeId,slotsOf];refine ay (ah ?_);refine bU 4 0 ([aI i.to,aI i.op,aI i.n,aT i.args]) rfl rfl (by rfl) ?_;simp -dsimp only[simprocAttr,↓aa,zp];refine cJ ?_;simp -dsimp only[simprocAttr,↓aa,zp,ka];refine ah ?_;refine ai ?_;refine aS ?_;simp -dsimp only[simprocAttr,↓aa,zp,ka];refine ah ?_;refine cN rfl ?_;refine cJ ?_;simp -dsimp only[simprocAttr,↓aa,zp,hx,hd];refine ah ?_;refine cd rfl ?_;refine cm ?_;refine cJ ?_;simp -dsimp only[simprocAttr,↓aa,zp,vn,PJ];refine ah ?_;refine cN rfl ?_;refine ay (ah ?_);refine aq ?_;simp -dsimp only[simprocAttr,↓aa,zp,zr,Tryz.results137,ck,fB];exact⟨br,fg⟩
  have PJ:decide ((m.out.length:Int)=1000)=false:=decide_eq_false (by omega);have dS:m.effect i args=({ m with out:=m.out++[x.n] },.word 0,0):=by simp[Mach.effect,jq,qq,hk,hf]
  rw[dS];obtain⟨m',la⟩:∃m',m' = { m with out:=m.out++[x.n] }:=⟨_,rfl⟩
  have Lh:=bm (k:=2) (j:=3) (y:=.spare (m.out.length+1)) h0 (by omega);have hp:[a7 u.fns,aI u.main,.os m.sid m.frames.length 1,aI m.left,.v (.bool m.short),.v (.bool m.over),.aB 1 (m.out.map aI++[aI x.n]) (.tok 3),aI m.fin,aI m.val]=az u m':=by
   rw[la];simp[az]
  obtain⟨O2,s6⟩:∃O2,O2=(O.set 3 (.spare (m.out.length+1))).set 2 (.cells (az u m')):=⟨_,rfl⟩
  have hlen:O.length=O2.length:=by rw[s6];simp
  have eS:∀o∈O2,o.upto O2.length:=by
   rw[<-hlen,s6];exact bg (bR br trivial) Lh (fun h=>bS h (by rw[la]))
  have e1:∀X,(O++X).set 3 (.spare (m.out.length+1))=O.set 3 (.spare (m.out.length+1))++X:=fun X=>kk vS;have e2:∀X y,(O.set 3 (.spare (m.out.length+1))++X).set 2 y=(O.set 3 (.spare (m.out.length+1))).set 2 y++X:=fun X y=>kk Lh;have e3:∀X,(O.set 3 (.spare (m.out.length+1))++X)[2]?=some (.cells (az u m)):=fun X=>cj Lh;unfold az at e3;have AH:m'.out.length=m.out.length+1:=by rw[la];simp
  rw[<-la];simp only[AH,<-s6];refine zf true O.length Tryz.func137 Tryz.ntmps137 ?_;dsimp only[Tmp,TypeId,slotsOf];refine ay (ah ?_);refine bU 4 0 ([aI i.to,aI i.op,aI i.n,aT i.args]) rfl rfl (by rfl) ?_;simp -dsimp only[simprocAttr,↓aa,zp];refine cJ ?_;simp -dsimp only[simprocAttr,↓aa,zp,ka];refine ah ?_;refine ai ?_;refine aS ?_;simp -dsimp only[simprocAttr,↓aa,zp,ka];refine ah ?_;refine cN rfl ?_;refine cJ ?_;simp -dsimp only[simprocAttr,↓aa,zp,hx,hd];refine ah ?_;refine cd rfl ?_;refine cm ?_;refine cJ ?_;simp -dsimp only[simprocAttr,↓aa,zp,vn,PJ];refine ah ?_;refine cd rfl ?_;refine cm ?_;refine aS ?_;simp -dsimp only[simprocAttr,↓aa,zp,vn,hx,CY,e1,e2,e3,hp,<-s6]
  repeat(refine⟨by omega,?_⟩)
  refine⟨ob (by kernel_rfl),?_⟩;refine ah ?_;refine aS ?_;simp -dsimp only[simprocAttr,↓aa,zp,hlen];refine .inl ⟨_,cI 0,by simp only[au,ae.upto,zt,zu,av],an ?_⟩;simp -dsimp only[simprocAttr,↓aa,zp,da];refine ah ?_;refine aq ?_;simp -dsimp only[simprocAttr,↓aa,zp,zr,Tryz.results137,eL,hlen];exact⟨eS,kQ⟩
 have hd:decide (x.kind=0)=false:=decide_eq_false hk;have dS:m.effect i args=(m,.zero,5):=by simp[Mach.effect,jq,qq,hk]
 rw[dS];refine zf true O.length Tryz.func137 Tryz.ntmps137 ?_;dsimp only[Tmp,TypeId,slotsOf];refine ay (ah ?_);refine bU 4 0 ([aI i.to,aI i.op,aI i.n,aT i.args]) rfl rfl (by rfl) ?_;simp -dsimp only[simprocAttr,↓aa,zp];refine cJ ?_;simp -dsimp only[simprocAttr,↓aa,zp,ka];refine ah ?_;refine ai ?_;refine aS ?_;simp -dsimp only[simprocAttr,↓aa,zp,ka];refine ah ?_;refine cN rfl ?_;refine cJ ?_;simp -dsimp only[simprocAttr,↓aa,zp,hx,hd];refine ah ?_;refine cN rfl ?_;refine ay (ah ?_);refine aq ?_;simp -dsimp only[simprocAttr,↓aa,zp,zr,Tryz.results137,ck,fB];exact⟨br,fg⟩
theorem zZ{u:cf}{m:Mach}{O:List al}(br:∀o∈O,o.upto O.length)(h0:O[2]?=some (.cells (az u m)))(i:Ins)(size fill:SV)(hs:SV.bc O.length size)(hf:SV.bc O.length fill)
  (jq:i.op=16) (h1:0<=m.left) (h2:m.left<=2 ^ 40) (jL:m.short=false) (bI:∀x,((m.bj size fill).2.1).arr≠some x) :
  ba Tryz.prog 137 O [.mp 2 0,i.enc,.aB 4 [size.enc,fill.enc] .sh] (fun r O'=>r=.cK [(m.bj size fill).2.1.enc,aI (m.bj size fill).2.2]∧O'=O.set 2 (.cells (az u (m.bj size fill).1))):=by
 have ka:decide (i.op=15)=false:=decide_eq_false (by omega);have oA:decide (i.op=16)=true:=decide_eq_true (by omega);have dM:=ba.frame (vt br h0 size fill hs hf h1 h2 jL bI) (by simp) ⟨I h0,hs.aL,hf.aL,trivial⟩ br;have Wr:(m.bj size fill).1.sid=m.sid:=by
  unfold Mach.bj
  repeat' split
  all_goals first|rfl|exact n7 _ _
 have eg:=bg br h0 (ds:=az u (m.bj size fill).1) (fun h=>bS h Wr);have oC:SV.bc O.length (m.bj size fill).2.1:=by
  have:∀r:Mach×SV×Int,r=m.bj size fill->r.2.1=SV.zero∨∃x,r.2.1.arr=some x:=fun r hr=>by
   subst hr;unfold Mach.bj
   repeat' split
   all_goals first|exact .inl rfl|exact .inr ⟨_,rfl⟩
  rcases this _ rfl with e|⟨x,e⟩
  ·rw[e];exact pJ _
  exact absurd e (bI x)
 generalize m.bj size fill=R at *;obtain⟨O1,dD⟩:∃O1,O1=O.set 2 (.cells (az u R.1)):=⟨_,rfl⟩
 have hlen:O.length=O1.length:=by rw[dD];simp
 simp only[<-dD]at dM eg ⊢;rw[hlen]at eg oC;refine zf true O.length Tryz.func137 Tryz.ntmps137 ?_;dsimp only[Tmp,TypeId,slotsOf];refine ay (ah ?_);refine bU 4 0 ([aI i.to,aI i.op,aI i.n,aT i.args]) rfl rfl (by rfl) ?_;simp -dsimp only[simprocAttr,↓aa,zp];refine cb (ah ?_);refine ai ?_;refine aS ?_;simp -dsimp only[simprocAttr,↓aa,zp,ka];refine ah ?_;refine cd rfl ?_;refine aS ?_;simp -dsimp only[simprocAttr,↓aa,zp,oA];refine ah ?_;refine cN rfl ?_;refine ay ?_;refine .inr (.inl ⟨_,_,dM _,.inl (an ?_)⟩);simp -dsimp only[simprocAttr,↓aa,zp,hlen];refine⟨ob (by kernel_rfl),?_⟩;refine ah ?_;refine aq ?_;simp -dsimp only[simprocAttr,↓aa,zp,zr,Tryz.results137,hlen];exact⟨eg,uU oC⟩
theorem Gg{u:cf}{m:Mach}{O:List al}(br:∀o∈O,o.upto O.length)(h0:O[2]?=some (.cells (az u m)))(i:Ins)(size fill:SV)(hs:SV.bc O.length size)(hf:SV.bc O.length fill)
  (jq:i.op=16) (h1:0<=m.left) (h2:m.left<=2 ^ 40) (jL:m.short=false) (hk:size.kind=0) (BT:0<=size.n) (HR:size.n<=1024) (hp:size.n<=m.left) :
  ba Tryz.prog 137 O [.mp 2 0,i.enc,.aB 4 [size.enc,fill.enc] .sh] (fun r O'=>r=.cK [.agg [aI 3,aI 0,.aB 4 [] .sh,.mp (O.length+6) 0],aI 0]∧O'=O.set 2 (.cells (az u (m.db size.n))) ++
   [.gone,.cells [aI 3,aI 0,.aB 4 [] .sh,.mp (O.length+6) 0],.gone,.gone,.cells [aI 3,aI 0,.aB 4 [] .ex,.mp (O.length+6) 0],.cells (ao ((List.replicate size.n.toNat fill).map SV.enc)),.cells [.ms (O.length+5) 0 size.n.toNat size.n.toNat]]):=by
 have ka:decide (i.op=15)=false:=decide_eq_false (by omega);have oA:decide (i.op=16)=true:=decide_eq_true (by omega);have GM:∀o∈O++[.gone,.cells [aI 0,aI 0,.aB 4 [] .ex,.v (.pointer none)]],o.upto (O++[al.gone,.cells [aI 0,aI 0,.aB 4 [] .ex,.v (.pointer none)]]).length:=fun o ho=>by
  rcases List.mem_append.1 ho with ho|ho
  ·exact al.cE (by simp) (br o ho)
  simp only[List.mem_cons,List.mem_nil_iff,or_false]at ho;rcases ho with rfl|rfl
  ·trivial
  simp[al.upto,au,ae.upto]
 have V1:(O++[al.gone,.cells [aI 0,aI 0,.aB 4 [] .ex,.v (.pointer none)]]).length=O.length+2:=by simp
 have dM:=zz GM (cj h0) size fill (hs.mono (by simp)) (hf.mono (by simp)) h1 h2 jL hk BT HR hp;have Gq:=dh h0 (.cells (az u (m.db size.n)));have eg:=bg br h0 (ds:=az u (m.db size.n)) (fun h=>bS h (n7 m size.n));rw[kk h0,V1]at dM;obtain⟨O1,dD⟩:∃O1,O1=O.set 2 (.cells (az u (m.db size.n))):=⟨_,rfl⟩
 have hlen:O.length=O1.length:=by rw[dD];simp
 simp only[<-dD]at dM eg ⊢;rw[hlen]at eg;have iO:∀v∈List.replicate size.n.toNat fill,SV.bc (O1.length+7) v:=fun v hv=>by
  rw[(List.mem_replicate.1 hv).2];exact hf.mono (by omega)
 have hc:=SV.iM iO;generalize de:ao ((List.replicate size.n.toNat fill).map SV.enc)=row at *;refine zf true (O.length+7) Tryz.func137 Tryz.ntmps137 ?_;dsimp only[Tmp,TypeId,slotsOf];refine ay (ah ?_);refine bU 4 0 ([aI i.to,aI i.op,aI i.n,aT i.args]) rfl rfl (by rfl) ?_;simp -dsimp only[simprocAttr,↓aa,zp];refine cb (ah ?_);refine ai ?_;refine aS ?_;simp -dsimp only[simprocAttr,↓aa,zp,ka];refine ah ?_;refine cd rfl ?_;refine aS ?_;simp -dsimp only[simprocAttr,↓aa,zp,oA];refine ah ?_;refine cN rfl ?_;refine ay ?_;refine .inr (.inl ⟨_,_,dM,.inl (an ?_)⟩);simp -dsimp only[simprocAttr,↓aa,zp,hlen];refine⟨ob (by kernel_rfl),?_⟩;refine ah ?_;refine aq ?_;simp -dsimp only[simprocAttr,↓aa,zp,zr,Tryz.results137,hlen];rw[oq];refine⟨fun o ho=>?_,by simp[au,ae.upto],rfl⟩;rcases List.mem_append.1 ho with ho|ho
 ·exact al.cE (by omega) (eg o ho)
 simp only[List.take_succ_cons,List.take_zero,List.mem_cons,List.mem_nil_iff,or_false]at ho;rcases ho with rfl|rfl|rfl|rfl|rfl|rfl|rfl
 ·trivial
 ·simp[al.upto,au,ae.upto]
 ·trivial
 ·trivial
 ·simp[al.upto,au,ae.upto]
 ·exact hc
 simp[al.upto,au,ae.upto]
theorem xZ{u:cf}{m:Mach}{O:List al}(br:∀o∈O,o.upto O.length)(i:Ins)(x y:SV)(hx:SV.bc O.length x)(hy:SV.bc O.length y)(lp:2<O.length)
  (jq:i.op=18):ba Tryz.prog 137 O [.mp 2 0,i.enc,.aB 4 [x.enc,y.enc] .sh] (fun r O'=>r=.cK [(m.effect i [x,y]).2.1.enc,aI (m.effect i [x,y]).2.2]∧O'=O):=by
 have hl:∀v∈[x,y],SV.bc O.length v:=fun v hv=>by
  simp only[List.mem_cons,List.mem_nil_iff,or_false]at hv;rcases hv with rfl|rfl
  ·exact hx
  exact hy
 have ka:decide (i.op=15)=false:=decide_eq_false (by omega);have oA:decide (i.op=16)=false:=decide_eq_false (by omega);have sN:decide (i.op=18)=true:=decide_eq_true (by omega);have cA:=xI br [x,y] hl 0;have ha:bW [x,y] 0=x∧bW [x,y] 1=y:=⟨rfl,rfl⟩
 cases hk:j5 [x,y] 0 with
 | false =>
  simp only[hk,List.map_cons,List.map_nil]at cA;refine zf true O.length Tryz.func137 Tryz.ntmps137 ?_;dsimp only[Tmp,TypeId,slotsOf];refine ay (ah ?_);refine bU 4 0 ([aI i.to,aI i.op,aI i.n,aT i.args]) rfl rfl (by rfl) ?_;simp -dsimp only[simprocAttr,↓aa,zp];refine cb (ah ?_);refine ai ?_;refine aS ?_;simp -dsimp only[simprocAttr,↓aa,zp,ka];refine ah ?_;refine cd rfl ?_;refine aS ?_;simp -dsimp only[simprocAttr,↓aa,zp,oA];refine ah ?_;refine cd rfl ?_;refine aS ?_;simp -dsimp only[simprocAttr,↓aa,zp,sN];refine ah ?_;refine cN rfl ?_;refine cb ?_;refine .inr (.inr ⟨_,cA _,an (zj ?_)⟩);refine ah ?_;refine cN rfl ?_;refine ay (ah ?_);refine aq ?_;simp -dsimp only[simprocAttr,↓aa,zp,zr,Tryz.results137,ck];refine⟨br,fg,?_⟩;simp[Mach.effect,jq,hk]
 | true =>
  simp only[hk,List.map_cons,List.map_nil]at cA;by_cases hb:x.n<0∨y.n<=x.n
  ·have vo:decide (x.n<0)=true∨(decide (x.n<0)=false∧decide (y.n<=x.n)=true):=by
    by_cases h1:x.n<0
    ·exact .inl (decide_eq_true h1)
    exact .inr ⟨decide_eq_false h1,decide_eq_true (by omega)⟩
   rcases vo with vo|⟨vo,Aq⟩
   ·refine zf true O.length Tryz.func137 Tryz.ntmps137 ?_;dsimp only[Tmp,TypeId,slotsOf];refine ay (ah ?_);refine bU 4 0 ([aI i.to,aI i.op,aI i.n,aT i.args]) rfl rfl (by rfl) ?_;simp -dsimp only[simprocAttr,↓aa,zp];refine cb (ah ?_);refine ai ?_;refine aS ?_;simp -dsimp only[simprocAttr,↓aa,zp,ka];refine ah ?_;refine cd rfl ?_;refine aS ?_;simp -dsimp only[simprocAttr,↓aa,zp,oA];refine ah ?_;refine cd rfl ?_;refine aS ?_;simp -dsimp only[simprocAttr,↓aa,zp,sN];refine ah ?_;refine cN rfl ?_;refine cb ?_;refine .inr (.inr ⟨_,cA _,an (zj ?_)⟩);refine ah ?_;refine cd rfl ?_;refine cm ?_;refine cJ ?_;simp -dsimp only[simprocAttr,↓aa,zp,vo];refine⟨ob (by kernel_rfl),?_⟩;refine ah ?_;refine cN rfl ?_;refine ay (ah ?_);refine aq ?_;simp -dsimp only[simprocAttr,↓aa,zp,zr,Tryz.results137,ck];refine⟨br,fg,?_⟩;simp[Mach.effect,jq,hk,ha,hb]
   refine zf true O.length Tryz.func137 Tryz.ntmps137 ?_;dsimp only[Tmp,TypeId,slotsOf];refine ay (ah ?_);refine bU 4 0 ([aI i.to,aI i.op,aI i.n,aT i.args]) rfl rfl (by rfl) ?_;simp -dsimp only[simprocAttr,↓aa,zp];refine cb (ah ?_);refine ai ?_;refine aS ?_;simp -dsimp only[simprocAttr,↓aa,zp,ka];refine ah ?_;refine cd rfl ?_;refine aS ?_;simp -dsimp only[simprocAttr,↓aa,zp,oA];refine ah ?_;refine cd rfl ?_;refine aS ?_;simp -dsimp only[simprocAttr,↓aa,zp,sN];refine ah ?_;refine cN rfl ?_;refine cb ?_;refine .inr (.inr ⟨_,cA _,an (zj ?_)⟩);refine ah ?_;refine cd rfl ?_;refine cm ?_;refine cJ ?_;simp -dsimp only[simprocAttr,↓aa,zp,vo,Aq];refine⟨ob (by kernel_rfl),?_⟩;refine ah ?_;refine cN rfl ?_;refine ay (ah ?_);refine aq ?_;simp -dsimp only[simprocAttr,↓aa,zp,zr,Tryz.results137,ck];refine⟨br,fg,?_⟩;simp[Mach.effect,jq,hk,ha,hb]
  have vo:decide (x.n<0)=false:=decide_eq_false (by omega);have Aq:decide (y.n<=x.n)=false:=decide_eq_false (by omega);refine zf true O.length Tryz.func137 Tryz.ntmps137 ?_;dsimp only[Tmp,TypeId,slotsOf];refine ay (ah ?_);refine bU 4 0 ([aI i.to,aI i.op,aI i.n,aT i.args]) rfl rfl (by rfl) ?_;simp -dsimp only[simprocAttr,↓aa,zp];refine cb (ah ?_);refine ai ?_;refine aS ?_;simp -dsimp only[simprocAttr,↓aa,zp,ka];refine ah ?_;refine cd rfl ?_;refine aS ?_;simp -dsimp only[simprocAttr,↓aa,zp,oA];refine ah ?_;refine cd rfl ?_;refine aS ?_;simp -dsimp only[simprocAttr,↓aa,zp,sN];refine ah ?_;refine cN rfl ?_;refine cb ?_;refine .inr (.inr ⟨_,cA _,an (zj ?_)⟩);refine ah ?_;refine cd rfl ?_;refine cm ?_;refine cJ ?_;simp -dsimp only[simprocAttr,↓aa,zp,vo,Aq];refine⟨ob (by kernel_rfl),?_⟩;refine ah ?_;refine cd rfl ?_;refine cm ?_;refine ay ?_;refine .inl ⟨_,cI 0,by simp only[au,ae.upto,zt,zu,av],an ?_⟩;simp -dsimp only[simprocAttr,↓aa,zp,da];refine ah ?_;refine aq ?_;simp -dsimp only[simprocAttr,↓aa,zp,zr,Tryz.results137,eL];refine⟨br,kQ,?_⟩;simp[Mach.effect,jq,hk,ha,hb]
def Lq(m m':Mach)(a:Option Nat)(O O':List al):Prop :=
 (O'=O∧m'=m)∨∃(lL eo k:Nat) (z:SV) (l:List SV),a=some lL∧O[lL]?=some (.cells [.ms eo 0 l.length l.length])∧O[eo]?=some (.cells (ao (l.map SV.enc)))∧k<l.length∧l=Mach.gR m.heap a∧SV.bc O.length z ∧
  O'=O.set eo (.cells (ao ((l.set k z).map SV.enc)))∧m' = { m with heap:=Mach.jI m.heap a (l.set k z) }
theorem CP{m:Mach}{O:List al}(br:∀o∈O,o.upto O.length)(i:Ins)(args:List SV)(hl:∀v∈args,SV.bc O.length v)(x:SV)(hx:args[0]?=some x)
  (yb:i.op≠15) (wR:i.op≠16) (y7:i.op≠18) (h1:i.op≠17->∃y,args[1]?=some y) (h2:i.op≠17->i.op≠19->∃z,args[2]?=some z)
  (hu:∀v∈Mach.gR m.heap x.arr,SV.bc O.length v) (ha:x.kind=3->∃lL eo,x.arr=some lL∧O[lL]?=some (.cells [.ms eo 0 (Mach.gR m.heap x.arr).length (Mach.gR m.heap x.arr).length])∧O[eo]?=some (.cells (ao ((Mach.gR m.heap x.arr).map SV.enc)))) :
  ∃O',ba Tryz.prog 137 O [.mp 2 0,i.enc,.aB 4 (args.map SV.enc) .sh] (fun r O1=>r=.cK [(m.effect i args).2.1.enc,aI (m.effect i args).2.2]∧O1=O')∧Lq m (m.effect i args).1 x.arr O O':=by
 have qq:=fo hx;have ka:decide (i.op=15)=false:=decide_eq_false (by omega);have oA:decide (i.op=16)=false:=decide_eq_false (by omega);have sN:decide (i.op=18)=false:=decide_eq_false (by omega);by_cases hk:x.kind=3
 ·have OC:decide (x.kind=3)=true:=decide_eq_true hk;obtain⟨lL,eo,e1,e2,e3⟩:=ha hk;have SQ:eP x.arr=.mp lL 0:=by rw[e1];rfl
  have Xg:=hu;generalize hL:Mach.gR m.heap x.arr=L at *;have Sd:∀X,(O++X)[lL]?=some (.cells [.ms eo 0 L.length L.length]):=fun X=>cj e2;have W5:∀X,(O++X)[eo]?=some (.cells (ao (L.map SV.enc))):=fun X=>cj e3;by_cases L6:i.op=17
  ·have sM:decide (i.op=17)=true:=decide_eq_true L6;have dS:m.effect i args=(m,.word L.length,0):=by simp[Mach.effect,L6,qq,hk,hL]
   rw[dS];refine⟨O,?_,.inl ⟨rfl,rfl⟩⟩;refine zf true O.length Tryz.func137 Tryz.ntmps137 ?_;dsimp only[Tmp,TypeId,slotsOf];refine ay (ah ?_);refine bU 4 0 ([aI i.to,aI i.op,aI i.n,aT i.args]) rfl rfl (by rfl) ?_;simp -dsimp only[simprocAttr,↓aa,zp];refine cb (ah ?_);refine ai ?_;refine aS ?_;simp -dsimp only[simprocAttr,↓aa,zp,ka];refine ah ?_;refine cd rfl ?_;refine aS ?_;simp -dsimp only[simprocAttr,↓aa,zp,oA];refine ah ?_;refine cd rfl ?_;refine aS ?_;simp -dsimp only[simprocAttr,↓aa,zp,sN];refine ah ?_;refine cd rfl ?_;refine kA ?_;refine cJ ?_;simp -dsimp only[simprocAttr,↓aa,zp,hx,OC,sM];refine ah ?_;refine cd rfl ?_;refine cm ?_;refine aS ?_;simp -dsimp only[simprocAttr,↓aa,zp,hx,SQ,Sd];refine ah ?_;refine cJ ?_;simp -dsimp only[simprocAttr,↓aa,zp,sM];refine ah ?_;refine cN rfl ?_;refine ay ?_;refine .inl ⟨_,cI L.length,by simp only[au,ae.upto,zt,zu,av],an ?_⟩;simp -dsimp only[simprocAttr,↓aa,zp,da];refine ah ?_;refine aq ?_;simp -dsimp only[simprocAttr,↓aa,zp,zr,Tryz.results137,eL];exact⟨br,kQ⟩
  have sM:decide (i.op=17)=false:=decide_eq_false L6;obtain⟨y,hy⟩:=h1 L6;have Rp:=fo hy;by_cases GP:y.kind=0
  ·have RM:decide (y.kind=0)=true:=decide_eq_true GP;by_cases hb:y.n<0∨(L.length:Int)<=y.n
   ·have dS:m.effect i args=(m,.zero,2):=by simp[Mach.effect,yb,wR,y7,L6,qq,Rp,hk,GP,hL,hb]
    rw[dS];refine⟨O,?_,.inl ⟨rfl,rfl⟩⟩;rcases(show y.n<0∨(¬y.n<0∧(L.length:Int)<=y.n) by omega)with UA|⟨UA,EH⟩
    ·have vo:decide (y.n<0)=true:=decide_eq_true UA;refine zf true O.length Tryz.func137 Tryz.ntmps137 ?_;dsimp only[Tmp,TypeId,slotsOf];refine ay (ah ?_);refine bU 4 0 ([aI i.to,aI i.op,aI i.n,aT i.args]) rfl rfl (by rfl) ?_;simp -dsimp only[simprocAttr,↓aa,zp];refine cb (ah ?_);refine ai ?_;refine aS ?_;simp -dsimp only[simprocAttr,↓aa,zp,ka];refine ah ?_;refine cd rfl ?_;refine aS ?_;simp -dsimp only[simprocAttr,↓aa,zp,oA];refine ah ?_;refine cd rfl ?_;refine aS ?_;simp -dsimp only[simprocAttr,↓aa,zp,sN];refine ah ?_;refine cd rfl ?_;refine kA ?_;refine cJ ?_;simp -dsimp only[simprocAttr,↓aa,zp,hx,hy,OC,sM,RM];refine ah ?_;refine cd rfl ?_;refine cm ?_;refine aS ?_;simp -dsimp only[simprocAttr,↓aa,zp,hx,SQ,Sd];refine ah ?_;refine cJ ?_;simp -dsimp only[simprocAttr,↓aa,zp,sM];refine ah ?_;refine cd rfl ?_;refine cm ?_;refine aS ?_;simp -dsimp only[simprocAttr,↓aa,zp,hy];refine ah ?_;refine cJ ?_;simp -dsimp only[simprocAttr,↓aa,zp,vo];refine ah ?_;refine cN rfl ?_;refine ay (ah ?_);refine aq ?_;simp -dsimp only[simprocAttr,↓aa,zp,zr,Tryz.results137,ck];exact⟨br,fg⟩
    have vo:decide (y.n<0)=false:=decide_eq_false UA;have Aq:decide ((L.length:Int)<=y.n)=true:=decide_eq_true EH;refine zf true O.length Tryz.func137 Tryz.ntmps137 ?_;dsimp only[Tmp,TypeId,slotsOf];refine ay (ah ?_);refine bU 4 0 ([aI i.to,aI i.op,aI i.n,aT i.args]) rfl rfl (by rfl) ?_;simp -dsimp only[simprocAttr,↓aa,zp];refine cb (ah ?_);refine ai ?_;refine aS ?_;simp -dsimp only[simprocAttr,↓aa,zp,ka];refine ah ?_;refine cd rfl ?_;refine aS ?_;simp -dsimp only[simprocAttr,↓aa,zp,oA];refine ah ?_;refine cd rfl ?_;refine aS ?_;simp -dsimp only[simprocAttr,↓aa,zp,sN];refine ah ?_;refine cd rfl ?_;refine kA ?_;refine cJ ?_;simp -dsimp only[simprocAttr,↓aa,zp,hx,hy,OC,sM,RM];refine ah ?_;refine cd rfl ?_;refine cm ?_;refine aS ?_;simp -dsimp only[simprocAttr,↓aa,zp,hx,SQ,Sd];refine ah ?_;refine cJ ?_;simp -dsimp only[simprocAttr,↓aa,zp,sM];refine ah ?_;refine cd rfl ?_;refine cm ?_;refine aS ?_;simp -dsimp only[simprocAttr,↓aa,zp,hy];refine ah ?_;refine cJ ?_;simp -dsimp only[simprocAttr,↓aa,zp,vo,Aq];refine ah ?_;refine cN rfl ?_;refine ay (ah ?_);refine aq ?_;simp -dsimp only[simprocAttr,↓aa,zp,zr,Tryz.results137,ck];exact⟨br,fg⟩
   have vo:decide (y.n<0)=false:=decide_eq_false (by omega);have Aq:decide ((L.length:Int)<=y.n)=false:=decide_eq_false (by omega);obtain⟨k,mN⟩:∃k:Nat,y.n=k:=⟨y.n.toNat,by omega⟩
   have yg:k<L.length:=by omega
   have de:=SV.MY L;by_cases Sj:i.op=19
   ·have PH:decide (i.op=19)=true:=decide_eq_true Sj;obtain⟨z,hz⟩:∃z,L[k]?=some z:=⟨L[k],by simp[yg]⟩
    have Sz:=fo hz;have fQ:=SV.FB hz;have ME:SV.bc O.length z:=Xg z (List.mem_of_getElem? hz);have dS:m.effect i args=(m,z,0):=by simp[Mach.effect,L6,Sj,qq,Rp,hk,GP,hL,hb,mN,Sz,yg]
    rw[dS];refine⟨O,?_,.inl ⟨rfl,rfl⟩⟩;refine zf true O.length Tryz.func137 Tryz.ntmps137 ?_;dsimp only[Tmp,TypeId,slotsOf];refine ay (ah ?_);refine bU 4 0 ([aI i.to,aI i.op,aI i.n,aT i.args]) rfl rfl (by rfl) ?_;simp -dsimp only[simprocAttr,↓aa,zp];refine cb (ah ?_);refine ai ?_;refine aS ?_;simp -dsimp only[simprocAttr,↓aa,zp,ka];refine ah ?_;refine cd rfl ?_;refine aS ?_;simp -dsimp only[simprocAttr,↓aa,zp,oA];refine ah ?_;refine cd rfl ?_;refine aS ?_;simp -dsimp only[simprocAttr,↓aa,zp,sN];refine ah ?_;refine cd rfl ?_;refine kA ?_;refine cJ ?_;simp -dsimp only[simprocAttr,↓aa,zp,hx,hy,OC,sM,RM];refine ah ?_;refine cd rfl ?_;refine cm ?_;refine aS ?_;simp -dsimp only[simprocAttr,↓aa,zp,hx,SQ,Sd];refine ah ?_;refine cJ ?_;simp -dsimp only[simprocAttr,↓aa,zp,sM];refine ah ?_;refine cd rfl ?_;refine cm ?_;refine aS ?_;simp -dsimp only[simprocAttr,↓aa,zp,hy];refine ah ?_;refine cJ ?_;simp -dsimp only[simprocAttr,↓aa,zp,vo,Aq];refine ah ?_;refine cd rfl ?_;refine cm ?_;refine cJ ?_;simp -dsimp only[simprocAttr,↓aa,zp,PH];refine ah ?_;refine cN rfl ?_;refine aS ?_;simp -dsimp only[simprocAttr,↓aa,zp,mN,W5,de,fQ]
    repeat(refine⟨by omega,?_⟩)
    refine ah ?_;refine aq ?_;simp -dsimp only[simprocAttr,↓aa,zp,zr,Tryz.results137];exact⟨br,uU ME⟩
   have PH:decide (i.op=19)=false:=decide_eq_false Sj;obtain⟨z,hz⟩:=h2 L6 Sj;have Sz:=fo hz;have gh:=SV.MZ yg z;rw[SV.aj]at gh;have ME:SV.bc O.length z:=hl z (List.mem_of_getElem? hz);have dS:m.effect i args=({ m with heap:=Mach.jI m.heap x.arr (L.set k z) },.word 0,0):=by simp[Mach.effect,yb,wR,y7,L6,Sj,qq,Rp,hk,GP,hL,hb,mN,Sz,yg]
   rw[dS];obtain⟨O1,dD⟩:∃O1,O1=O.set eo (.cells (ao ((L.set k z).map SV.enc))):=⟨_,rfl⟩
   have hlen:O.length=O1.length:=by rw[dD];simp
   have eg:∀o∈O1,o.upto O1.length:=by
    rw[<-hlen,dD];refine bR br (SV.iM fun v hv=>?_);rcases List.mem_or_eq_of_mem_set hv with q|q
    ·exact Xg v q
    exact q ▸ ME
   have vS:∀X y,(O++X).set eo y=O.set eo y++X:=fun X y=>kk e3;refine⟨O1,?_,.inr ⟨lL,eo,k,z,L,e1,e2,e3,yg,hL.symm,ME,dD,rfl⟩⟩;refine zf true O.length Tryz.func137 Tryz.ntmps137 ?_;dsimp only[Tmp,TypeId,slotsOf];refine ay (ah ?_);refine bU 4 0 ([aI i.to,aI i.op,aI i.n,aT i.args]) rfl rfl (by rfl) ?_;simp -dsimp only[simprocAttr,↓aa,zp];refine cb (ah ?_);refine ai ?_;refine aS ?_;simp -dsimp only[simprocAttr,↓aa,zp,ka];refine ah ?_;refine cd rfl ?_;refine aS ?_;simp -dsimp only[simprocAttr,↓aa,zp,oA];refine ah ?_;refine cd rfl ?_;refine aS ?_;simp -dsimp only[simprocAttr,↓aa,zp,sN];refine ah ?_;refine cd rfl ?_;refine kA ?_;refine cJ ?_;simp -dsimp only[simprocAttr,↓aa,zp,hx,hy,OC,sM,RM];refine ah ?_;refine cd rfl ?_;refine cm ?_;refine aS ?_;simp -dsimp only[simprocAttr,↓aa,zp,hx,SQ,Sd];refine ah ?_;refine cJ ?_;simp -dsimp only[simprocAttr,↓aa,zp,sM];refine ah ?_;refine cd rfl ?_;refine cm ?_;refine aS ?_;simp -dsimp only[simprocAttr,↓aa,zp,hy];refine ah ?_;refine cJ ?_;simp -dsimp only[simprocAttr,↓aa,zp,vo,Aq];refine ah ?_;refine cd rfl ?_;refine cm ?_;refine cJ ?_;simp -dsimp only[simprocAttr,↓aa,zp,PH];refine ah ?_;refine cd rfl ?_;refine cm ?_;refine aS ?_;simp -dsimp only[simprocAttr,↓aa,zp,mN,hz,W5,de,SV.cV,gh,vS,<-dD]
   repeat(refine⟨by omega,?_⟩)
   refine ah ?_;refine aS ?_;simp -dsimp only[simprocAttr,↓aa,zp,hlen];refine .inl ⟨_,cI 0,by simp only[au,ae.upto,zt,zu,av],an ?_⟩;simp -dsimp only[simprocAttr,↓aa,zp,da];refine ah ?_;refine aq ?_;simp -dsimp only[simprocAttr,↓aa,zp,zr,Tryz.results137,eL,hlen];exact⟨eg,kQ⟩
  have RM:decide (y.kind=0)=false:=decide_eq_false GP;have dS:m.effect i args=(m,.zero,5):=by simp[Mach.effect,yb,wR,y7,L6,qq,Rp,hk,GP]
  rw[dS];refine⟨O,?_,.inl ⟨rfl,rfl⟩⟩;refine zf true O.length Tryz.func137 Tryz.ntmps137 ?_;dsimp only[Tmp,TypeId,slotsOf];refine ay (ah ?_);refine bU 4 0 ([aI i.to,aI i.op,aI i.n,aT i.args]) rfl rfl (by rfl) ?_;simp -dsimp only[simprocAttr,↓aa,zp];refine cb (ah ?_);refine ai ?_;refine aS ?_;simp -dsimp only[simprocAttr,↓aa,zp,ka];refine ah ?_;refine cd rfl ?_;refine aS ?_;simp -dsimp only[simprocAttr,↓aa,zp,oA];refine ah ?_;refine cd rfl ?_;refine aS ?_;simp -dsimp only[simprocAttr,↓aa,zp,sN];refine ah ?_;refine cd rfl ?_;refine kA ?_;refine cJ ?_;simp -dsimp only[simprocAttr,↓aa,zp,hx,hy,OC,sM,RM];refine ah ?_;refine cN rfl ?_;refine ay (ah ?_);refine aq ?_;simp -dsimp only[simprocAttr,↓aa,zp,zr,Tryz.results137,ck];exact⟨br,fg⟩
 have OC:decide (x.kind=3)=false:=decide_eq_false hk;have dS:m.effect i args=(m,.zero,5):=by simp[Mach.effect,yb,wR,y7,qq,hk]
 rw[dS];refine⟨O,?_,.inl ⟨rfl,rfl⟩⟩;refine zf true O.length Tryz.func137 Tryz.ntmps137 ?_;dsimp only[Tmp,TypeId,slotsOf];refine ay (ah ?_);refine bU 4 0 ([aI i.to,aI i.op,aI i.n,aT i.args]) rfl rfl (by rfl) ?_;simp -dsimp only[simprocAttr,↓aa,zp];refine cb (ah ?_);refine ai ?_;refine aS ?_;simp -dsimp only[simprocAttr,↓aa,zp,ka];refine ah ?_;refine cd rfl ?_;refine aS ?_;simp -dsimp only[simprocAttr,↓aa,zp,oA];refine ah ?_;refine cd rfl ?_;refine aS ?_;simp -dsimp only[simprocAttr,↓aa,zp,sN];refine ah ?_;refine cd rfl ?_;refine kA ?_;refine cJ ?_;simp -dsimp only[simprocAttr,↓aa,zp,hx,OC];refine ah ?_;refine cN rfl ?_;refine ay (ah ?_);refine aq ?_;simp -dsimp only[simprocAttr,↓aa,zp,zr,Tryz.results137,ck];exact⟨br,fg⟩
theorem IU{u:cf}{m:Mach}{O:List al}(br:∀o∈O,o.upto O.length)(i:Ins)(args:List SV)(hl:∀v∈args,SV.bc O.length v)(jq:i.op=0):ba Tryz.prog 115 O [.mp 2 0,i.enc,.aB 4 (args.map SV.enc) .sh] (fun r O'=>r=.cK [(m.exec i args).2.1.enc,aI (m.exec i args).2.2]∧O'=O):=by
 refine zf true O.length Tryz.func115 Tryz.ntmps115 ?_;dsimp only[Tmp,TypeId,slotsOf];refine ay (ah ?_);refine bU 4 0 ([aI i.to,aI i.op,aI i.n,aT i.args]) rfl rfl (by rfl) ?_;simp -dsimp only[simprocAttr,↓aa,zp];refine cb (ah ?_);refine ai ?_;refine ay (ah ?_);apply aM rfl<;>intro h
 ·refine ay ?_;refine .inl ⟨_,cI i.n,by simp only[au,ae.upto,zt,zu,av],an ?_⟩;simp -dsimp only[simprocAttr,↓aa,zp,da];refine ah ?_;refine aq ?_;simp -dsimp only[simprocAttr,↓aa,zp,zr,Tryz.results115,eL];refine⟨br,kQ,?_⟩;simp[Mach.exec,jq]
 exact af h (by omega)
theorem CT{u:cf}{m:Mach}{O:List al}(br:∀o∈O,o.upto O.length)(i:Ins)(args:List SV)(hl:∀v∈args,SV.bc O.length v)(jq:1<=i.op∧i.op<=7)(x y:SV)(hx:args[0]?=some x)(hy:args[1]?=some y)(E0:x.kind=0->fG x.n)(T5:y.kind=0->fG y.n):ba Tryz.prog 115 O [.mp 2 0,i.enc,.aB 4 (args.map SV.enc) .sh] (fun r O'=>r=.cK [(m.exec i args).2.1.enc,aI (m.exec i args).2.2]∧O'=O):=by
 have qq:=fo hx;have Rp:=fo hy;have cA:=xI br args hl 0;have h0:i.op≠0:=by omega
 cases hk:j5 args 0 with
 | false =>
  rw[hk]at cA;refine zf true O.length Tryz.func115 Tryz.ntmps115 ?_;dsimp only[Tmp,TypeId,slotsOf];refine ay (ah ?_);refine bU 4 0 ([aI i.to,aI i.op,aI i.n,aT i.args]) rfl rfl (by rfl) ?_;simp -dsimp only[simprocAttr,↓aa,zp];refine cb (ah ?_);refine ai ?_;refine ay (ah ?_);apply aM rfl<;>intro h
  ·exact ab h (by omega)
  refine cb (ah ?_);refine jf (⟨82,[(0,.mp 2 0),(2,.aB 4 (args.map SV.enc) .sh),(4,.ip none [aI i.to,aI i.op,aI i.n,aT i.args]),(6,.mp (O.length+1) 0),(7,aI 0),(9,aI i.op),(15,.v (.bool true))],O++[.gone,.cells [aI 0,aI 0,.aB 4 [] .ex,.v (.pointer none)]]⟩) ?_ ?_
  ·apply aM rfl<;>intro h
   ·refine a6 ?_;show bd _ _;refine zq rfl ?_ ?_;simp -dsimp only[simprocAttr,↓aa,zp,zc]
    ·exact Sub.of_eq (by rw[h])
    rfl
   refine ay (ah ?_);apply aM rfl<;>intro h
   ·refine a6 ?_;show bd _ _;refine zq rfl ?_ ?_;simp -dsimp only[simprocAttr,↓aa,zp,zc]
    ·exact Sub.of_eq (by rw[h])
    rfl
   refine ay (ah ?_);apply aM rfl<;>intro h
   ·refine a6 ?_;show bd _ _;refine zq rfl ?_ ?_;simp -dsimp only[simprocAttr,↓aa,zp,zc]
    ·exact Sub.of_eq (by rw[h])
    rfl
   refine ay (ah ?_);apply aM rfl<;>intro h
   ·refine a6 ?_;show bd _ _;refine zq rfl ?_ ?_;simp -dsimp only[simprocAttr,↓aa,zp,zc]
    ·exact Sub.of_eq (by rw[h])
    rfl
   refine ay (ah ?_);apply aM rfl<;>intro h
   ·refine a6 ?_;show bd _ _;refine zq rfl ?_ ?_;simp -dsimp only[simprocAttr,↓aa,zp,zc]
    ·exact Sub.of_eq (by rw[h])
    rfl
   refine ay (ah ?_);apply aM rfl<;>intro h
   ·refine a6 ?_;show bd _ _;refine zq rfl ?_ ?_;simp -dsimp only[simprocAttr,↓aa,zp,zc]
    ·exact Sub.of_eq (by rw[h])
    rfl
   refine cF ?_;refine aV ?_;show bd _ _;refine zq rfl ?_ ?_;simp -dsimp only[simprocAttr,↓aa,zp,zc]
   ·exact Sub.of_eq (by rw[decide_eq_true (show i.op=7 by simp only[decide_eq_false_iff_not]at *;omega)])
   rfl
  refine cN rfl ?_;refine cb ?_;refine .inr (.inr ⟨_,cA _,an (zj ?_)⟩);refine ah ?_;refine cN rfl ?_;refine ay (ah ?_);refine aq ?_;simp -dsimp only[simprocAttr,↓aa,zp,zr,Tryz.results115,ck];refine⟨br,fg,?_⟩;simp[Mach.exec,jq,h0,hk]
 | true =>
  rw[hk]at cA;have ZB:x.kind=0:=by
   simp only[j5,List.all_eq_true,decide_eq_true_eq]at hk;exact hk x (List.mem_of_getElem? hx)
  have ZC:y.kind=0:=by
   simp only[j5,List.all_eq_true,decide_eq_true_eq]at hk;exact hk y (List.mem_of_getElem? hy)
  have Vu:=rW i.op x.n y.n (E0 ZB) (T5 ZC);have SE:=oG O.length i.op x.n y.n;have dS:m.exec i args=(m,cX i.op x.n y.n):=by simp[Mach.exec,jq,h0,hk,qq,Rp]
  rw[dS];generalize cX i.op x.n y.n=B at *;refine zf true O.length Tryz.func115 Tryz.ntmps115 ?_;dsimp only[Tmp,TypeId,slotsOf];refine ay (ah ?_);refine bU 4 0 ([aI i.to,aI i.op,aI i.n,aT i.args]) rfl rfl (by rfl) ?_;simp -dsimp only[simprocAttr,↓aa,zp];refine cb (ah ?_);refine ai ?_;refine ay (ah ?_);apply aM rfl<;>intro h
  ·exact ab h (by omega)
  refine cb (ah ?_);refine jf (⟨82,[(0,.mp 2 0),(2,.aB 4 (args.map SV.enc) .sh),(4,.ip none [aI i.to,aI i.op,aI i.n,aT i.args]),(6,.mp (O.length+1) 0),(7,aI 0),(9,aI i.op),(15,.v (.bool true))],O++[.gone,.cells [aI 0,aI 0,.aB 4 [] .ex,.v (.pointer none)]]⟩) ?_ ?_
  ·apply aM rfl<;>intro h
   ·refine a6 ?_;show bd _ _;refine zq rfl ?_ ?_;simp -dsimp only[simprocAttr,↓aa,zp,zc]
    ·exact Sub.of_eq (by rw[h])
    rfl
   refine ay (ah ?_);apply aM rfl<;>intro h
   ·refine a6 ?_;show bd _ _;refine zq rfl ?_ ?_;simp -dsimp only[simprocAttr,↓aa,zp,zc]
    ·exact Sub.of_eq (by rw[h])
    rfl
   refine ay (ah ?_);apply aM rfl<;>intro h
   ·refine a6 ?_;show bd _ _;refine zq rfl ?_ ?_;simp -dsimp only[simprocAttr,↓aa,zp,zc]
    ·exact Sub.of_eq (by rw[h])
    rfl
   refine ay (ah ?_);apply aM rfl<;>intro h
   ·refine a6 ?_;show bd _ _;refine zq rfl ?_ ?_;simp -dsimp only[simprocAttr,↓aa,zp,zc]
    ·exact Sub.of_eq (by rw[h])
    rfl
   refine ay (ah ?_);apply aM rfl<;>intro h
   ·refine a6 ?_;show bd _ _;refine zq rfl ?_ ?_;simp -dsimp only[simprocAttr,↓aa,zp,zc]
    ·exact Sub.of_eq (by rw[h])
    rfl
   refine ay (ah ?_);apply aM rfl<;>intro h
   ·refine a6 ?_;show bd _ _;refine zq rfl ?_ ?_;simp -dsimp only[simprocAttr,↓aa,zp,zc]
    ·exact Sub.of_eq (by rw[h])
    rfl
   refine cF ?_;refine aV ?_;show bd _ _;refine zq rfl ?_ ?_;simp -dsimp only[simprocAttr,↓aa,zp,zc]
   ·exact Sub.of_eq (by rw[decide_eq_true (show i.op=7 by simp only[decide_eq_false_iff_not]at *;omega)])
   rfl
  refine cN rfl ?_;refine cb ?_;refine .inr (.inr ⟨_,cA _,an (zj ?_)⟩);refine ah ?_;refine cd rfl ?_;refine cm ?_;refine aS ?_;simp -dsimp only[simprocAttr,↓aa,zp,hx,hy];refine zi Vu ?_;refine⟨ob (by kernel_rfl),?_⟩;refine ah ?_;refine aq ?_;simp -dsimp only[simprocAttr,↓aa,zp,zr,Tryz.results115];exact⟨br,uU SE⟩
theorem IT{u:cf}{m:Mach}{O:List al}(br:∀o∈O,o.upto O.length)(i:Ins)(args:List SV)(hl:∀v∈args,SV.bc O.length v)(jq:i.op=8):ba Tryz.prog 115 O [.mp 2 0,i.enc,.aB 4 (args.map SV.enc) .sh] (fun r O'=>r=.cK [(m.exec i args).2.1.enc,aI (m.exec i args).2.2]∧O'=O):=by
 have hz:=(SV.bc.mk (k:=1) (m:=i.n) (a:=none) (by simp) hl).aL;rw[SV.jC]at hz;refine zf true O.length Tryz.func115 Tryz.ntmps115 ?_;dsimp only[Tmp,TypeId,slotsOf];refine ay (ah ?_);refine bU 4 0 ([aI i.to,aI i.op,aI i.n,aT i.args]) rfl rfl (by rfl) ?_;simp -dsimp only[simprocAttr,↓aa,zp];refine cb (ah ?_);refine ai ?_;refine ay (ah ?_);apply aM rfl<;>intro h
 ·exact ab h (by omega)
 refine cb (ah ?_);apply aM rfl<;>intro h
 ·exact ab h (by omega)
 refine ay (ah ?_);apply aM rfl<;>intro h
 ·exact ab h (by omega)
 refine ay (ah ?_);apply aM rfl<;>intro h
 ·exact ab h (by omega)
 refine ay (ah ?_);apply aM rfl<;>intro h
 ·exact ab h (by omega)
 refine ay (ah ?_);apply aM rfl<;>intro h
 ·exact ab h (by omega)
 refine ay (ah ?_);apply aM rfl<;>intro h
 ·exact ab h (by omega)
 refine cF (ah ?_);apply aM rfl<;>intro h
 ·exact ab h (by omega)
 refine ay (ah ?_);apply aM rfl<;>intro h
 ·refine ay (ah ?_);refine aq ?_;simp -dsimp only[simprocAttr,↓aa,zp,zr,Tryz.results115];refine⟨br,⟨hz,trivial,trivial⟩,?_⟩;simp[Mach.exec,jq,SV.jC,eP]
 exact af h (by omega)
theorem Gj{u:cf}{m:Mach}{O:List al}(br:∀o∈O,o.upto O.length)(i:Ins)(args:List SV)(hl:∀v∈args,SV.bc O.length v)(jq:i.op=9):ba Tryz.prog 115 O [.mp 2 0,i.enc,.aB 4 (args.map SV.enc) .sh] (fun r O'=>r=.cK [(m.exec i args).2.1.enc,aI (m.exec i args).2.2]∧O'=O):=by
 have hz:=(SV.bc.mk (k:=2) (m:=i.n) (a:=none) (by simp) hl).aL;rw[SV.jC]at hz;refine zf true O.length Tryz.func115 Tryz.ntmps115 ?_;dsimp only[Tmp,TypeId,slotsOf];refine ay (ah ?_);refine bU 4 0 ([aI i.to,aI i.op,aI i.n,aT i.args]) rfl rfl (by rfl) ?_;simp -dsimp only[simprocAttr,↓aa,zp];refine cb (ah ?_);refine ai ?_;refine ay (ah ?_);apply aM rfl<;>intro h
 ·exact ab h (by omega)
 refine cb (ah ?_);apply aM rfl<;>intro h
 ·exact ab h (by omega)
 refine ay (ah ?_);apply aM rfl<;>intro h
 ·exact ab h (by omega)
 refine ay (ah ?_);apply aM rfl<;>intro h
 ·exact ab h (by omega)
 refine ay (ah ?_);apply aM rfl<;>intro h
 ·exact ab h (by omega)
 refine ay (ah ?_);apply aM rfl<;>intro h
 ·exact ab h (by omega)
 refine ay (ah ?_);apply aM rfl<;>intro h
 ·exact ab h (by omega)
 refine cF (ah ?_);apply aM rfl<;>intro h
 ·exact ab h (by omega)
 refine ay (ah ?_);apply aM rfl<;>intro h
 ·exact ab h (by omega)
 refine ay (ah ?_);apply aM rfl<;>intro h
 ·refine ay (ah ?_);refine aq ?_;simp -dsimp only[simprocAttr,↓aa,zp,zr,Tryz.results115];refine⟨br,⟨hz,trivial,trivial⟩,?_⟩;simp[Mach.exec,jq,SV.jC,eP]
 exact af h (by omega)
theorem IV{u:cf}{m:Mach}{O:List al}(br:∀o∈O,o.upto O.length)(i:Ins)(args:List SV)(hl:∀v∈args,SV.bc O.length v)(jq:i.op=10∨i.op=11∨i.op=12∨i.op=21)(hC:ba Tryz.prog 135 O [i.enc,.aB 4 (args.map SV.enc) .sh] (fun r O'=>r=.cK [(cG i args).1.enc,aI (cG i args).2]∧O'=O))(hR:SV.bc O.length (cG i args).1):ba Tryz.prog 115 O [.mp 2 0,i.enc,.aB 4 (args.map SV.enc) .sh] (fun r O'=>r=.cK [(m.exec i args).2.1.enc,aI (m.exec i args).2.2]∧O'=O):=by
 have dM:=ba.frame hC rfl ⟨i.aL _,⟨SV.ag hl,trivial⟩,trivial⟩ br;have dS:m.exec i args=(m,cG i args):=by
  unfold Mach.exec;rw[if_neg (by omega),if_neg (by omega),if_neg (by omega),if_neg (by omega),if_pos jq]
 rw[dS];generalize cG i args=B at *;refine zf true O.length Tryz.func115 Tryz.ntmps115 ?_;dsimp only[Tmp,TypeId,slotsOf];refine ay (ah ?_);refine bU 4 0 ([aI i.to,aI i.op,aI i.n,aT i.args]) rfl rfl (by rfl) ?_;simp -dsimp only[simprocAttr,↓aa,zp];refine cb (ah ?_);refine ai ?_;refine ay (ah ?_);apply aM rfl<;>intro h
 ·exact ab h (by omega)
 refine cb (ah ?_);apply aM rfl<;>intro h
 ·exact ab h (by omega)
 refine ay (ah ?_);apply aM rfl<;>intro h
 ·exact ab h (by omega)
 refine ay (ah ?_);apply aM rfl<;>intro h
 ·exact ab h (by omega)
 refine ay (ah ?_);apply aM rfl<;>intro h
 ·exact ab h (by omega)
 refine ay (ah ?_);apply aM rfl<;>intro h
 ·exact ab h (by omega)
 refine ay (ah ?_);apply aM rfl<;>intro h
 ·exact ab h (by omega)
 refine cF (ah ?_);apply aM rfl<;>intro h
 ·exact ab h (by omega)
 refine ay (ah ?_);apply aM rfl<;>intro h
 ·exact ab h (by omega)
 refine ay (ah ?_);apply aM rfl<;>intro h
 ·exact ab h (by omega)
 refine cb (ah ?_);refine jf (⟨82,[(0,.mp 2 0),(2,.aB 4 (args.map SV.enc) .sh),(4,.ip none [aI i.to,aI i.op,aI i.n,aT i.args]),(6,.mp (O.length+1) 0),(7,aI 0),(9,aI i.op),(52,.v (.bool true))],O++[.gone,.cells [aI 0,aI 0,.aB 4 [] .ex,.v (.pointer none)]]⟩) ?_ ?_
 ·apply aM rfl<;>intro h
  ·refine a6 ?_;show bd _ _;refine zq rfl ?_ ?_;simp -dsimp only[simprocAttr,↓aa,zp,zc]
   ·exact Sub.of_eq (by rw[h])
   rfl
  refine ay (ah ?_);apply aM rfl<;>intro h
  ·refine a6 ?_;show bd _ _;refine zq rfl ?_ ?_;simp -dsimp only[simprocAttr,↓aa,zp,zc]
   ·exact Sub.of_eq (by rw[h])
   rfl
  refine ay (ah ?_);apply aM rfl<;>intro h
  ·refine a6 ?_;show bd _ _;refine zq rfl ?_ ?_;simp -dsimp only[simprocAttr,↓aa,zp,zc]
   ·exact Sub.of_eq (by rw[h])
   rfl
  refine cF ?_;refine aV ?_;show bd _ _;refine zq rfl ?_ ?_;simp -dsimp only[simprocAttr,↓aa,zp,zc]
  ·exact Sub.of_eq (by rw[decide_eq_true (show i.op=21 by simp only[decide_eq_false_iff_not]at *;omega)])
  rfl
 refine cN rfl ?_;refine ay ?_;refine .inr (.inr ⟨_,dM _,an (zj ?_)⟩);refine ah ?_;refine aq ?_;simp -dsimp only[simprocAttr,↓aa,zp,zr,Tryz.results115];exact⟨br,uU hR⟩
theorem IW{u:cf}{m:Mach}{O:List al}(br:∀o∈O,o.upto O.length)(i:Ins)(args:List SV)(hl:∀v∈args,SV.bc O.length v)(jq:i.op=22∨i.op=23∨i.op=24)(hC:ba Tryz.prog 136 O [i.enc,.aB 4 (args.map SV.enc) .sh] (fun r O'=>r=.cK [(cY i args).1.enc,aI (cY i args).2]∧O'=O))(hR:SV.bc O.length (cY i args).1):ba Tryz.prog 115 O [.mp 2 0,i.enc,.aB 4 (args.map SV.enc) .sh] (fun r O'=>r=.cK [(m.exec i args).2.1.enc,aI (m.exec i args).2.2]∧O'=O):=by
 have dM:=ba.frame hC rfl ⟨i.aL _,⟨SV.ag hl,trivial⟩,trivial⟩ br;have dS:m.exec i args=(m,cY i args):=by
  unfold Mach.exec;rw[if_neg (by omega),if_neg (by omega),if_neg (by omega),if_neg (by omega),if_neg (by omega),if_pos jq]
 rw[dS];generalize cY i args=B at *;refine zf true O.length Tryz.func115 Tryz.ntmps115 ?_;dsimp only[Tmp,TypeId,slotsOf];refine ay (ah ?_);refine bU 4 0 ([aI i.to,aI i.op,aI i.n,aT i.args]) rfl rfl (by rfl) ?_;simp -dsimp only[simprocAttr,↓aa,zp];refine cb (ah ?_);refine ai ?_;refine ay (ah ?_);apply aM rfl<;>intro h
 ·exact ab h (by omega)
 refine cb (ah ?_);apply aM rfl<;>intro h
 ·exact ab h (by omega)
 refine ay (ah ?_);apply aM rfl<;>intro h
 ·exact ab h (by omega)
 refine ay (ah ?_);apply aM rfl<;>intro h
 ·exact ab h (by omega)
 refine ay (ah ?_);apply aM rfl<;>intro h
 ·exact ab h (by omega)
 refine ay (ah ?_);apply aM rfl<;>intro h
 ·exact ab h (by omega)
 refine ay (ah ?_);apply aM rfl<;>intro h
 ·exact ab h (by omega)
 refine cF (ah ?_);apply aM rfl<;>intro h
 ·exact ab h (by omega)
 refine ay (ah ?_);apply aM rfl<;>intro h
 ·exact ab h (by omega)
 refine ay (ah ?_);apply aM rfl<;>intro h
 ·exact ab h (by omega)
 refine cb (ah ?_);apply aM rfl<;>intro h
 ·exact ab h (by omega)
 refine ay (ah ?_);apply aM rfl<;>intro h
 ·exact ab h (by omega)
 refine ay (ah ?_);apply aM rfl<;>intro h
 ·exact ab h (by omega)
 refine cF (ah ?_);apply aM rfl<;>intro h
 ·exact ab h (by omega)
 refine cb (ah ?_);refine jf (⟨82,[(0,.mp 2 0),(2,.aB 4 (args.map SV.enc) .sh),(4,.ip none [aI i.to,aI i.op,aI i.n,aT i.args]),(6,.mp (O.length+1) 0),(7,aI 0),(9,aI i.op),(62,.v (.bool true))],O++[.gone,.cells [aI 0,aI 0,.aB 4 [] .ex,.v (.pointer none)]]⟩) ?_ ?_
 ·apply aM rfl<;>intro h
  ·refine a6 ?_;show bd _ _;refine zq rfl ?_ ?_;simp -dsimp only[simprocAttr,↓aa,zp,zc]
   ·exact Sub.of_eq (by rw[h])
   rfl
  refine ay (ah ?_);apply aM rfl<;>intro h
  ·refine a6 ?_;show bd _ _;refine zq rfl ?_ ?_;simp -dsimp only[simprocAttr,↓aa,zp,zc]
   ·exact Sub.of_eq (by rw[h])
   rfl
  refine cF ?_;refine aV ?_;show bd _ _;refine zq rfl ?_ ?_;simp -dsimp only[simprocAttr,↓aa,zp,zc]
  ·exact Sub.of_eq (by rw[decide_eq_true (show i.op=24 by simp only[decide_eq_false_iff_not]at *;omega)])
  rfl
 refine cN rfl ?_;refine ay ?_;refine .inr (.inr ⟨_,dM _,an (zj ?_)⟩);refine ah ?_;refine aq ?_;simp -dsimp only[simprocAttr,↓aa,zp,zr,Tryz.results115];exact⟨br,uU hR⟩
theorem Gk{u:cf}{m:Mach}{O:List al}(br:∀o∈O,o.upto O.length)(i:Ins)(args:List SV)(hl:∀v∈args,SV.bc O.length v)(jq:i.op=100)(x:SV)(hx:args[0]?=some x):ba Tryz.prog 115 O [.mp 2 0,i.enc,.aB 4 (args.map SV.enc) .sh] (fun r O'=>r=.cK [(m.exec i args).2.1.enc,aI (m.exec i args).2.2]∧O'=O):=by
 have qq:=fo hx;have EZ:=hl x (List.mem_of_getElem? hx);refine zf true O.length Tryz.func115 Tryz.ntmps115 ?_;dsimp only[Tmp,TypeId,slotsOf];refine ay (ah ?_);refine bU 4 0 ([aI i.to,aI i.op,aI i.n,aT i.args]) rfl rfl (by rfl) ?_;simp -dsimp only[simprocAttr,↓aa,zp];refine cb (ah ?_);refine ai ?_;refine ay (ah ?_);apply aM rfl<;>intro h
 ·exact ab h (by omega)
 refine cb (ah ?_);apply aM rfl<;>intro h
 ·exact ab h (by omega)
 refine ay (ah ?_);apply aM rfl<;>intro h
 ·exact ab h (by omega)
 refine ay (ah ?_);apply aM rfl<;>intro h
 ·exact ab h (by omega)
 refine ay (ah ?_);apply aM rfl<;>intro h
 ·exact ab h (by omega)
 refine ay (ah ?_);apply aM rfl<;>intro h
 ·exact ab h (by omega)
 refine ay (ah ?_);apply aM rfl<;>intro h
 ·exact ab h (by omega)
 refine cF (ah ?_);apply aM rfl<;>intro h
 ·exact ab h (by omega)
 refine ay (ah ?_);apply aM rfl<;>intro h
 ·exact ab h (by omega)
 refine ay (ah ?_);apply aM rfl<;>intro h
 ·exact ab h (by omega)
 refine cb (ah ?_);apply aM rfl<;>intro h
 ·exact ab h (by omega)
 refine ay (ah ?_);apply aM rfl<;>intro h
 ·exact ab h (by omega)
 refine ay (ah ?_);apply aM rfl<;>intro h
 ·exact ab h (by omega)
 refine cF (ah ?_);apply aM rfl<;>intro h
 ·exact ab h (by omega)
 refine cb (ah ?_);apply aM rfl<;>intro h
 ·exact ab h (by omega)
 refine ay (ah ?_);apply aM rfl<;>intro h
 ·exact ab h (by omega)
 refine cF (ah ?_);apply aM rfl<;>intro h
 ·exact ab h (by omega)
 refine ay (ah ?_);apply aM rfl<;>intro h
 ·refine aS ?_;simp -dsimp only[simprocAttr,↓aa,zp,hx];refine ah ?_;refine aq ?_;simp -dsimp only[simprocAttr,↓aa,zp,zr,Tryz.results115];refine⟨br,uU EZ,?_⟩;simp[Mach.exec,jq,qq]
 exact af h (by omega)
theorem Ab(m:Mach)(i:Ins)(args:List SV)(h0:i.op≠0)(h1:¬(1<=i.op∧i.op<=7))(h8:i.op≠8)(h9:i.op≠9)(wQ:i.op≠10∧i.op≠11∧i.op≠12∧i.op≠21)(CZ:i.op≠22∧i.op≠23∧i.op≠24)(kz:i.op≠100):m.exec i args=m.effect i args:=by
 unfold Mach.exec;rw[if_neg h0,if_neg h1,if_neg h8,if_neg h9,if_neg (by omega),if_neg (by omega),if_neg kz]
theorem mV{O O':List al}(br:∀o∈O,o.upto O.length)(i:Ins)(args:List SV)(hl:∀v∈args,SV.bc O.length v)(h0:i.op≠0)(h1:¬(1<=i.op∧i.op<=7))(h8:i.op≠8)(h9:i.op≠9)(wQ:i.op≠10∧i.op≠11∧i.op≠12∧i.op≠21)(CZ:i.op≠22∧i.op≠23∧i.op≠24)(kz:i.op≠100)(lp:2<O.length)(v:SV)(t:Int)(hv:SV.bc O.length v)
  (hC:ba Tryz.prog 137 O [.mp 2 0,i.enc,.aB 4 (args.map SV.enc) .sh] (fun r O1=>r=.cK [v.enc,aI t]∧O1=O')) (hlen:O.length=O'.length) (mJ:∀o∈O',o.upto O'.length) :
  ba Tryz.prog 115 O [.mp 2 0,i.enc,.aB 4 (args.map SV.enc) .sh] (fun r O1=>r=.cK [v.enc,aI t]∧O1=O'):=by
 have dM:=ba.frame hC hlen.symm ⟨lp,i.aL _,⟨SV.ag hl,trivial⟩,trivial⟩ br;rw[hlen]at hv;refine zf true O.length Tryz.func115 Tryz.ntmps115 ?_;dsimp only[Tmp,TypeId,slotsOf];refine ay (ah ?_);refine bU 4 0 ([aI i.to,aI i.op,aI i.n,aT i.args]) rfl rfl (by rfl) ?_;simp -dsimp only[simprocAttr,↓aa,zp];refine cb (ah ?_);refine ai ?_;refine ay (ah ?_);apply aM rfl<;>intro h
 ·exact ab h (by omega)
 refine cb (ah ?_);apply aM rfl<;>intro h
 ·exact ab h (by omega)
 refine ay (ah ?_);apply aM rfl<;>intro h
 ·exact ab h (by omega)
 refine ay (ah ?_);apply aM rfl<;>intro h
 ·exact ab h (by omega)
 refine ay (ah ?_);apply aM rfl<;>intro h
 ·exact ab h (by omega)
 refine ay (ah ?_);apply aM rfl<;>intro h
 ·exact ab h (by omega)
 refine ay (ah ?_);apply aM rfl<;>intro h
 ·exact ab h (by omega)
 refine cF (ah ?_);apply aM rfl<;>intro h
 ·exact ab h (by omega)
 refine ay (ah ?_);apply aM rfl<;>intro h
 ·exact ab h (by omega)
 refine ay (ah ?_);apply aM rfl<;>intro h
 ·exact ab h (by omega)
 refine cb (ah ?_);apply aM rfl<;>intro h
 ·exact ab h (by omega)
 refine ay (ah ?_);apply aM rfl<;>intro h
 ·exact ab h (by omega)
 refine ay (ah ?_);apply aM rfl<;>intro h
 ·exact ab h (by omega)
 refine cF (ah ?_);apply aM rfl<;>intro h
 ·exact ab h (by omega)
 refine cb (ah ?_);apply aM rfl<;>intro h
 ·exact ab h (by omega)
 refine ay (ah ?_);apply aM rfl<;>intro h
 ·exact ab h (by omega)
 refine cF (ah ?_);apply aM rfl<;>intro h
 ·exact ab h (by omega)
 refine ay (ah ?_);apply aM rfl<;>intro h
 ·exact ab h (by omega)
 refine kA ?_;refine ay ?_;refine .inr (.inl ⟨_,_,dM _,.inl (an ?_)⟩);simp -dsimp only[simprocAttr,↓aa,zp,hlen];refine ah ?_;refine aq ?_;simp -dsimp only[simprocAttr,↓aa,zp,zr,Tryz.results115,hlen];exact⟨mJ,uU hv⟩
theorem LV{u:cf}{m:Mach}{O:List al}(br:∀o∈O,o.upto O.length)(vn:O[2]?=some (.cells (az u m)))(i:Ins)(size fill:SV)(hs:SV.bc O.length size)(hf:SV.bc O.length fill)
  (jq:i.op=16) (CY:0<=m.left) (h2:m.left<=2 ^ 40) (jL:m.short=false) (hk:size.kind=0) (BT:0<=size.n) (HR:size.n<=1024) (hp:size.n<=m.left) :
  ba Tryz.prog 115 O [.mp 2 0,i.enc,.aB 4 [size.enc,fill.enc] .sh] (fun r O'=>r=.cK [.agg [aI 3,aI 0,.aB 4 [] .sh,.mp (O.length+8) 0],aI 0]∧O'=O.set 2 (.cells (az u (m.db size.n))) ++
   [.gone,.cells [aI 3,aI 0,.aB 4 [] .sh,.mp (O.length+8) 0],.gone,.cells [aI 3,aI 0,.aB 4 [] .sh,.mp (O.length+8) 0],.gone,.gone,.cells [aI 3,aI 0,.aB 4 [] .ex,.mp (O.length+8) 0],.cells (ao ((List.replicate size.n.toNat fill).map SV.enc)),.cells [.ms (O.length+7) 0 size.n.toNat size.n.toNat]]):=by
 have GM:∀o∈O++[.gone,.cells [aI 0,aI 0,.aB 4 [] .ex,.v (.pointer none)]],o.upto (O++[al.gone,.cells [aI 0,aI 0,.aB 4 [] .ex,.v (.pointer none)]]).length:=fun o ho=>by
  rcases List.mem_append.1 ho with ho|ho
  ·exact al.cE (by simp) (br o ho)
  simp only[List.mem_cons,List.mem_nil_iff,or_false]at ho;rcases ho with rfl|rfl
  ·trivial
  simp[al.upto,au,ae.upto]
 have V1:(O++[al.gone,.cells [aI 0,aI 0,.aB 4 [] .ex,.v (.pointer none)]]).length=O.length+2:=by simp
 have dM:=Gg GM (cj vn) i size fill (hs.mono (by simp)) (hf.mono (by simp)) jq CY h2 jL hk BT HR hp;have eg:=bg br vn (ds:=az u (m.db size.n)) (fun h=>bS h (n7 m size.n));rw[kk vn,V1]at dM;obtain⟨O1,dD⟩:∃O1,O1=O.set 2 (.cells (az u (m.db size.n))):=⟨_,rfl⟩
 have hlen:O.length=O1.length:=by rw[dD];simp
 simp only[<-dD]at dM eg ⊢;rw[hlen]at eg;have iO:∀v∈List.replicate size.n.toNat fill,SV.bc (O1.length+9) v:=fun v hv=>by
  rw[(List.mem_replicate.1 hv).2];exact hf.mono (by omega)
 have hc:=SV.iM iO;have h0:i.op≠0:=by omega
 generalize de:ao ((List.replicate size.n.toNat fill).map SV.enc)=row at *;refine zf true (O.length+9) Tryz.func115 Tryz.ntmps115 ?_;dsimp only[Tmp,TypeId,slotsOf];refine ay (ah ?_);refine bU 4 0 ([aI i.to,aI i.op,aI i.n,aT i.args]) rfl rfl (by rfl) ?_;simp -dsimp only[simprocAttr,↓aa,zp];refine cb (ah ?_);refine ai ?_;refine ay (ah ?_);apply aM rfl<;>intro h
 ·exact ab h (by omega)
 refine cb (ah ?_);apply aM rfl<;>intro h
 ·exact ab h (by omega)
 refine ay (ah ?_);apply aM rfl<;>intro h
 ·exact ab h (by omega)
 refine ay (ah ?_);apply aM rfl<;>intro h
 ·exact ab h (by omega)
 refine ay (ah ?_);apply aM rfl<;>intro h
 ·exact ab h (by omega)
 refine ay (ah ?_);apply aM rfl<;>intro h
 ·exact ab h (by omega)
 refine ay (ah ?_);apply aM rfl<;>intro h
 ·exact ab h (by omega)
 refine cF (ah ?_);apply aM rfl<;>intro h
 ·exact ab h (by omega)
 refine ay (ah ?_);apply aM rfl<;>intro h
 ·exact ab h (by omega)
 refine ay (ah ?_);apply aM rfl<;>intro h
 ·exact ab h (by omega)
 refine cb (ah ?_);apply aM rfl<;>intro h
 ·exact ab h (by omega)
 refine ay (ah ?_);apply aM rfl<;>intro h
 ·exact ab h (by omega)
 refine ay (ah ?_);apply aM rfl<;>intro h
 ·exact ab h (by omega)
 refine cF (ah ?_);apply aM rfl<;>intro h
 ·exact ab h (by omega)
 refine cb (ah ?_);apply aM rfl<;>intro h
 ·exact ab h (by omega)
 refine ay (ah ?_);apply aM rfl<;>intro h
 ·exact ab h (by omega)
 refine cF (ah ?_);apply aM rfl<;>intro h
 ·exact ab h (by omega)
 refine ay (ah ?_);apply aM rfl<;>intro h
 ·exact ab h (by omega)
 refine kA ?_;refine ay ?_;refine .inr (.inl ⟨_,_,dM,.inl (an ?_)⟩);simp -dsimp only[simprocAttr,↓aa,zp,hlen];refine ah ?_;refine aq ?_;simp -dsimp only[simprocAttr,↓aa,zp,zr,Tryz.results115,hlen];rw[oq];refine⟨fun o ho=>?_,by simp[au,ae.upto],rfl⟩;rcases List.mem_append.1 ho with ho|ho
 ·exact al.cE (by omega) (eg o ho)
 simp only[List.take_succ_cons,List.take_zero,List.mem_cons,List.mem_nil_iff,or_false]at ho;rcases ho with rfl|rfl|rfl|rfl|rfl|rfl|rfl|rfl|rfl
 ·trivial
 ·simp[al.upto,au,ae.upto]
 ·trivial
 ·simp[al.upto,au,ae.upto]
 ·trivial
 ·trivial
 ·simp[al.upto,au,ae.upto]
 ·exact hc
 simp[al.upto,au,ae.upto]
theorem oY:∀{es:List (Int×SV)} {ps:List Int} {l:List SV} {j:Nat} {p:Int} {a:SV},ps[j]?=some p->l[j]?=some a->cL es (ps.take (j+1)) (l.take (j+1))=dg (cL es (ps.take j) (l.take j)) p a
 | es,q::ps,b::l,0,p,a,h1,h2=>by
  simp only[List.getElem?_cons_zero,Option.some.injEq]at h1 h2;subst h1;subst h2;simp[cL]
 | es,q::ps,b::l,j+1,p,a,h1,h2=>by
  have ih:=oY (es:=dg es q b) (ps:=ps) (l:=l) (j:=j) (by simpa using h1) (by simpa using h2);simp only[List.take_succ_cons,cL];exact ih
 | _,[],_,_,_,_,h1,_=>by simp at h1
 | _,_::_,[],_,_,_,_,h2=>by simp at h2
theorem tB(es:List (Int×SV))(ps:List Int)(l:List SV):cL es (ps.take 0) (l.take 0)=es:=by simp[cL]
theorem lx:∀{es:List (Int×SV)} {ps:List Int} {l:List SV} {e:Int×SV},e∈cL es ps l->e∈es∨e.2∈l
 | es,[],_,e,h=>.inl (by simpa[cL]using h)
 | es,_::_,[],e,h=>.inl (by simpa[cL]using h)
 | es,p::ps,a::l,e,h=>by
  simp only[cL]at h;rcases lx h with h|h
  ·rcases jY h with h|h
   ·exact .inl h
   exact .inr (by simp[h])
  exact .inr (by simp[h])
theorem kK{u:cf}{k:Int}(h0:0<=k)(h1:k<u.fns.length):u.fns[k.toNat]?=some (bH u k):=by
 have aZ:k.toNat<u.fns.length:=by omega
 simp[bH,aZ]
theorem ez{f:Func}{k:Int}(h0:0<=k)(h1:k<f.blocks.length):f.blocks[k.toNat]?=some (aF f k):=by
 have aZ:k.toNat<f.blocks.length:=by omega
 simp[aF,aZ]
theorem z7{es:List (Int×SV)}{n:Nat}(h:∀e∈es,SV.bc n e.2):nz n (es.map gd):=by
 induction es with
 | nil=>trivial
 | cons e r ih=>exact⟨(h e (by simp)).aL,ih fun x hx=>h x (by simp[hx])⟩
theorem Af{u:cf}{m:Mach}{O:List al}(br:∀o∈O,o.upto O.length)(h0:O[2]?=some (.cells (az u m)))(f:Fr)(hf:O[f.bL]?=some (.cells (aQ f)))(hv:O[f.c8]?=some (.map (.int .i64) (f.vals.map gd)))
  (hu:∀e∈f.vals,SV.bc O.length e.2) (Z9:2≠f.bL) (Z':2≠f.c8) (tc:f.bL≠f.c8) (mz:0<=f.fn∧f.fn<u.fns.length) (e:Edge) (he:B0 (bH u f.fn) e) (f':Fr)
  (eU:f' = { f with blk:=e.block,pos:=0,vals:=cL f.vals (aF (bH u f.fn) e.block).params (cx f.vals e.args) }) :
  ba Tryz.prog 129 O [.mp 2 0,.mp f.bL 0,e.enc] (fun r O'=>r=.cK []∧O'=(O.set f.bL (.cells (aQ f'))).set f.c8 (.map (.int .i64) (f'.vals.map gd))):=by
 have gk:=iW br hf hv hu e.args he.len;have hF:=kK mz.1 mz.2;have hB:=ez he.lo he.hi;have jK:=he.args;have hZ:=he.lo;have Xq:=he.len;have gp:=I hf;have AH:=I hv;have ef:=I h0;have X8:=nw hu e.args;have kr:(cx f.vals e.args).length=e.args.length:=by simp[cx]
 generalize hTk:cx f.vals e.args=T at *;generalize aF (bH u f.fn) e.block=B at *;generalize bH u f.fn=F at *;have hTm:=SV.ag X8;have hc:[aI f.fn,aI e.block,aI 0,aI f.to,.mm f.c8]=aQ f':=by
  rw[eU];rfl
 obtain⟨O1,dD⟩:∃O1,O1=O.set f.bL (.cells (aQ f')):=⟨_,rfl⟩
 have hlen:O.length=O1.length:=by rw[dD];simp
 have hs:=dh hf;have oJ:O1[2]?=some (.cells (az u m)):=by rw[dD];exact bm h0 Z9.symm
 have l4:O1[f.bL]?=some (.cells (aQ f')):=by rw[dD];exact hs _
 have s8:O1[f.c8]?=some (.map (.int .i64) (f.vals.map gd)):=by rw[dD];exact bm hv tc
 have eg:∀o∈O1,o.upto O1.length:=by
  rw[<-hlen,dD];refine bg br hf fun h=>?_;simp only[aQ,au,ae.upto,true_and,and_true]at h ⊢;rw[eU];exact h
 rw[<-dD];have OH:∀x,(O1.set f.c8 x)[2]?=some (.cells (az u m)):=fun x=>bm oJ Z'.symm;have Gy:∀x,(O1.set f.c8 x)[f.bL]?=some (.cells (aQ f')):=fun x=>bm l4 tc.symm;have TY:∀x,(O1.set f.c8 x)[f.c8]?=some x:=dh s8;unfold az at oJ OH;have dR:=hf;unfold aQ at dR;have S6:aQ f'=[aI f.fn,aI e.block,aI 0,aI f.to,.mm f.c8]:=hc.symm;have SZ:=l4;have S2:=Gy;rw[S6]at SZ S2;have vS:O1.set f.c8 (.map (.int .i64) (f.vals.map gd))=O1:=jw s8;have jH:∀x,(O1.set f.c8 x).take O1.length=O1.set f.c8 x:=fun x=>bX;refine zf true O.length Tryz.func129 Tryz.ntmps129 ?_;dsimp only[Tmp,TypeId,slotsOf];refine ay (ah ?_);refine aJ 5 ([aI e.block,aT e.args]) [(0,.mp 2 0),(1,.mp f.bL 0),(5,.ip none [aI e.block,aT e.args])] rfl (by rfl) (by omega) (by simp[bq,aY,Go.Av.look]) ?_ ?_ ?_
 ·exact br
 ·simp[au,ae.upto,av,gp,ef]
 refine ay ?_;refine .inr (.inr ⟨_,gk,an (zj ?_)⟩);refine ah ?_;refine aS ?_;simp -dsimp only[simprocAttr,↓aa,zp,dR,hs,List.set_set,hc,<-dD];refine ah ?_;refine aS ?_;simp -dsimp only[simprocAttr,↓aa,zp,oJ,SZ,hF,hB]
 repeat(refine⟨by omega,?_⟩)
 refine⟨ob (by kernel_rfl),?_⟩;refine ah ?_;refine ai (aO (ι:={j:Nat // j<=B.params.length}) (fun j=>⟨54,[(0,.mp 2 0),(1,.mp f.bL 0),(5,.ip none [aI e.block,aT e.args]),(6,.aB 4 (T.map SV.enc) .sh),(37,aT B.params),(38,aI B.params.length),(39,aI j.1)],O1.set f.c8 (.map (.int .i64) ((cL f.vals (B.params.take j.1) (T.take j.1)).map gd))⟩) (fun j=>B.params.length-j.1) ⟨0,by omega⟩ ?_ ?_)
 ·refine zq rfl ?_ ?_;simp -dsimp only[simprocAttr,↓aa,zp,zc];rw[tB,vS]
 rintro⟨j,hj⟩;refine ay (ah ?_);apply ib rfl<;>intro h
 ·refine cm ?_;have aZ:j<B.params.length:=by simpa using h
  obtain⟨p,hp⟩:∃p,B.params[j]?=some p:=⟨B.params[j],by simp[aZ]⟩
  obtain⟨a,ha⟩:∃a,T[j]?=some a:=⟨T[j]'(by omega),List.getElem?_eq_getElem _⟩
  refine aH (ai ?_);refine aS ?_;simp -dsimp only[simprocAttr,↓aa,zp,hp];refine ah ?_;refine j4 ?_;simp -dsimp only[simprocAttr,↓aa,zp,S2,ha,TY,qG,<-oY hp ha,List.set_set]
  repeat(refine⟨by omega,?_⟩)
  refine⟨ob (by kernel_rfl),?_⟩;refine ah ?_;refine cF ?_
  repeat(refine⟨by omega,?_⟩)
  refine fw ?_;refine⟨⟨j+1,aZ⟩,by simp;omega,?_⟩;refine zq rfl ?_ ?_;simp -dsimp only[simprocAttr,↓aa,zp,zc]
  ·exact Sub.int (by simp)
  rfl
 refine aG ?_;simp -dsimp only[bD,ne_eq,Nat.reduceEqDiff,reduceCtorEq];have ru:j=B.params.length:=by simp at h;omega
 subst ru;have EG:T.take B.params.length=T:=List.take_of_length_le (by omega)
 skip
 simp -dsimp only[simprocAttr,↓aa,zp,zr,Tryz.results129,hlen,EG,List.take_length,jH,List.length_set];refine⟨bR eg (z7 fun x hx=>?_),trivial,by rw[eU]⟩;rw[<-hlen];rcases lx hx with q|q
 ·exact hu x q
 exact X8 _ q
def j9(l:List Int):Nat->Int
 | 0=>0
 | k+1 =>
  match l[l.length-(k+1)]? with
  | none=>0
  | some c=>if !decide (fG c)then 4 else if dK (l.take (l.length-(k+1))) c then 7 else j9 l k
def mU(f:Func):List Edge->Int
 | []=>0
 | e::r=>if !within e.block 1 ((f.blocks.length:Int)-1)then 4 else if e.args.length≠(aF f e.block).params.length then 3 else mU f r
def oy(f:Func)(t:Term):Int :=
 if !ec t then 3
 else if 256<t.cases.length then 2
 else if t.kind=4∧within t.n 1 6=false then 4
 else if j9 t.cases t.cases.length≠0 then j9 t.cases t.cases.length
 else mU f t.to
theorem zI{l:List Int}{j:Nat}{c:Int}(h:l[j]?=some c):j9 l (l.length-j)=if !decide (fG c)then 4 else if dK (l.take j) c then 7 else j9 l (l.length-(j+1)):=by
 have aZ:=I h;obtain⟨k,hk⟩:∃k,l.length-j=k+1:=⟨l.length-j-1,by omega⟩
 have hj:l.length-(k+1)=j:=by omega
 rw[hk];simp only[j9,hj,h];rw[show l.length-(j+1)=k by omega]
theorem zY{f:Func}{l:List Edge}{j:Nat}{e:Edge}(h:l[j]?=some e):mU f (l.drop j)=if !within e.block 1 ((f.blocks.length:Int)-1)then 4 else if e.args.length≠(aF f e.block).params.length then 3 else mU f (l.drop (j+1)):=by
 have aZ:=I h;rw[List.getElem?_eq_getElem aZ]at h;simp only[Option.some.injEq]at h;rw[List.drop_eq_getElem_cons aZ,h];rfl
theorem within_iff{n lo hi:Int}:within n lo hi=true↔lo<=n∧n<=hi:=by
 simp[within]
theorem IN(f:Func)(t:Term)(gA:t.cases.length<=2 ^ 60)(uk:f.blocks.length<=2 ^ 60):bh Tryz.prog 80 [f.enc,t.enc] (aI (oy f t)):=by
 have jT:=D2 t gA;have hw:=dy t.n 1 6;obtain⟨R,hR⟩:∃R,R=oy f t:=⟨_,rfl⟩
 rw[<-hR];unfold oy at hR;generalize ec t=sh at *;have SR:∀e:Edge,bh Tryz.prog 30 [aI e.block,aI 1,aI ((f.blocks.length:Int)-1)] (.v (.bool (within e.block 1 ((f.blocks.length:Int)-1)))):=fun e=>dy _ _ _;have PW:(t.kind=4∧within t.n 1 6=false)∨(¬(t.kind=4∧within t.n 1 6=false)∧((decide (t.kind=4)=false)∨(decide (t.kind=4)=true∧within t.n 1 6=true))):=by
  by_cases h4:t.kind=4
  ·cases UR:within t.n 1 6
   ·exact .inl ⟨h4,rfl⟩
   exact .inr ⟨by simp,.inr ⟨decide_eq_true h4,rfl⟩⟩
  exact .inr ⟨fun q=>h4 q.1,.inl (decide_eq_false h4)⟩
 refine zf true 0 Tryz.func80 Tryz.ntmps80 ?_;dsimp only[Tmp,TypeId,slotsOf];refine ay (ah ?_);refine aA 2 0 (.ip none [aI f.name,aw f.blocks]) rfl (by simp[al.aC]) trivial rfl ?_ ?_;rotate_left;simp -dsimp only[simprocAttr,↓aa,zp]
 ·refine aA 3 1 (.ip none [aI t.kind,aI t.arg,aI t.n,aT t.cases,aE t.to]) rfl (by simp[al.aC]) trivial rfl ?_ ?_;rotate_left;simp -dsimp only[simprocAttr,↓aa,zp]
  ·by_cases yf:sh=false∨256<t.cases.length∨(t.kind=4∧within t.n 1 6=false)
   ·refine aH (ai ?_);refine ay ?_;refine zi jT ?_;refine ah ?_;cases sh with
    | false =>
     refine cN rfl ?_;refine ay (ah ?_);refine aq ?_;simp -dsimp only[simprocAttr,↓aa,zp,zr,Tryz.results80];simp[hR]
    | true =>
     refine cd rfl ?_;by_cases hc:256<t.cases.length
     ·have hd:decide ((256:Int)<t.cases.length)=true:=decide_eq_true (by omega);refine aS ?_;simp -dsimp only[simprocAttr,↓aa,zp,hd];refine ah ?_;refine cN rfl ?_;refine ay (ah ?_);refine aq ?_;simp -dsimp only[simprocAttr,↓aa,zp,zr,Tryz.results80];simp[hR,hc]
     have hd:decide ((256:Int)<t.cases.length)=false:=decide_eq_false (by omega);have hk:t.kind=4∧within t.n 1 6=false:=by
      rcases yf with q|q|q
      ·cases q
      ·exact absurd q hc
      exact q
     have Mk:decide (t.kind=4)=true:=decide_eq_true hk.1;rw[hk.2]at hw;refine aS ?_;simp -dsimp only[simprocAttr,↓aa,zp,hd];refine ah ?_;refine cd rfl ?_;refine aS ?_;simp -dsimp only[simprocAttr,↓aa,zp,Mk];refine zi hw ?_;refine ah ?_;refine cN rfl ?_;refine ay (ah ?_);refine aq ?_;simp -dsimp only[simprocAttr,↓aa,zp,zr,Tryz.results80];simp[hR,hc,hk]
   have Wp:sh=true:=by
    cases sh
    ·exact absurd (.inl rfl) yf
    rfl
   subst Wp;have hc:¬256<t.cases.length:=fun q=>yf (.inr (.inl q));have hk:¬(t.kind=4∧within t.n 1 6=false):=fun q=>yf (.inr (.inr q));have hd:decide ((256:Int)<t.cases.length)=false:=decide_eq_false (by omega);rw[if_neg (by simp),if_neg hc,if_neg hk]at hR;have VZ:=PW.resolve_left hk;refine jP (⟨78,[(2,.ip none [aI f.name,aw f.blocks]),(3,.ip none [aI t.kind,aI t.arg,aI t.n,aT t.cases,aE t.to]),(4,aI 0)],[.gone,.gone]⟩) ?_ ?_
   ·refine ai ?_;refine ay ?_;refine zi jT ?_;refine ah ?_;refine cd rfl ?_;refine aS ?_;simp -dsimp only[simprocAttr,↓aa,zp,hd];refine ah ?_;refine cd rfl ?_;rcases VZ.2 with Mk|⟨Mk,sR⟩
    ·refine aS ?_;simp -dsimp only[simprocAttr,↓aa,zp,Mk];refine ah ?_;refine cd rfl ?_;refine a6 ?_;show bd _ _;refine zq rfl ?_ ?_;simp -dsimp only[simprocAttr,↓aa,zp,zc];rfl
    rw[sR]at hw;refine aS ?_;simp -dsimp only[simprocAttr,↓aa,zp,Mk];refine zi hw ?_;refine ah ?_;refine cd rfl ?_;refine a6 ?_;show bd _ _;refine zq rfl ?_ ?_;simp -dsimp only[simprocAttr,↓aa,zp,zc];rfl
   refine cb (ah ?_);refine ai (aO (ι:={j:Nat // j<=t.cases.length∧j9 t.cases t.cases.length=j9 t.cases (t.cases.length-j)}) (fun j=>⟨78,[(2,.ip none [aI f.name,aw f.blocks]),(3,.ip none [aI t.kind,aI t.arg,aI t.n,aT t.cases,aE t.to]),(4,aI 0),(29,aT t.cases),(30,aI t.cases.length),(31,aI j.1)],[.gone,.gone]⟩) (fun j=>t.cases.length-j.1) ⟨0,by omega,rfl⟩ ?_ ?_)
   ·refine zq rfl ?_ ?_;simp -dsimp only[simprocAttr,↓aa,zp,zc];rfl
   rintro⟨j,hj,jX⟩;refine ay (ah ?_);apply ib rfl<;>intro h
   ·refine cm ?_;have aZ:j<t.cases.length:=by simpa using h
    obtain⟨c,UD⟩:∃c,t.cases[j]?=some c:=⟨t.cases[j],by simp[aZ]⟩
    have bJ:=zI UD;rw[<-jX]at bJ;have VU:=sa c;have VB:=iZ (t.cases.take j) c;refine aH (ai ?_);refine aS ?_;simp -dsimp only[simprocAttr,↓aa,zp,UD];refine ah ?_;refine ai ?_;refine ay ?_;refine zi VU ?_;refine ah ?_;cases hw:decide (fG c)with
    | false =>
     rw[hw]at bJ;refine cN rfl ?_;refine ay (ah ?_);refine aq ?_;simp -dsimp only[simprocAttr,↓aa,zp,zr,Tryz.results80];simp[hR,bJ]
    | true =>
     rw[hw]at bJ;refine cd rfl ?_;refine aS ?_;simp -dsimp only[simprocAttr,↓aa,zp,Int.toNat_natCast,List.drop_zero,<-List.map_take]
     repeat(refine⟨by omega,?_⟩)
     refine zi VB ?_;refine ah ?_;cases hh:dK (t.cases.take j) c with
     | true =>
      rw[hh]at bJ;refine cN rfl ?_;refine ay (ah ?_);refine aq ?_;simp -dsimp only[simprocAttr,↓aa,zp,zr,Tryz.results80];simp[hR,bJ]
     | false =>
      rw[hh]at bJ;refine cd rfl ?_;refine Yo ?_;refine cF ?_
      repeat(refine⟨by omega,?_⟩)
      refine fw ?_;refine⟨⟨j+1,aZ,by rw[bJ];simp⟩,by simp;omega,?_⟩;refine zq rfl ?_ ?_;simp -dsimp only[simprocAttr,↓aa,zp,zc]
      ·exact Sub.int (by simp)
      rfl
   refine aG ?_;simp -dsimp only[bD,ne_eq,Nat.reduceEqDiff,reduceCtorEq];have ru:j=t.cases.length:=by simp at h;omega
   subst ru;have hz:j9 t.cases t.cases.length=0:=by rw[jX,Nat.sub_self];rfl
   rw[hz,if_neg (by simp)]at hR;refine cb (ah ?_);refine fp 49 rfl (fun kr=>?_);simp only[List.length_map]at kr;refine ai (aO (ι:={j:Nat // j<=t.to.length∧R=mU f (t.to.drop j)}) (fun j=>⟨78,[(2,.ip none [aI f.name,aw f.blocks]),(4,aI 0),(49,aE t.to),(50,aI t.to.length),(51,aI j.1)],[.gone,.gone]⟩) (fun j=>t.to.length-j.1) ⟨0,by omega,hR⟩ ?_ ?_)
   ·refine zq rfl ?_ ?_;simp -dsimp only[simprocAttr,↓aa,zp,zc];rfl
   rintro⟨j,hj,jX⟩;refine ay (ah ?_);apply ib rfl<;>intro h
   ·refine cm ?_;have aZ:j<t.to.length:=by simpa using h
    obtain⟨e,BR⟩:∃e,t.to[j]?=some e:=⟨t.to[j],by simp[aZ]⟩
    have bJ:=zY (f:=f) BR;rw[<-jX]at bJ;have yl:=SR e;refine aH (ai ?_);refine aS ?_;simp -dsimp only[simprocAttr,↓aa,zp,BR];refine ah ?_;refine aA 8 2 (.ip none [aI e.block,aT e.args]) rfl (by simp[al.aC]) trivial rfl ?_ ?_;rotate_left;simp -dsimp only[simprocAttr,↓aa,zp]
    ·refine bF 2 [(2,.ip none [aI f.name,aw f.blocks]),(4,aI 0),(8,.ip none [aI e.block,aT e.args]),(49,aE t.to),(50,aI t.to.length),(51,aI j)] (by simp) (by omega) [.gone,.gone] ?_ ?_ ?_ ?_ ?_
     ·rfl
     ·simp[al.upto]
     ·simp[fL,St.get,bq,aY,Go.Av.look,Sub.refl]
     ·simp[au,ae.upto,av,Block.ag,Edge.ag]
     cases hw:within e.block 1 ((f.blocks.length:Int)-1)with
     | false =>
      rw[hw]at bJ yl;refine ai ?_;refine ay ?_
      repeat(refine⟨by omega,?_⟩)
      refine zi yl ?_;refine ah ?_;refine cN rfl ?_;refine ay (ah ?_);refine aq ?_;simp -dsimp only[simprocAttr,↓aa,zp,zr,Tryz.results80];simp[bJ]
     | true =>
      rw[hw]at bJ yl;have hwi:=within_iff.1 hw;have hB:=ez (f:=f) (k:=e.block) (by omega) (by omega);generalize aF f e.block=B at *;by_cases hl:e.args.length=B.params.length
      ·have lZ:decide ((e.args.length:Int)=B.params.length)=true:=decide_eq_true (by omega);refine ai ?_;refine ay ?_
       repeat(refine⟨by omega,?_⟩)
       refine zi yl ?_;refine ah ?_;refine cd rfl ?_;refine aS ?_;simp -dsimp only[simprocAttr,↓aa,zp,hB,lZ]
       repeat(refine⟨by omega,?_⟩)
       refine⟨ob (by kernel_rfl),?_⟩;refine ah ?_;refine cd rfl ?_;refine Yo ?_;refine cF ?_
       repeat(refine⟨by omega,?_⟩)
       refine fw ?_;refine⟨⟨j+1,aZ,by rw[bJ];simp[hl]⟩,by simp;omega,?_⟩;refine zq rfl ?_ ?_;simp -dsimp only[simprocAttr,↓aa,zp,zc]
       ·exact Sub.int (by simp)
       rfl
      have lZ:decide ((e.args.length:Int)=B.params.length)=false:=decide_eq_false (by omega);refine ai ?_;refine ay ?_
      repeat(refine⟨by omega,?_⟩)
      refine zi yl ?_;refine ah ?_;refine cd rfl ?_;refine aS ?_;simp -dsimp only[simprocAttr,↓aa,zp,hB,lZ]
      repeat(refine⟨by omega,?_⟩)
      refine⟨ob (by kernel_rfl),?_⟩;refine ah ?_;refine cN rfl ?_;refine ay (ah ?_);refine aq ?_;simp -dsimp only[simprocAttr,↓aa,zp,zr,Tryz.results80];simp[bJ,hl]
    exact bT.mp rfl rfl
   refine aG ?_;simp -dsimp only[bD,ne_eq,Nat.reduceEqDiff,reduceCtorEq];have ru:j=t.to.length:=by simp at h;omega
   subst ru;rw[List.drop_length]at jX;refine ay (ah ?_);refine aq ?_;simp -dsimp only[simprocAttr,↓aa,zp,zr,Tryz.results80];simp[jX,mU]
  exact bT.mp rfl rfl
 exact bT.mp rfl rfl
abbrev Defs:=List (Int×Int×Int)
def eD(p:Int×Int):ae:=.agg [aI p.1,aI p.2]
def eR(e:Int×Int×Int):Value×ae:=(.int .i64 e.1,eD e.2)
def fk:Defs->Int->Option (Int×Int)
 | [],_=>none
 | (k,p)::r,key=>if k=key then some p else fk r key
theorem iQ(es:Defs)(k:Int):jM (es.map eR) (.int .i64 k)=(fk es k).map eD:=by
 induction es with
 | nil=>rfl
 | cons p r ih =>
  obtain⟨a,v⟩:=p;simp only[List.map_cons,eR,jM,fk,nP,decide_eq_true_eq];split
  ·rfl
  exact ih
theorem J1{es:Defs}{k:Int}(p:Int×Int)(h:fk es k=none):mf (es.map eR) (.int .i64 k) (.agg [aI p.1,aI p.2])=(es++[(k,p)]).map eR:=by
 induction es with
 | nil=>rfl
 | cons q r ih =>
  obtain⟨a,v⟩:=q;simp only[fk]at h;split at h
  ·cases h
  rename_i bI;simp only[List.map_cons,eR,mf,nP,decide_eq_true_eq,if_neg bI,List.cons_append];rw[<-ih h]
theorem eX(n:Nat)(es:Defs):nz n (es.map eR):=by
 induction es with
 | nil=>trivial
 | cons p r ih=>exact⟨⟨trivial,trivial,trivial⟩,ih⟩
def cZ(ds:Defs)(v:Int)(p:Int×Int):Int×Defs :=
 if !within v 0 4095 then(4,ds)else if(fk ds v).isSome then(7,ds)else(0,ds++[(v,p)])
theorem zU{O:List al}(br:∀o∈O,o.upto O.length){c d:Nat}{f:Func}{ds:Defs}(hc:O[c]?=some (.cells [aI f.name,aw f.blocks,.mm d]))(hd:O[d]?=some (.map (.int .i64) (ds.map eR)))(v:Int)(p:Int×Int) :
  ba Tryz.prog 86 O [.mp c 0,aI v,.agg [aI p.1,aI p.2]] (fun r O'=>r=aI (cZ ds v p).1∧O'=O.set d (.map (.int .i64) ((cZ ds v p).2.map eR))):=by
 have hw:=dy v 0 4095;have gA:=I hc;have fB:O.set d (.map (.int .i64) (ds.map eR))=O:=jw hd;unfold cZ;cases hv:within v 0 4095 with
 | false =>
  rw[hv]at hw;refine zf true O.length Tryz.func86 Tryz.ntmps86 ?_;dsimp only[Tmp,TypeId,slotsOf];refine ay (ah ?_);refine aJ 5 ([aI p.1,aI p.2]) [(0,.mp c 0),(1,aI v),(5,.ip none [aI p.1,aI p.2]),(6,aI 0)] rfl (by rfl) (by omega) (by simp[bq,aY,Go.Av.look]) ?_ ?_ ?_
  ·exact br
  ·simp[ae.upto,au,gA]
  refine cb ?_;refine zi hw ?_;refine ah ?_;refine cN rfl ?_;refine ay (ah ?_);refine aq ?_;simp -dsimp only[simprocAttr,↓aa,zp,zr,Tryz.results86];exact⟨br,fB.symm⟩
 | true =>
  rw[hv]at hw;cases hl:fk ds v with
  | some q =>
   have hq:eD q=.agg [aI q.1,aI q.2]:=rfl;refine zf true O.length Tryz.func86 Tryz.ntmps86 ?_;dsimp only[Tmp,TypeId,slotsOf];refine ay (ah ?_);refine aJ 5 ([aI p.1,aI p.2]) [(0,.mp c 0),(1,aI v),(5,.ip none [aI p.1,aI p.2]),(6,aI 0)] rfl (by rfl) (by omega) (by simp[bq,aY,Go.Av.look]) ?_ ?_ ?_
   ·exact br
   ·simp[ae.upto,au,gA]
   refine cb ?_;refine zi hw ?_;refine ah ?_;refine cd rfl ?_;refine cm ?_;refine cJ ?_;simp -dsimp only[simprocAttr,↓aa,zp,hc,hd,iQ,hl,hq,Option.map_some,Option.getD_some,Option.isSome_some];refine ah ?_;refine ay (ah ?_);refine cN rfl ?_;refine ay (ah ?_);refine aq ?_;simp -dsimp only[simprocAttr,↓aa,zp,zr,Tryz.results86];exact⟨br,fB.symm⟩
  | none =>
   have l6:=J1 p hl;have eS:=bR (k:=d) (x:=.map (.int .i64) ((ds++[(v,p)]).map eR)) br (eX _ _);have jH:=bX (O:=O) (k:=d) (x:=.map (.int .i64) ((ds++[(v,p)]).map eR));refine zf true O.length Tryz.func86 Tryz.ntmps86 ?_;dsimp only[Tmp,TypeId,slotsOf];refine ay (ah ?_);refine aJ 5 ([aI p.1,aI p.2]) [(0,.mp c 0),(1,aI v),(5,.ip none [aI p.1,aI p.2]),(6,aI 0)] rfl (by rfl) (by omega) (by simp[bq,aY,Go.Av.look]) ?_ ?_ ?_
   ·exact br
   ·simp[ae.upto,au,gA]
   refine cb ?_;refine zi hw ?_;refine ah ?_;refine cd rfl ?_;refine cm ?_;refine cJ ?_;simp -dsimp only[simprocAttr,↓aa,zp,hc,hd,iQ,hl,Option.map_none,Option.getD_none,Option.isSome_none];refine ah ?_;refine aJ 7 ([aI 0,aI 0]) [(0,.mp c 0),(1,aI v),(5,.ip none [aI p.1,aI p.2]),(6,aI 0),(8,.v (.bool false))] rfl (by rfl) (by omega) (by simp[bq,aY,Go.Av.look]) ?_ ?_ ?_
   ·exact br
   ·simp[ae.upto,au,gA]
   refine ay (ah ?_);refine cd rfl ?_;refine cm ?_;refine aS ?_;simp -dsimp only[simprocAttr,↓aa,zp,hc,hd,l6];refine⟨ob (by kernel_rfl),?_⟩;refine ah ?_;refine ay (ah ?_);refine aq ?_;simp -dsimp only[simprocAttr,↓aa,zp,zr,Tryz.results86,jH,List.length_set];exact eS
def dr(k:Int):Defs->List Int->Int×Defs
 | ds,[]=>(0,ds)
 | ds,p::r=>if(cZ ds p (k,0)).1≠0 then cZ ds p (k,0)else dr k (cZ ds p (k,0)).2 r
def l7(k:Int):Int->Defs->List Ins->Int×Defs
 | _,ds,[]=>(0,ds)
 | n,ds,i::r=>if(cZ ds i.to (k,n+1)).1≠0 then cZ ds i.to (k,n+1)else if kL i≠0 then(kL i,(cZ ds i.to (k,n+1)).2)else l7 k (n+1) (cZ ds i.to (k,n+1)).2 r
def fq(f:Func)(ds:Defs)(k:Int):Int×Defs :=
 if(dr k ds (aF f k).params).1≠0 then dr k ds (aF f k).params
 else if(l7 k 0 (dr k ds (aF f k).params).2 (aF f k).ins).1≠0 then l7 k 0 (dr k ds (aF f k).params).2 (aF f k).ins
 else(oy f (aF f k).term,(l7 k 0 (dr k ds (aF f k).params).2 (aF f k).ins).2)
theorem bQ{α:Type}{l:List α}{j:Nat}{x:α}(h:l[j]?=some x):l.drop j=x::l.drop (j+1):=by
 have aZ:=I h;rw[List.getElem?_eq_getElem aZ]at h;simp only[Option.some.injEq]at h;rw[List.drop_eq_getElem_cons aZ,h]
theorem Cp{O:List al}(br:∀o∈O,o.upto O.length){c d:Nat}(Zc:c≠d){f:Func}{ds:Defs}(hc:O[c]?=some (.cells [aI f.name,aw f.blocks,.mm d]))(hd:O[d]?=some (.map (.int .i64) (ds.map eR)))(k:Int)(HQ:0<=k)(Lb:k<f.blocks.length)
  (uk:f.blocks.length<=2 ^ 60) (gA:(aF f k).term.cases.length<=2 ^ 60) :
  ba Tryz.prog 58 O [.mp c 0,aI k] (fun r O'=>r=aI (fq f ds k).1∧O'=O.set d (.map (.int .i64) ((fq f ds k).2.map eR))):=by
 have hB:=ez HQ Lb;have SI:=I hc;obtain⟨R,hR⟩:∃R,R=fq f ds k:=⟨_,rfl⟩
 rw[<-hR];unfold fq at hR;have qu:=IN f (aF f k).term gA uk;generalize aF f k=B at *;have Xu:∀x,(O.set d x)[c]?=some (.cells [aI f.name,aw f.blocks,.mm d]):=fun x=>bm hc Zc.symm;have Zf:=dh hd;have GM:∀(es:Defs),∀o∈O.set d (.map (.int .i64) (es.map eR)),o.upto (O.set d (.map (.int .i64) (es.map eR))).length:=fun es=>by
  rw[List.length_set];exact bR br (eX _ _)
 have SK:∀(es:Defs) (v:Int) (p:Int×Int),ba Tryz.prog 86 (O.set d (.map (.int .i64) (es.map eR))) [.mp c 0,aI v,.agg [aI p.1,aI p.2]] (fun r O'=>r=aI (cZ es v p).1∧O'=O.set d (.map (.int .i64) ((cZ es v p).2.map eR))):=fun es v p=>by
  have h:=zU (GM es) (Xu _) (Zf (.map (.int .i64) (es.map eR))) v p;rw[List.set_set]at h;exact h
 have fB:O.set d (.map (.int .i64) (ds.map eR))=O:=jw hd;have jH:∀es:Defs,(O.set d (.map (.int .i64) (es.map eR))).take O.length=O.set d (.map (.int .i64) (es.map eR)):=fun es=>bX;have vU:∀es:Defs,∀o∈O.set d (.map (.int .i64) (es.map eR)),o.upto O.length:=fun es=>bR br (eX _ _);refine zf true O.length Tryz.func58 Tryz.ntmps58 ?_;dsimp only[Tmp,TypeId,slotsOf];refine ay (ah ?_);refine aS ?_;simp -dsimp only[simprocAttr,↓aa,zp,hc,hB]
 repeat(refine⟨by omega,?_⟩)
 refine ah ?_;refine aJ 5 ([aT B.params,bP B.ins,aI B.term.kind,aI B.term.arg,aI B.term.n,aT B.term.cases,aE B.term.to]) [(0,.mp c 0),(1,aI k),(4,aI 0),(5,.ip none [aT B.params,bP B.ins,aI B.term.kind,aI B.term.arg,aI B.term.n,aT B.term.cases,aE B.term.to])] rfl (by rfl) (by omega) (by simp[bq,aY,Go.Av.look]) ?_ ?_ ?_
 ·exact br
 ·simp[ae.upto,au,SI,av,Edge.ag,Ins.ag]
 refine cb (ah ?_);refine fp 22 rfl (fun s7=>?_);simp only[List.length_map]at s7;refine ai (aO (ι:={x:Nat×Defs // x.1<=B.params.length∧dr k ds B.params=dr k x.2 (B.params.drop x.1)}) (fun x=>⟨69,[(0,.mp c 0),(1,aI k),(4,aI 0),(5,.ip none [aT B.params,bP B.ins,aI B.term.kind,aI B.term.arg,aI B.term.n,aT B.term.cases,aE B.term.to]),(22,aT B.params),(23,aI B.params.length),(24,aI x.1.1)],O.set d (.map (.int .i64) (x.1.2.map eR))⟩) (fun x=>B.params.length-x.1.1) ⟨(0,ds),by simp,rfl⟩ ?_ ?_)
 ·refine zq rfl ?_ ?_;simp -dsimp only[simprocAttr,↓aa,zp,zc];rw[fB]
 rintro⟨⟨j,es⟩,hj,jX⟩;simp only at hj jX;refine ay (ah ?_);apply ib rfl<;>intro h
 ·refine cm ?_;have aZ:j<B.params.length:=by simpa using h
  obtain⟨p,hp⟩:∃p,B.params[j]?=some p:=⟨B.params[j],by simp[aZ]⟩
  have bJ:=jX;rw[bQ hp]at bJ;simp only[dr]at bJ;have PJ:=SK es p (k,0);generalize cZ es p (k,0)=X at *;refine aH (ai ?_);refine aS ?_;simp -dsimp only[simprocAttr,↓aa,zp,hp];refine ah ?_;refine ay ?_;refine .inr (.inl ⟨_,_,PJ,.inl (an (zj ?_))⟩);refine ah ?_;by_cases hX:X.1=0
  ·have I8:decide (X.1=0)=true:=decide_eq_true hX;rw[if_neg (by simp[hX])]at bJ;refine aS ?_;simp -dsimp only[simprocAttr,↓aa,zp,I8];refine ah ?_;refine cd rfl ?_;refine kA ?_;refine cF ?_
   repeat(refine⟨by omega,?_⟩)
   refine fw ?_;refine⟨⟨(j+1,X.2),by simp only;omega,bJ⟩,by simp;omega,?_⟩;refine zq rfl ?_ ?_;simp -dsimp only[simprocAttr,↓aa,zp,zc]
   ·exact Sub.int (by simp)
   rfl
  have I8:decide (X.1=0)=false:=decide_eq_false hX;rw[if_pos hX]at bJ;rw[bJ,if_pos hX]at hR;refine aS ?_;simp -dsimp only[simprocAttr,↓aa,zp,I8];refine ah ?_;refine cN rfl ?_;refine ay (ah ?_);refine aq ?_;simp -dsimp only[simprocAttr,↓aa,zp,zr,Tryz.results58,jH,List.length_set];rw[hR];exact⟨vU X.2,rfl,rfl⟩
 refine aG ?_;simp -dsimp only[bD,ne_eq,Nat.reduceEqDiff,reduceCtorEq];have ru:j=B.params.length:=by simp at h;omega
 subst ru;rw[List.drop_length]at jX;simp only[dr]at jX;rw[jX,if_neg (by simp)]at hR;simp only at hR;refine cb (ah ?_);refine fp 38 rfl (fun PT=>?_);simp only[List.length_map]at PT;refine ai (aO (ι:={x:Nat×Defs // x.1<=B.ins.length∧l7 k 0 es B.ins=l7 k x.1 x.2 (B.ins.drop x.1)}) (fun x=>⟨69,[(0,.mp c 0),(1,aI k),(4,aI 0),(5,.ip none [aT B.params,bP B.ins,aI B.term.kind,aI B.term.arg,aI B.term.n,aT B.term.cases,aE B.term.to]),(38,bP B.ins),(39,aI B.ins.length),(40,aI x.1.1)],O.set d (.map (.int .i64) (x.1.2.map eR))⟩) (fun x=>B.ins.length-x.1.1) ⟨(0,es),by simp,rfl⟩ ?_ ?_)
 ·refine zq rfl ?_ ?_;simp -dsimp only[simprocAttr,↓aa,zp,zc];rfl
 rintro⟨⟨j,HM⟩,hj,jX⟩;simp only at hj jX;refine ay (ah ?_);apply ib rfl<;>intro h
 ·refine cm ?_;have aZ:j<B.ins.length:=by simpa using h
  obtain⟨i,hi⟩:∃i,B.ins[j]?=some i:=⟨B.ins[j],by simp[aZ]⟩
  have bJ:=jX;rw[bQ hi]at bJ;simp only[l7]at bJ;have PJ:=SK HM i.to (k,(j:Int)+1);have Jb:=Gm i;generalize kL i=e at *;generalize cZ HM i.to (k,(j:Int)+1)=X at *;refine aH (ai ?_);refine aS ?_;simp -dsimp only[simprocAttr,↓aa,zp,hi];refine ah ?_;refine aJ 10 ([aI i.to,aI i.op,aI i.n,aT i.args]) [(0,.mp c 0),(1,aI k),(4,aI 0),(5,.ip none [aT B.params,bP B.ins,aI B.term.kind,aI B.term.arg,aI B.term.n,aT B.term.cases,aE B.term.to]),(38,bP B.ins),(39,aI B.ins.length),(40,aI j),(9,aI j),(10,.ip none [aI i.to,aI i.op,aI i.n,aT i.args])] (by simp[bq,aY,Go.Av.look]) (by rfl) (by simp) (by simp[bq,aY,Go.Av.look]) ?_ ?_ ?_
  ·exact GM HM
  ·simp[ae.upto,au,SI,av,Edge.ag,Ins.ag]
  refine cb ?_
  repeat(refine⟨by omega,?_⟩)
  refine .inr (.inl ⟨_,_,PJ,.inl (an (zj ?_))⟩);refine ah ?_;by_cases hX:X.1=0
  ·have I8:decide (X.1=0)=true:=decide_eq_true hX;rw[if_neg (by simp[hX])]at bJ;refine aS ?_;simp -dsimp only[simprocAttr,↓aa,zp,I8];refine ah ?_;refine cd rfl ?_;refine cm ?_;refine ay ?_;refine zi Jb ?_;refine ah ?_;by_cases he:e=0
   ·have m5:decide (e=0)=true:=decide_eq_true he;rw[if_neg (by simp[he])]at bJ;refine aS ?_;simp -dsimp only[simprocAttr,↓aa,zp,m5];refine ah ?_;refine cd rfl ?_;refine kA ?_;refine cF ?_
    repeat(refine⟨by omega,?_⟩)
    refine fw ?_;refine⟨⟨(j+1,X.2),by simp only;omega,bJ⟩,by simp;omega,?_⟩;refine zq rfl ?_ ?_;simp -dsimp only[simprocAttr,↓aa,zp,zc]
    ·exact Sub.int (by simp)
    rfl
   have m5:decide (e=0)=false:=decide_eq_false he;rw[if_pos he]at bJ;rw[bJ,if_pos he]at hR;refine aS ?_;simp -dsimp only[simprocAttr,↓aa,zp,m5];refine ah ?_;refine cN rfl ?_;refine ay (ah ?_);refine aq ?_;simp -dsimp only[simprocAttr,↓aa,zp,zr,Tryz.results58,jH,List.length_set];rw[hR];exact⟨vU X.2,rfl,rfl⟩
  have I8:decide (X.1=0)=false:=decide_eq_false hX;rw[if_pos hX]at bJ;rw[bJ,if_pos hX]at hR;refine aS ?_;simp -dsimp only[simprocAttr,↓aa,zp,I8];refine ah ?_;refine cN rfl ?_;refine ay (ah ?_);refine aq ?_;simp -dsimp only[simprocAttr,↓aa,zp,zr,Tryz.results58,jH,List.length_set];rw[hR];exact⟨vU X.2,rfl,rfl⟩
 refine aG ?_;simp -dsimp only[bD,ne_eq,Nat.reduceEqDiff,reduceCtorEq];have ru:j=B.ins.length:=by simp at h;omega
 subst ru;rw[List.drop_length]at jX;simp only[l7]at jX;rw[jX,if_neg (by simp)]at hR;simp only at hR;refine aS ?_;simp -dsimp only[simprocAttr,↓aa,zp,Xu];refine zi qu ?_;refine⟨ob (by kernel_rfl),?_⟩;refine ah ?_;refine aq ?_;simp -dsimp only[simprocAttr,↓aa,zp,zr,Tryz.results58,jH,List.length_set];rw[hR];exact⟨vU HM,rfl,rfl⟩
theorem ML:tl Tryz.prog 142 .u64:=by
 obtain⟨⟨i,z,q1,q2,_⟩,_⟩:=hT 140 _ FK;exact yx ⟨140,i,Tryz.underlying142,q1,q2,Tryz.underlying140,by kernel_rfl⟩
theorem Pj(N V:Bs):(decide ((N.a:Int)=V.a)&&decide ((N.b:Int)=V.b))=decide (N=V):=by
 obtain⟨n1,n2⟩:=N;obtain⟨v1,v2⟩:=V;simp only[Bs.mk.injEq,Int.natCast_inj];by_cases q1:n1=v1<;>by_cases q2:n2=v2<;>simp[q1,q2]
theorem vf(N V:Bs)(K:fK):oS Tryz.prog .neq 142 N.enc V.enc K=K (.v (.bool (!decide (N=V)))) .pure:=by
 show((IntKind.u64=IntKind.u64∧IntKind.u64=IntKind.u64∧IntKind.u64=IntKind.u64∧tl Tryz.prog 142 .u64)∧on (jd .neq (decide ((N.a:Int)=V.a)&&decide ((N.b:Int)=V.b))) fun r=>K (.v (.bool r)) .pure)=_;rw[Pj];simp only[ML,jd,yv,and_self,true_and]
theorem pY{sz:Nat}:∀{xs:List ae} {k:Nat} {x:ae},(∀y∈xs,y.cells.length=sz)->xs[k]?=some x->((ao xs).drop (k*sz)).take sz=x.cells
 | q::r,0,x,di,h=>by
  simp only[List.getElem?_cons_zero,Option.some.injEq]at h;subst h;have hq:=di q (by simp);simp only[ao,List.flatMap_cons,Nat.zero_mul,List.drop_zero];rw[List.take_append_of_le_length (by omega),List.take_of_length_le (by omega)]
 | q::r,k+1,x,di,h=>by
  have ih:=pY (xs:=r) (k:=k) (x:=x) (fun y hy=>di y (by simp[hy])) (by simpa using h);have hq:=di q (by simp);have e1:(k+1)*sz-sz=k*sz:=by rw[Nat.succ_mul];omega
  have e3:sz<=(k+1)*sz:=by rw[Nat.succ_mul];omega
  simp only[ao,List.flatMap_cons]at ih ⊢;rw[List.drop_append,List.drop_of_length_le (by omega),hq,e1,List.nil_append];exact ih
theorem Es(l:List Bs):∀y∈l.map Bs.enc,y.cells.length=2:=fun y hy=>by
 obtain⟨s,_,rfl⟩:=List.mem_map.1 hy;rfl
theorem xN(l:List Bs):(ao (l.map Bs.enc)).length=l.length*2:=by
 rw[ca (Es l),List.length_map]
theorem Ic{l:List Bs}{k:Nat}{s:Bs}(h:l[k]?=some s):((ao (l.map Bs.enc)).drop (k*2)).take 2=[.v (.int .u64 s.a),.v (.int .u64 s.b)]:=pY (Es l) (x:=s.enc) (by simp[h])
theorem Cr{l:List Bs}{k:Nat}(h:k<l.length)(s:Bs):bk (ao (l.map Bs.enc)) (k*2) [.v (.int .u64 s.a),.v (.int .u64 s.b)]=ao ((l.set k s).map Bs.enc):=by
 have:=lS (Es l) (k:=k) (by simpa using h) (y:=s.enc) rfl;rw[<-List.map_set]at this;exact this
theorem gy(n:Nat)(l:List Bs):au n (l.map Bs.enc):=by
 rw[bZ];intro x hx;obtain⟨s,_,rfl⟩:=List.mem_map.1 hx;exact s.aL n
theorem ij(n:Nat)(l:List Bs):au n (ao (l.map Bs.enc)):=by
 rw[bZ];intro c hc;simp only[ao,List.mem_flatMap,List.mem_map]at hc;obtain⟨_,⟨p,_,rfl⟩,hc⟩:=hc;simp only[Bs.aj,List.mem_cons,List.mem_nil_iff,or_false]at hc;rcases hc with rfl|rfl<;>trivial
theorem ax(s:Bs):ae.agg [.v (.int .u64 s.a),.v (.int .u64 s.b)]=s.enc:=rfl
theorem tq:∀n,n<=128->(vr n).fit
 | 0,_=>Bs.ql
 | n+1,h=>Bs.nS (tq n (by omega)) (by omega)
theorem zy:∀n,n<=128->∀k,k<n->(vr n).has k=true
 | n+1,h,k,hk=>by
  simp only[vr];rw[Bs.has_add _ _ _ (by omega) (by omega)];by_cases e:k=n
  ·simp[e]
  rw[zy n (by omega) k (by omega)];rfl
theorem xX{f:Func}(h0:f.blocks≠[])(h1:f.blocks.length<=128):lb f.blocks.length (ky f) where
 few:=h1
 len:=by simp[ky]
 fit:=fun s hs=>by
  rcases List.mem_or_eq_of_mem_set hs with q|q
  ·rw[(List.mem_replicate.1 q).2];exact tq _ h1
  rw[q];exact Bs.nS Bs.ql (by omega)
 seen:=Bs.nS Bs.ql (by omega)
 self:=fun k hk=>by
  unfold Ds.at_ ky;by_cases e:k=0
  ·subst e;rw[List.getElem?_set_self (by simpa using hk)];decide
  rw[List.getElem?_set_ne (Ne.symm e)];simp only[List.getElem?_replicate,hk,if_true,Option.getD_some];exact zy _ h1 k hk
theorem Ki{l:List Nat}{b:Nat}(h:∀x∈l,x<=b):l.sum<=l.length*b:=by
 induction l with
 | nil=>simp
 | cons a r ih =>
  have:=h a (by simp);have:=ih fun x hx=>h x (by simp[hx]);simp only[List.sum_cons,List.length_cons,Nat.succ_mul];omega
theorem xD{n:Nat}{S:Ds}(h:lb n S):S.weight<=16512:=by
 have h1:(S.over.map Bs.size).sum<=(S.over.map Bs.size).length*128:=Ki fun x hx=>by
  obtain⟨s,_,rfl⟩:=List.mem_map.1 hx;exact s.sq
 have h2:=h.few;have h3:=h.len;simp only[List.length_map]at h1;have h4:S.over.length*128<=128*128:=Nat.mul_le_mul_right _ (by omega);simp only[Ds.weight];omega
theorem wH{f:Func}{S:Ds}(h:S.again=false)(n:Nat):iE f n S=S:=by
 cases n with
 | zero=>rfl
 | succ n=>simp[iE,h]
theorem sH(f:Func)(h0:f.blocks≠[])(h1:f.blocks.length<=128)(he:∀b∈f.blocks,∀e∈b.term.to,0<=e.block∧e.block.toNat<f.blocks.length) :
  bh Tryz.prog 88 [f.enc] (.cK [.aB 2 ((kv f).1.map Bs.enc) .sh,(kv f).2.enc]):=by
 have hS:=xX h0 h1;have BU:=List.length_pos_iff.2 h0;have EV:∀(s:Bs) (k:Nat),s.fit->k<128->bh Tryz.prog 119 [s.enc,aI k] (s.add k).enc:=fun s k hs hk=>HJ s hs k hk;obtain⟨R,hR⟩:∃R,R=iE f 20000 (ky f):=⟨_,rfl⟩
 have hM:kv f=(R.over,R.seen):=by rw[hR];rfl
 rw[hM];obtain⟨n,hn⟩:∃n,n=f.blocks.length:=⟨_,rfl⟩
 rw[<-hn]at hS BU h1 he;have OL:ae.agg [.v (.int .u64 0),.v (.int .u64 0)]=Bs.none.enc:=rfl;refine zf true 0 Tryz.func88 Tryz.ntmps88 ?_;dsimp only[Tmp,TypeId,slotsOf];refine aS ?_;simp -dsimp only[simprocAttr,↓aa,zp,Bs.aj,Bs.ar,Bs.ak,ax];refine ah ?_;refine aA 1 0 (.ip none [aI f.name,aw f.blocks]) rfl (by simp[al.aC]) trivial rfl ?_ ?_;rotate_left;simp -dsimp only[simprocAttr,↓aa,zp,Bs.aj,Bs.ar,Bs.ak,ax]
 ·refine aS ?_;simp -dsimp only[simprocAttr,↓aa,zp,Bs.aj,Bs.ar,Bs.ak,ax];refine ah ?_;refine cJ ?_;simp -dsimp only[simprocAttr,↓aa,zp,Bs.aj,Bs.ar,Bs.ak,ax,<-hn];refine ah ?_;refine ai (aO (ι:={j:Nat // j<=n}) (fun j=>⟨106,[(1,.ip none [aI f.name,aw f.blocks]),(3,.mp 1 0),(4,.mp 2 0),(17,aI n),(18,aI j.1)],[.gone,.cells [.v (.int .u64 0),.v (.int .u64 0)],.cells (vr j.1).enc.cells]⟩) (fun j=>n-j.1) ⟨0,by omega⟩ ?_ ?_)
  ·refine zq rfl ?_ ?_;simp -dsimp only[simprocAttr,↓aa,zp,Bs.aj,Bs.ar,Bs.ak,ax,zc]
   all_goals rfl
  rintro⟨j,hj⟩;have Z2:=fun h=>EV (vr j) j (tq j (by omega)) h;refine aS ?_;simp -dsimp only[simprocAttr,↓aa,zp,Bs.aj,Bs.ar,Bs.ak,ax];refine ah ?_;apply ib rfl<;>intro h
  ·refine cm ?_;have aZ:j<n:=by simpa using h
   refine aH (ai ?_);refine aS ?_;simp -dsimp only[simprocAttr,↓aa,zp,Bs.aj,Bs.ar,Bs.ak,ax];refine ah ?_;refine j4 ?_;simp -dsimp only[simprocAttr,↓aa,zp,Bs.aj,Bs.ar,Bs.ak,ax];refine .inl ⟨_,(Z2 (by omega)),by simp only[au,ae.upto,zt,zu,av,Bs.aL,Bs.ak],an ?_⟩;simp -dsimp only[simprocAttr,↓aa,zp,Bs.aj,Bs.ar,Bs.ak,ax];refine ah ?_;refine j4 ?_;simp -dsimp only[simprocAttr,↓aa,zp,Bs.aj,Bs.ar,Bs.ak,ax]
   repeat(refine⟨by omega,?_⟩)
   refine fw ?_;refine⟨⟨j+1,aZ⟩,by simp;omega,?_⟩;refine zq rfl ?_ ?_;simp -dsimp only[simprocAttr,↓aa,zp,Bs.aj,Bs.ar,Bs.ak,ax,zc]
   all_goals first|rfl|exact Sub.refl _
  refine aG ?_;simp -dsimp only[bD,ne_eq,Nat.reduceEqDiff,reduceCtorEq];have ru:j=n:=by simp at h;omega
  subst ru;refine aS ?_;simp -dsimp only[simprocAttr,↓aa,zp,Bs.aj,Bs.ar,Bs.ak,ax,<-hn]
  repeat(refine⟨by omega,?_⟩)
  refine ah ?_;refine cJ ?_;simp -dsimp only[simprocAttr,↓aa,zp,Bs.aj,Bs.ar,Bs.ak,ax,<-hn];refine ah ?_;obtain⟨A,hA⟩:∃A,A=vr j:=⟨_,rfl⟩
  rw[<-hA];refine ai (aO (ι:={i:Nat // i<=j}) (fun i=>⟨106,[(1,.ip none [aI f.name,aw f.blocks]),(3,.mp 1 0),(4,.mp 2 0),(6,.ms 3 0 j j),(30,aI j),(31,aI i.1)],[.gone,.cells [.v (.int .u64 0),.v (.int .u64 0)],.cells A.enc.cells,.cells (ao ((List.replicate i.1 A++List.replicate (j-i.1) Bs.none).map Bs.enc))]⟩) (fun i=>j-i.1) ⟨0,by omega⟩ ?_ ?_)
  ·refine zq rfl ?_ ?_;simp -dsimp only[simprocAttr,↓aa,zp,Bs.aj,Bs.ar,Bs.ak,ax,zc];simp[ao,List.flatMap,Bs.aj,Bs.none]
  rintro⟨i,hi⟩;have de:(List.replicate i A++List.replicate (j-i) Bs.none).length=j:=by simp;omega
  refine aS ?_;simp -dsimp only[simprocAttr,↓aa,zp,Bs.aj,Bs.ar,Bs.ak,ax];refine ah ?_;apply ib rfl<;>intro h
  ·refine cm ?_;have aZ:i<j:=by simpa using h
   have gh:=Cr (l:=List.replicate i A++List.replicate (j-i) Bs.none) (k:=i) (by rw[de];exact aZ) A;have pN:(List.replicate i A++List.replicate (j-i) Bs.none).set i A=List.replicate (i+1) A++List.replicate (j-(i+1)) Bs.none:=by
    obtain⟨q,hq⟩:∃q,j-i=q+1:=⟨j-i-1,by omega⟩
    rw[hq,show j-(i+1)=q by omega,List.set_append_right _ _ (by simp),List.replicate_succ' (n:=i)];simp[List.replicate_succ]
   rw[pN]at gh;have hlen:=xN (List.replicate i A++List.replicate (j-i) Bs.none);rw[de]at hlen;refine aH (ai ?_);refine aS ?_;simp -dsimp only[simprocAttr,↓aa,zp,Bs.aj,Bs.ar,Bs.ak,ax];refine ah ?_;refine j4 ?_;simp -dsimp only[simprocAttr,↓aa,zp,Bs.aj,Bs.ar,Bs.ak,ax,gh,hlen]
   repeat(refine⟨by omega,?_⟩)
   refine ah ?_;refine j4 ?_;simp -dsimp only[simprocAttr,↓aa,zp,Bs.aj,Bs.ar,Bs.ak,ax]
   repeat(refine⟨by omega,?_⟩)
   refine fw ?_;refine⟨⟨i+1,aZ⟩,by simp;omega,?_⟩;refine zq rfl ?_ ?_;simp -dsimp only[simprocAttr,↓aa,zp,Bs.aj,Bs.ar,Bs.ak,ax,zc]
   all_goals first|rfl|exact Sub.refl _
  refine aG ?_;simp -dsimp only[bD,ne_eq,Nat.reduceEqDiff,reduceCtorEq];have sO:i=j:=by simp at h;omega
  subst sO;have Va:=EV Bs.none 0 Bs.ql (by omega);have hlen:=xN (List.replicate i A++List.replicate (i-i) Bs.none);rw[de]at hlen;have gh:=Cr (l:=List.replicate i A++List.replicate (i-i) Bs.none) (k:=0) (by rw[de];exact BU) (Bs.none.add 0);have jL:(List.replicate i A++List.replicate (i-i) Bs.none).set 0 (Bs.none.add 0)=(ky f).over:=by
   simp[ky,<-hn,hA]
  rw[jL,Nat.zero_mul]at gh;have SH:aI ((0:Nat):Int)=aI 0:=rfl;rw[SH]at Va;refine aS ?_;simp -dsimp only[simprocAttr,↓aa,zp,Bs.aj,Bs.ar,Bs.ak,ax,OL];refine .inl ⟨_,Va,by simp only[au,ae.upto,zt,zu,av,Bs.aL,Bs.ak],an ?_⟩;simp -dsimp only[simprocAttr,↓aa,zp,Bs.aj,Bs.ar,Bs.ak,ax,gh,hlen];refine⟨by omega,by omega,?_⟩;refine ah ?_;refine aS ?_;simp -dsimp only[simprocAttr,↓aa,zp,Bs.aj,Bs.ar,Bs.ak,ax,OL];refine .inl ⟨_,Va,by simp only[au,ae.upto,zt,zu,av,Bs.aL,Bs.ak],an ?_⟩;simp -dsimp only[simprocAttr,↓aa,zp,Bs.aj,Bs.ar,Bs.ak,ax];refine ah ?_;refine cJ ?_;simp -dsimp only[simprocAttr,↓aa,zp,Bs.aj,Bs.ar,Bs.ak,ax];refine ah ?_;have ZY:=xD hS;refine ai (aO (ι:={x:Ds×Nat // lb i x.1∧R=iE f x.2 x.1∧(x.1.again=true->x.1.weight<x.2)}) (fun x=>⟨106,[(1,.ip none [aI f.name,aw f.blocks]),(3,.mp 1 0),(6,.ms 3 0 i i),(8,.mp 4 0),(9,.v (.bool x.1.1.again))],[.gone,.cells [.v (.int .u64 0),.v (.int .u64 0)],.cells A.enc.cells,.cells (ao (x.1.1.over.map Bs.enc)),.cells x.1.1.seen.enc.cells]⟩) (fun x=>x.1.1.weight+if x.1.1.again then 1 else 0) ⟨(ky f,20000),hS,hR,fun _=>by simp only;omega⟩ ?_ ?_)
  ·refine zq rfl ?_ ?_;simp -dsimp only[simprocAttr,↓aa,zp,Bs.aj,Bs.ar,Bs.ak,ax,zc]
   all_goals first|rfl|exact Sub.refl _
  rintro⟨⟨S,q⟩,I4,Ma,Qo⟩;simp only at I4 Ma Qo;refine cJ ?_;simp -dsimp only[simprocAttr,↓aa,zp,Bs.aj,Bs.ar,Bs.ak,ax];refine ah ?_;apply aM rfl<;>intro h
  ·refine cm ?_;have my:S.again=true:=h;have Qo:=Qo my;obtain⟨q,rfl⟩:∃q',q=q'+1:=⟨q-1,by omega⟩
   have I3:R=iE f q (kU 0 ⟨S.over,S.seen,false⟩ f.blocks):=by
    rw[Ma];simp[iE,my]
   have Oq:lb i ⟨S.over,S.seen,false⟩:=⟨I4.few,I4.len,I4.fit,I4.seen,I4.self⟩
   have TI:=qg f.blocks (k:=0) Oq he;obtain⟨S1,Pz⟩:∃S1,S1=kU 0 ⟨S.over,S.seen,false⟩ f.blocks:=⟨_,rfl⟩
   rw[<-Pz]at I3 TI;obtain⟨WN,WO,QB⟩:=TI;have RI:(⟨S.over,S.seen,false⟩:Ds).weight=S.weight:=rfl;rw[RI]at WO QB;refine ai ?_;refine aS ?_;simp -dsimp only[simprocAttr,↓aa,zp,Bs.aj,Bs.ar,Bs.ak,ax];refine ah ?_;refine aS ?_;simp -dsimp only[simprocAttr,↓aa,zp,Bs.aj,Bs.ar,Bs.ak,ax,<-hn];refine ah ?_;refine ai (aO (ι:={y:Nat×Ds // y.1<=i∧lb i y.2∧S1=kU y.1 y.2 (f.blocks.drop y.1)}) (fun y=>⟨106,[(1,.ip none [aI f.name,aw f.blocks]),(3,.mp 1 0),(6,.ms 3 0 i i),(8,.mp 4 0),(47,aw f.blocks),(48,aI i),(9,.v (.bool y.1.2.again)),(49,aI y.1.1)],[.gone,.cells [.v (.int .u64 0),.v (.int .u64 0)],.cells A.enc.cells,.cells (ao (y.1.2.over.map Bs.enc)),.cells y.1.2.seen.enc.cells]⟩) (fun y=>i-y.1.1) ⟨(0,⟨S.over,S.seen,false⟩),by simp,Oq,Pz⟩ ?_ ?_)
   ·refine zq rfl ?_ ?_;simp -dsimp only[simprocAttr,↓aa,zp,Bs.aj,Bs.ar,Bs.ak,ax,zc]
    all_goals rfl
   rintro⟨⟨k,T⟩,hk,Gr,wS⟩;simp only at hk Gr wS;refine aS ?_;simp -dsimp only[simprocAttr,↓aa,zp,Bs.aj,Bs.ar,Bs.ak,ax];refine ah ?_;apply ib rfl<;>intro h
   ·refine cm ?_;have aZ:k<i:=by simpa using h
    obtain⟨b,hb⟩:∃b,f.blocks[k]?=some b:=⟨f.blocks[k]'(by omega),List.getElem?_eq_getElem _⟩
    have sJ:=List.mem_of_getElem? hb;rw[bQ hb]at wS;simp only[kU]at wS;have Xx:=Ev (k:=k) Gr (he b sJ);have Mo:=qp T.seen Gr.seen k (by omega);refine aH (ai ?_);refine aS ?_;simp -dsimp only[simprocAttr,↓aa,zp,Bs.aj,Bs.ar,Bs.ak,ax,hb];refine ah ?_;refine aA 11 5 (.ip none [aT b.params,bP b.ins,aI b.term.kind,aI b.term.arg,aI b.term.n,aT b.term.cases,aE b.term.to]) rfl (by simp[al.aC]) trivial rfl ?_ ?_;rotate_left;simp -dsimp only[simprocAttr,↓aa,zp,Bs.aj,Bs.ar,Bs.ak,ax]
    ·refine bF 5 [(1,.ip none [aI f.name,aw f.blocks]),(3,.mp 1 0),(6,.ms 3 0 i i),(8,.mp 4 0),(47,aw f.blocks),(48,aI i),(9,.v (.bool T.again)),(10,aI k),(11,.ip none [aT b.params,bP b.ins,aI b.term.kind,aI b.term.arg,aI b.term.n,aT b.term.cases,aE b.term.to]),(49,aI k)] (by simp) (by omega) [.gone,.cells [.v (.int .u64 0),.v (.int .u64 0)],.cells A.enc.cells,.cells (ao (T.over.map Bs.enc)),.cells T.seen.enc.cells] ?_ ?_ ?_ ?_ ?_
     ·rfl
     ·simp[al.upto,au,ae.upto,av,Block.ag,Edge.ag,Ins.ag,ij,Bs.aj]
     ·simp[fL,St.get,bq,aY,Go.Av.look,Sub.refl]
     ·simp[al.upto,au,ae.upto,av,Block.ag,Edge.ag,Ins.ag,ij,Bs.aj]
     cases OP:T.seen.has k with
     | false =>
      rw[OP]at Mo;have VF:qf k T b=T:=by simp[qf,OP]
      rw[VF]at wS;refine cJ ?_;simp -dsimp only[simprocAttr,↓aa,zp,Bs.aj,Bs.ar,Bs.ak,ax];refine .inl ⟨_,Mo,by simp only[au,ae.upto,zt,zu,av,Bs.aL,Bs.ak],an ?_⟩;simp -dsimp only[simprocAttr,↓aa,zp,Bs.aj,Bs.ar,Bs.ak,ax];refine ah ?_;refine cN rfl ?_;refine aG ?_;simp -dsimp only[bD,ne_eq,Nat.reduceEqDiff,reduceCtorEq];refine j4 ?_;simp -dsimp only[simprocAttr,↓aa,zp,Bs.aj,Bs.ar,Bs.ak,ax]
      repeat(refine⟨by omega,?_⟩)
      refine fw ?_;refine⟨⟨(k+1,T),by simp only;omega,Gr,wS⟩,by simp;omega,?_⟩;refine zq rfl ?_ ?_;simp -dsimp only[simprocAttr,↓aa,zp,Bs.aj,Bs.ar,Bs.ak,ax,zc]
      all_goals first|rfl|exact Sub.refl _
     | true =>
      rw[OP]at Mo;have VF:qf k T b=b.term.to.foldl (gO k) T:=by simp[qf,OP]
      rw[VF]at wS Xx;refine cJ ?_;simp -dsimp only[simprocAttr,↓aa,zp,Bs.aj,Bs.ar,Bs.ak,ax];refine .inl ⟨_,Mo,by simp only[au,ae.upto,zt,zu,av,Bs.aL,Bs.ak],an ?_⟩;simp -dsimp only[simprocAttr,↓aa,zp,Bs.aj,Bs.ar,Bs.ak,ax];refine ah ?_;apply aM rfl<;>intro h
      ·cases h
      refine cm ?_;refine aS ?_;simp -dsimp only[simprocAttr,↓aa,zp,Bs.aj,Bs.ar,Bs.ak,ax];refine ah ?_;refine fp 60 rfl (fun kr=>?_);simp only[List.length_map]at kr;obtain⟨T1,Xm⟩:∃T1,T1=b.term.to.foldl (gO k) T:=⟨_,rfl⟩
      rw[<-Xm]at wS Xx;refine ai (aO (ι:={y:Nat×Ds // y.1<=b.term.to.length∧lb i y.2∧T1=(b.term.to.drop y.1).foldl (gO k) y.2}) (fun y=>⟨106,[(1,.ip none [aI f.name,aw f.blocks]),(3,.mp 1 0),(6,.ms 3 0 i i),(8,.mp 4 0),(47,aw f.blocks),(48,aI i),(9,.v (.bool y.1.2.again)),(10,aI k),(49,aI k),(60,aE b.term.to),(61,aI b.term.to.length),(62,aI y.1.1)],[.gone,.cells [.v (.int .u64 0),.v (.int .u64 0)],.cells A.enc.cells,.cells (ao (y.1.2.over.map Bs.enc)),.cells y.1.2.seen.enc.cells]⟩) (fun y=>b.term.to.length-y.1.1) ⟨(0,T),by simp,Gr,Xm⟩ ?_ ?_)
      ·refine zq rfl ?_ ?_;simp -dsimp only[simprocAttr,↓aa,zp,Bs.aj,Bs.ar,Bs.ak,ax,zc]
       all_goals rfl
      rintro⟨⟨z,U⟩,hz,Gs,Mb⟩;simp only at hz Gs Mb;refine aS ?_;simp -dsimp only[simprocAttr,↓aa,zp,Bs.aj,Bs.ar,Bs.ak,ax];refine ah ?_;apply ib rfl<;>intro h
      ·refine cm ?_;have Ms:z<b.term.to.length:=by simpa using h
       obtain⟨e,BR⟩:∃e,b.term.to[z]?=some e:=⟨b.term.to[z],by simp[Ms]⟩
       obtain⟨K9,um⟩:=he b sJ e (List.mem_of_getElem? BR);rw[bQ BR]at Mb;simp only[List.foldl_cons]at Mb;have m5:=Ew (k:=k) Gs K9 um;obtain⟨ej,Rr⟩:∃ej:Nat,e.block=ej:=⟨e.block.toNat,by omega⟩
       have SS:e.block.toNat=ej:=by omega
       rw[SS]at um;have Ld:U.over[ej]?=some (U.at_ ej):=by
        have:ej<U.over.length:=by rw[Gs.len];exact um
        simp[Ds.at_,this]
       have jG:U.over[k]?=some (U.at_ k):=by
        have:k<U.over.length:=by rw[Gs.len];exact aZ
        simp[Ds.at_,this]
       have SC:=F0 (U.at_ ej) (U.at_ k) (Gs.Cf ej) (Gs.Cf k);have Rt:=Bs.Ae (t:=U.at_ k) (Gs.Cf ej);have PA:=EV ((U.at_ ej).meet (U.at_ k)) ej Rt (by omega);have mz:=Bs.nS Rt (k:=ej) (by omega);have qv:=qp U.seen Gs.seen ej (by omega);have OO:=EV U.seen ej Gs.seen (by omega);have qX:=Ic Ld;have S7:=Ic jG;have AK:=xN U.over;rw[Gs.len]at AK;have VE:gO k U e=if((U.at_ ej).meet (U.at_ k)).add ej≠U.at_ ej∨U.seen.has ej=false then⟨U.over.set ej (((U.at_ ej).meet (U.at_ k)).add ej),U.seen.add ej,true⟩else U:=by
        simp only[gO,SS]
       generalize hM1:(U.at_ ej).meet (U.at_ k)=M1 at *;generalize hN:M1.add ej=N at *;generalize hV:U.at_ ej=V at *;have gh:=Cr (l:=U.over) (k:=ej) (by rw[Gs.len];exact um) N;refine aH (ai ?_);refine aS ?_;simp -dsimp only[simprocAttr,↓aa,zp,Bs.aj,Bs.ar,Bs.ak,ax,BR];refine ah ?_;refine aA 13 5 (.ip none [aI e.block,aT e.args]) rfl (by simp[al.aC]) trivial rfl ?_ ?_;rotate_left;simp -dsimp only[simprocAttr,↓aa,zp,Bs.aj,Bs.ar,Bs.ak,ax]
       ·refine bF 5 [(1,.ip none [aI f.name,aw f.blocks]),(3,.mp 1 0),(6,.ms 3 0 i i),(8,.mp 4 0),(47,aw f.blocks),(48,aI i),(9,.v (.bool U.again)),(10,aI k),(13,.ip none [aI e.block,aT e.args]),(49,aI k),(60,aE b.term.to),(61,aI b.term.to.length),(62,aI z)] (by simp) (by omega) [.gone,.cells [.v (.int .u64 0),.v (.int .u64 0)],.cells A.enc.cells,.cells (ao (U.over.map Bs.enc)),.cells U.seen.enc.cells] ?_ ?_ ?_ ?_ ?_
        ·rfl
        ·simp[al.upto,au,ae.upto,av,Block.ag,Edge.ag,Ins.ag,ij,Bs.aj]
        ·simp[fL,St.get,bq,aY,Go.Av.look,Sub.refl]
        ·simp[al.upto,au,ae.upto,av,Block.ag,Edge.ag,Ins.ag,ij,Bs.aj]
        refine aS ?_;simp -dsimp only[simprocAttr,↓aa,zp,Bs.aj,Bs.ar,Bs.ak,ax,Rr,Int.toNat_natCast,qX,S7,AK];refine⟨by omega,by omega,by omega,by omega,?_⟩;refine .inl ⟨_,SC,by simp only[au,ae.upto,zt,zu,av,Bs.aL,Bs.ak],an ?_⟩;simp -dsimp only[simprocAttr,↓aa,zp,Bs.aj,Bs.ar,Bs.ak,ax];refine .inl ⟨_,PA,by simp only[au,ae.upto,zt,zu,av,Bs.aL,Bs.ak],an ?_⟩;simp -dsimp only[simprocAttr,↓aa,zp,Bs.aj,Bs.ar,Bs.ak,ax];refine⟨ob (by kernel_rfl),?_⟩;refine ah ?_;have SE:=ij 5 (U.over.set ej N);rw[List.map_set]at SE;by_cases Ux:N=V
        ·have UF:decide (N=V)=true:=decide_eq_true Ux;cases GK:U.seen.has ej with
         | true =>
          rw[GK]at qv;have C6:gO k U e=U:=by rw[VE,if_neg (by simp[Ux,GK])]
          refine aS ?_;simp -dsimp only[simprocAttr,↓aa,zp,Bs.aj,Bs.ar,Bs.ak,ax,Rr,Int.toNat_natCast,qX,AK,vf,UF]
          repeat(refine⟨by omega,?_⟩)
          refine .inl ⟨_,qv,by simp only[au,ae.upto,zt,zu,av,Bs.aL,Bs.ak],an ?_⟩;simp -dsimp only[simprocAttr,↓aa,zp,Bs.aj,Bs.ar,Bs.ak,ax];refine⟨ob (by kernel_rfl),?_⟩;refine ah ?_;refine cd rfl ?_;refine kA ?_;refine bF 5 [(1,.ip none [aI f.name,aw f.blocks]),(3,.mp 1 0),(6,.ms 3 0 i i),(8,.mp 4 0),(47,aw f.blocks),(48,aI i),(9,.v (.bool U.again)),(10,aI k),(49,aI k),(60,aE b.term.to),(61,aI b.term.to.length),(62,aI z)] (by simp) (by omega) [.gone,.cells [.v (.int .u64 0),.v (.int .u64 0)],.cells A.enc.cells,.cells (ao ((U.over).map Bs.enc)),.cells (U.seen).enc.cells] ?_ ?_ ?_ ?_ ?_
          ·rfl
          ·simp[al.upto,au,ae.upto,av,Block.ag,Edge.ag,Ins.ag,ij,Bs.aj]
          ·simp[fL,St.get,bq,aY,Go.Av.look,Sub.refl]
          ·simp[al.upto,au,ae.upto,av,Block.ag,Edge.ag,Ins.ag,ij,Bs.aj]
          refine j4 ?_;simp -dsimp only[simprocAttr,↓aa,zp,Bs.aj,Bs.ar,Bs.ak,ax]
          repeat(refine⟨by omega,?_⟩)
          refine fw ?_;refine⟨⟨(z+1,U),by simp only;omega,Gs,by rw[Mb,C6]⟩,by simp;omega,?_⟩;refine zq rfl ?_ ?_;simp -dsimp only[simprocAttr,↓aa,zp,Bs.aj,Bs.ar,Bs.ak,ax,zc]
          all_goals first|rfl|exact Sub.refl _
         | false =>
          rw[GK]at qv;have C6:gO k U e=⟨U.over.set ej N,U.seen.add ej,true⟩:=by rw[VE,if_pos (.inr GK)]
          refine aS ?_;simp -dsimp only[simprocAttr,↓aa,zp,Bs.aj,Bs.ar,Bs.ak,ax,Rr,Int.toNat_natCast,qX,AK,vf,UF]
          repeat(refine⟨by omega,?_⟩)
          refine .inl ⟨_,qv,by simp only[au,ae.upto,zt,zu,av,Bs.aL,Bs.ak],an ?_⟩;simp -dsimp only[simprocAttr,↓aa,zp,Bs.aj,Bs.ar,Bs.ak,ax];refine⟨ob (by kernel_rfl),?_⟩;refine ah ?_;refine cN rfl ?_;refine j4 ?_;simp -dsimp only[simprocAttr,↓aa,zp,Bs.aj,Bs.ar,Bs.ak,ax,Rr,Int.toNat_natCast,gh,AK]
          repeat(refine⟨by omega,?_⟩)
          refine .inl ⟨_,OO,by simp only[au,ae.upto,zt,zu,av,Bs.aL,Bs.ak],an ?_⟩;simp -dsimp only[simprocAttr,↓aa,zp,Bs.aj,Bs.ar,Bs.ak,ax,gh,AK]
          repeat(refine⟨by omega,?_⟩)
          refine⟨ob (by kernel_rfl),?_⟩;refine ah ?_;refine bF 5 [(1,.ip none [aI f.name,aw f.blocks]),(3,.mp 1 0),(6,.ms 3 0 i i),(8,.mp 4 0),(47,aw f.blocks),(48,aI i),(9,.v (.bool true)),(10,aI k),(49,aI k),(60,aE b.term.to),(61,aI b.term.to.length),(62,aI z)] (by simp) (by omega) [.gone,.cells [.v (.int .u64 0),.v (.int .u64 0)],.cells A.enc.cells,.cells (ao ((U.over.set ej N).map Bs.enc)),.cells (U.seen.add ej).enc.cells] ?_ ?_ ?_ ?_ ?_
          ·rfl
          ·simp[al.upto,au,ae.upto,av,Block.ag,Edge.ag,Ins.ag,ij,Bs.aj,SE]
          ·simp[fL,St.get,bq,aY,Go.Av.look,Sub.refl]
          ·simp[al.upto,au,ae.upto,av,Block.ag,Edge.ag,Ins.ag,ij,Bs.aj]
          refine j4 ?_;simp -dsimp only[simprocAttr,↓aa,zp,Bs.aj,Bs.ar,Bs.ak,ax]
          repeat(refine⟨by omega,?_⟩)
          refine fw ?_;refine⟨⟨(z+1,⟨U.over.set ej N,U.seen.add ej,true⟩),by simp only;omega,by rw[<-C6];exact m5.1,by rw[Mb,C6]⟩,by simp;omega,?_⟩;refine zq rfl ?_ ?_;simp -dsimp only[simprocAttr,↓aa,zp,Bs.aj,Bs.ar,Bs.ak,ax,zc]
          all_goals first|rfl|exact Sub.refl _
        have UF:decide (N=V)=false:=decide_eq_false Ux;have C6:gO k U e=⟨U.over.set ej N,U.seen.add ej,true⟩:=by rw[VE,if_pos (.inl Ux)]
        refine aS ?_;simp -dsimp only[simprocAttr,↓aa,zp,Bs.aj,Bs.ar,Bs.ak,ax,Rr,Int.toNat_natCast,qX,AK,vf,UF]
        repeat(refine⟨by omega,?_⟩)
        refine⟨ob (by kernel_rfl),?_⟩;refine ah ?_;refine cN rfl ?_;refine j4 ?_;simp -dsimp only[simprocAttr,↓aa,zp,Bs.aj,Bs.ar,Bs.ak,ax,Rr,Int.toNat_natCast,gh,AK]
        repeat(refine⟨by omega,?_⟩)
        refine .inl ⟨_,OO,by simp only[au,ae.upto,zt,zu,av,Bs.aL,Bs.ak],an ?_⟩;simp -dsimp only[simprocAttr,↓aa,zp,Bs.aj,Bs.ar,Bs.ak,ax,gh,AK]
        repeat(refine⟨by omega,?_⟩)
        refine⟨ob (by kernel_rfl),?_⟩;refine ah ?_;refine bF 5 [(1,.ip none [aI f.name,aw f.blocks]),(3,.mp 1 0),(6,.ms 3 0 i i),(8,.mp 4 0),(47,aw f.blocks),(48,aI i),(9,.v (.bool true)),(10,aI k),(49,aI k),(60,aE b.term.to),(61,aI b.term.to.length),(62,aI z)] (by simp) (by omega) [.gone,.cells [.v (.int .u64 0),.v (.int .u64 0)],.cells A.enc.cells,.cells (ao ((U.over.set ej N).map Bs.enc)),.cells (U.seen.add ej).enc.cells] ?_ ?_ ?_ ?_ ?_
        ·rfl
        ·simp[al.upto,au,ae.upto,av,Block.ag,Edge.ag,Ins.ag,ij,Bs.aj,SE]
        ·simp[fL,St.get,bq,aY,Go.Av.look,Sub.refl]
        ·simp[al.upto,au,ae.upto,av,Block.ag,Edge.ag,Ins.ag,ij,Bs.aj]
        refine j4 ?_;simp -dsimp only[simprocAttr,↓aa,zp,Bs.aj,Bs.ar,Bs.ak,ax]
        repeat(refine⟨by omega,?_⟩)
        refine fw ?_;refine⟨⟨(z+1,⟨U.over.set ej N,U.seen.add ej,true⟩),by simp only;omega,by rw[<-C6];exact m5.1,by rw[Mb,C6]⟩,by simp;omega,?_⟩;refine zq rfl ?_ ?_;simp -dsimp only[simprocAttr,↓aa,zp,Bs.aj,Bs.ar,Bs.ak,ax,zc]
        all_goals first|rfl|exact Sub.refl _
       exact bT.mp rfl rfl
      refine aG ?_;simp -dsimp only[bD,ne_eq,Nat.reduceEqDiff,reduceCtorEq];have pO:z=b.term.to.length:=by simp at h;omega
      subst pO;rw[List.drop_length]at Mb;simp only[List.foldl_nil]at Mb;refine j4 ?_;simp -dsimp only[simprocAttr,↓aa,zp,Bs.aj,Bs.ar,Bs.ak,ax]
      repeat(refine⟨by omega,?_⟩)
      refine fw ?_;refine⟨⟨(k+1,U),by simp only;omega,Gs,by rw[wS,Mb]⟩,by simp;omega,?_⟩;refine zq rfl ?_ ?_;simp -dsimp only[simprocAttr,↓aa,zp,Bs.aj,Bs.ar,Bs.ak,ax,zc]
      all_goals first|rfl|exact Sub.refl _
    exact bT.mp rfl rfl
   refine aG ?_;simp -dsimp only[bD,ne_eq,Nat.reduceEqDiff,reduceCtorEq];have Rx:k=i:=by simp at h;omega
   subst Rx;rw[hn,List.drop_length]at wS;simp only[kU]at wS;subst wS;have AG:S1.again=true->S1.weight<q:=fun hh=>by
    rcases QB hh with r|r
    ·cases r
    omega
   refine⟨⟨(S1,q),WN,I3,AG⟩,?_,?_⟩
   ·simp only[my,if_true];cases vS:S1.again
    ·simp;omega
    rcases QB vS with r|r
    ·cases r
    simp;omega
   refine zq rfl ?_ ?_;simp -dsimp only[simprocAttr,↓aa,zp,Bs.aj,Bs.ar,Bs.ak,ax,zc]
   all_goals rfl
  refine aG ?_;simp -dsimp only[bD,ne_eq,Nat.reduceEqDiff,reduceCtorEq];have my:S.again=false:=h;rw[wH my]at Ma;subst Ma;have di:=I4.len;refine aA 6 3 (.aB 2 (R.over.map Bs.enc) .sh) rfl (by simp[al.aC]) trivial rfl ?_ ?_;rotate_left;simp -dsimp only[simprocAttr,↓aa,zp,Bs.aj,Bs.ar,Bs.ak,ax]
  ·refine aS ?_;simp -dsimp only[simprocAttr,↓aa,zp,Bs.aj,Bs.ar,Bs.ak,ax];refine⟨ob (by kernel_rfl),?_⟩;refine ah ?_;refine aq ?_;simp -dsimp only[simprocAttr,↓aa,zp,Bs.aj,Bs.ar,Bs.ak,ax,zr,Tryz.results88];exact⟨⟨gy _ _,trivial⟩,Bs.aL _ _,trivial⟩
  refine bT.ms rfl (Es R.over) (by simp[di]) ?_;rw[List.drop_zero,List.take_of_length_le (by rw[xN,di];exact Nat.le_refl _),<-ik];simp[List.map_map,Function.comp_def,Bs.ak]
 exact bT.mp rfl rfl
abbrev Ii(f:Func)(ds:Defs)(over:List Bs)(seen:Bs)(k:Nat)(A:Nat):List ae:=[.ip none [.ip none [aI f.name,aw f.blocks,.im (.int .i64) (ds.map eR)]],.ip none [aI (k:Int)],.mp A 0,.ip none [.aB 2 (over.map Bs.enc) .sh],.ip none [.v (.int .u64 seen.a),.v (.int .u64 seen.b)]]
def iI(ds:Defs)(over:List Bs)(seen:Bs)(k:Nat)(at_:Int)(v:Int):Bool :=
 match fk ds v with
 | none=>false
 | some p=>(decide (p.1=k)&&decide (p.2<=at_)) || ((!decide (p.1=k)&&(over[k]?.getD .none).has p.1.toNat) || !seen.has k)
def BZ(n:Nat)(ds:Defs):Prop:=∀v p,fk ds v=some p->0<=p.1∧p.1.toNat<n
theorem Gl{O:List al}(br:∀o∈O,o.upto O.length){f:Func}{ds:Defs}{over:List Bs}{seen:Bs}{k A:Nat}{at_:Int}(hA:O[A]?=some (.cells [aI at_]))(hn:over.length<=128)(hk:k<over.length)(bt:∀s∈over,s.fit)(Ru:seen.fit)(BQ:BZ over.length ds)(v:Int) :
  ba Tryz.prog 89 O (aI v::Ii f ds over seen k A) (fun r O'=>r=.v (.bool (iI ds over seen k at_ v))∧O'=O):=by
 have C1:=I hA;have jG:over[k]?=some over[k]:=List.getElem?_eq_getElem hk;have XD:=bt _ (List.getElem_mem hk);obtain⟨s,hs⟩:∃s,s=over[k]:=⟨_,rfl⟩
 rw[<-hs]at jG XD;have qv:=qp seen Ru k (by omega);unfold iI;have hAX:∀X,(O++X)[A]?=some (.cells [aI at_]):=fun X=>cj hA;have hdu:=eX O.length ds;rw[jG];simp only[Option.getD_some];generalize OP:seen.has k=sk at *;cases hl:fk ds v with
 | none =>
  refine zf true O.length Tryz.func89 Tryz.ntmps89 ?_;dsimp only[Tmp,TypeId,slotsOf];refine aS ?_;simp -dsimp only[simprocAttr,↓aa,zp,Bs.aj,Bs.ar,Bs.ak,ax];refine ah ?_;refine aS ?_;simp -dsimp only[simprocAttr,↓aa,zp,Bs.aj,Bs.ar,Bs.ak,ax,iQ,hl,Option.map_none,Option.getD_none,Option.isSome_none];refine ah ?_;refine aJ 8 ([aI 0,aI 0]) [(9,.v (.bool false))] rfl (by rfl) (by omega) (by simp[bq,aY,Go.Av.look]) ?_ ?_ ?_
  ·exact br
  ·simp[ae.upto]
  refine aS ?_;simp -dsimp only[simprocAttr,↓aa,zp,Bs.aj,Bs.ar,Bs.ak,ax];refine⟨ob (by kernel_rfl),?_⟩;refine ah ?_;refine aq ?_;simp -dsimp only[simprocAttr,↓aa,zp,Bs.aj,Bs.ar,Bs.ak,ax,zr,Tryz.results89];exact br
 | some p =>
  have hq:eD p=.agg [aI p.1,aI p.2]:=rfl;obtain⟨b0,b1⟩:=BQ v p hl;have jL:=qp s XD p.1.toNat (by omega)
  rw[show((p.1.toNat:Nat):Int)=p.1 by omega]at jL;simp only;generalize s.has p.1.toNat=sv at *;by_cases vR:p.1=k
  ·have hd:decide (p.1=(k:Int))=true:=decide_eq_true vR;by_cases pM:p.2<=at_
   ·have kq:decide (p.2<=at_)=true:=decide_eq_true pM;rw[hd,kq];refine zf true O.length Tryz.func89 Tryz.ntmps89 ?_;dsimp only[Tmp,TypeId,slotsOf];refine aS ?_;simp -dsimp only[simprocAttr,↓aa,zp,Bs.aj,Bs.ar,Bs.ak,ax];refine ah ?_;refine aS ?_;simp -dsimp only[simprocAttr,↓aa,zp,Bs.aj,Bs.ar,Bs.ak,ax,iQ,hl,hq,Option.map_some,Option.getD_some,Option.isSome_some];refine ah ?_;refine aJ 8 ([aI p.1,aI p.2]) [(2,.ip none [aI k]),(3,.mp A 0),(4,.ip none [.aB 2 (over.map Bs.enc) .sh]),(5,.ip none [.v (.int .u64 seen.a),.v (.int .u64 seen.b)]),(8,.ip none [aI p.1,aI p.2]),(9,.v (.bool true))] rfl (by rfl) (by omega) (by simp[bq,aY,Go.Av.look]) ?_ ?_ ?_
    ·exact br
    ·simp[ae.upto,au,C1,gy]
    refine aS ?_;simp -dsimp only[simprocAttr,↓aa,zp,Bs.aj,Bs.ar,Bs.ak,ax,hA,jG,Int.toNat_natCast,hd,kq];refine⟨ob (by kernel_rfl),?_⟩;refine ah ?_;refine aq ?_;simp -dsimp only[simprocAttr,↓aa,zp,Bs.aj,Bs.ar,Bs.ak,ax,zr,Tryz.results89];exact⟨br,by simp⟩
   have kq:decide (p.2<=at_)=false:=decide_eq_false pM;rw[hd,kq];refine zf true O.length Tryz.func89 Tryz.ntmps89 ?_;dsimp only[Tmp,TypeId,slotsOf];refine aS ?_;simp -dsimp only[simprocAttr,↓aa,zp,Bs.aj,Bs.ar,Bs.ak,ax];refine ah ?_;refine aS ?_;simp -dsimp only[simprocAttr,↓aa,zp,Bs.aj,Bs.ar,Bs.ak,ax,iQ,hl,hq,Option.map_some,Option.getD_some,Option.isSome_some];refine ah ?_;refine aJ 8 ([aI p.1,aI p.2]) [(2,.ip none [aI k]),(3,.mp A 0),(4,.ip none [.aB 2 (over.map Bs.enc) .sh]),(5,.ip none [.v (.int .u64 seen.a),.v (.int .u64 seen.b)]),(8,.ip none [aI p.1,aI p.2]),(9,.v (.bool true))] rfl (by rfl) (by omega) (by simp[bq,aY,Go.Av.look]) ?_ ?_ ?_
   ·exact br
   ·simp[ae.upto,au,C1,gy]
   refine aS ?_;simp -dsimp only[simprocAttr,↓aa,zp,Bs.aj,Bs.ar,Bs.ak,ax,hA,jG,Int.toNat_natCast,hd,kq];refine .inl ⟨_,qv,by simp only[au,ae.upto,zt,zu,av,Bs.aL,Bs.ak],an ?_⟩;simp -dsimp only[simprocAttr,↓aa,zp,Bs.aj,Bs.ar,Bs.ak,ax,hd,kq,hA,jG,Int.toNat_natCast];refine⟨ob (by kernel_rfl),?_⟩;refine ah ?_;refine aq ?_;simp -dsimp only[simprocAttr,↓aa,zp,Bs.aj,Bs.ar,Bs.ak,ax,zr,Tryz.results89];exact⟨br,by simp⟩
  have hd:decide (p.1=(k:Int))=false:=decide_eq_false vR;rw[hd];cases sv with
  | true =>
   refine zf true O.length Tryz.func89 Tryz.ntmps89 ?_;dsimp only[Tmp,TypeId,slotsOf];refine aS ?_;simp -dsimp only[simprocAttr,↓aa,zp,Bs.aj,Bs.ar,Bs.ak,ax];refine ah ?_;refine aS ?_;simp -dsimp only[simprocAttr,↓aa,zp,Bs.aj,Bs.ar,Bs.ak,ax,iQ,hl,hq,Option.map_some,Option.getD_some,Option.isSome_some];refine ah ?_;refine aJ 8 ([aI p.1,aI p.2]) [(2,.ip none [aI k]),(3,.mp A 0),(4,.ip none [.aB 2 (over.map Bs.enc) .sh]),(5,.ip none [.v (.int .u64 seen.a),.v (.int .u64 seen.b)]),(8,.ip none [aI p.1,aI p.2]),(9,.v (.bool true))] rfl (by rfl) (by omega) (by simp[bq,aY,Go.Av.look]) ?_ ?_ ?_
   ·exact br
   ·simp[ae.upto,au,C1,gy]
   refine aS ?_;simp -dsimp only[simprocAttr,↓aa,zp,Bs.aj,Bs.ar,Bs.ak,ax,hA,jG,Int.toNat_natCast,hd];refine .inl ⟨_,jL,by simp only[au,ae.upto,zt,zu,av,Bs.aL,Bs.ak],an ?_⟩;simp -dsimp only[simprocAttr,↓aa,zp,Bs.aj,Bs.ar,Bs.ak,ax,hd,hA,jG,Int.toNat_natCast];refine⟨ob (by kernel_rfl),?_⟩;refine ah ?_;refine aq ?_;simp -dsimp only[simprocAttr,↓aa,zp,Bs.aj,Bs.ar,Bs.ak,ax,zr,Tryz.results89];exact⟨br,by simp⟩
  | false =>
   refine zf true O.length Tryz.func89 Tryz.ntmps89 ?_;dsimp only[Tmp,TypeId,slotsOf];refine aS ?_;simp -dsimp only[simprocAttr,↓aa,zp,Bs.aj,Bs.ar,Bs.ak,ax];refine ah ?_;refine aS ?_;simp -dsimp only[simprocAttr,↓aa,zp,Bs.aj,Bs.ar,Bs.ak,ax,iQ,hl,hq,Option.map_some,Option.getD_some,Option.isSome_some];refine ah ?_;refine aJ 8 ([aI p.1,aI p.2]) [(2,.ip none [aI k]),(3,.mp A 0),(4,.ip none [.aB 2 (over.map Bs.enc) .sh]),(5,.ip none [.v (.int .u64 seen.a),.v (.int .u64 seen.b)]),(8,.ip none [aI p.1,aI p.2]),(9,.v (.bool true))] rfl (by rfl) (by omega) (by simp[bq,aY,Go.Av.look]) ?_ ?_ ?_
   ·exact br
   ·simp[ae.upto,au,C1,gy]
   refine aS ?_;simp -dsimp only[simprocAttr,↓aa,zp,Bs.aj,Bs.ar,Bs.ak,ax,hA,jG,Int.toNat_natCast,hd];refine .inl ⟨_,jL,by simp only[au,ae.upto,zt,zu,av,Bs.aL,Bs.ak],an ?_⟩;simp -dsimp only[simprocAttr,↓aa,zp,Bs.aj,Bs.ar,Bs.ak,ax,hd,hA,jG,Int.toNat_natCast];refine .inl ⟨_,qv,by simp only[au,ae.upto,zt,zu,av,Bs.aL,Bs.ak],an ?_⟩;simp -dsimp only[simprocAttr,↓aa,zp,Bs.aj,Bs.ar,Bs.ak,ax,hd,hA,jG,Int.toNat_natCast];refine⟨ob (by kernel_rfl),?_⟩;refine ah ?_;refine aq ?_;simp -dsimp only[simprocAttr,↓aa,zp,Bs.aj,Bs.ar,Bs.ak,ax,zr,Tryz.results89];exact⟨br,by simp⟩
def nA(t:Term)(p:Int->Bool):Bool:=((decide (t.kind=1) ||decide (t.kind=4)) ||p t.arg)&&t.to.all fun e=>e.args.all p
theorem tt{α:Type}{l:List α}{p:α->Bool}{j:Nat}{x:α}(h:l[j]?=some x):(l.drop j).all p=(p x&&(l.drop (j+1)).all p):=by
 rw[bQ h];rfl
theorem HH{O:List al}(br:∀o∈O,o.upto O.length)(id:Nat)(xP:List ae)(vL:au O.length xP)(p:Int->Bool)(hp:∀v,ba Tryz.prog id O (aI v::xP) (fun r O'=>r=.v (.bool (p v))∧O'=O))(t:Term) :
  ba Tryz.prog 91 O [t.enc,.fn (.func id) [] xP] (fun r O'=>r=.v (.bool (nA t p))∧O'=O):=by
 obtain⟨R,hR⟩:∃R,R=nA t p:=⟨_,rfl⟩
 rw[<-hR];unfold nA at hR;have EI:ae.upto O.length (.fn (.func id) [] xP):=⟨trivial,vL⟩
 have pM:=hp t.arg;refine zf true O.length Tryz.func91 Tryz.ntmps91 ?_;dsimp only[Tmp,TypeId,slotsOf];refine aS ?_;simp -dsimp only[simprocAttr,↓aa,zp,Bs.aj,Bs.ar,Bs.ak,ax];refine ah ?_;refine aJ 2 ([aI t.kind,aI t.arg,aI t.n,aT t.cases,aE t.to]) [(1,.fn (.func id) [] xP),(2,.ip none [aI t.kind,aI t.arg,aI t.n,aT t.cases,aE t.to]),(4,.v (.bool false))] rfl (by rfl) (by omega) (by simp[bq,aY,Go.Av.look]) ?_ ?_ ?_
 ·exact br
 ·simp[ae.upto,au,av,Edge.ag,vL]
 cases hb:(decide (t.kind=1) ||decide (t.kind=4)) ||p t.arg with
 | false =>
  rw[hb]at hR;obtain⟨h1,h4,EH⟩:decide (t.kind=1)=false∧decide (t.kind=4)=false∧p t.arg=false:=by
   revert hb;cases decide (t.kind=1)<;>cases decide (t.kind=4)<;>cases p t.arg<;>simp
  rw[EH]at pM;refine cJ ?_;simp -dsimp only[simprocAttr,↓aa,zp,Bs.aj,Bs.ar,Bs.ak,ax,h1,h4];refine .inr (.inr ⟨_,pM,an ?_⟩);simp -dsimp only[simprocAttr,↓aa,zp,Bs.aj,Bs.ar,Bs.ak,ax];refine ah ?_;refine cN rfl ?_;refine aS ?_;simp -dsimp only[simprocAttr,↓aa,zp,Bs.aj,Bs.ar,Bs.ak,ax];refine ah ?_;refine aq ?_;simp -dsimp only[simprocAttr,↓aa,zp,Bs.aj,Bs.ar,Bs.ak,ax,zr,Tryz.results91];exact⟨br,by rw[hR];rfl⟩
 | true =>
  rw[hb,Bool.true_and]at hR;refine jP (⟨44,[(1,.fn (.func id) [] xP),(2,.ip none [aI t.kind,aI t.arg,aI t.n,aT t.cases,aE t.to]),(4,.v (.bool false))],O⟩) ?_ ?_
  ·cases h1:decide (t.kind=1)with
   | true =>
    refine aS ?_;simp -dsimp only[simprocAttr,↓aa,zp,Bs.aj,Bs.ar,Bs.ak,ax,h1];refine ah ?_;refine cd rfl ?_;refine a6 ?_;show bd _ _;refine zq rfl ?_ ?_;simp -dsimp only[simprocAttr,↓aa,zp,Bs.aj,Bs.ar,Bs.ak,ax,zc];rfl
   | false =>
    cases h4:decide (t.kind=4)with
    | true =>
     refine aS ?_;simp -dsimp only[simprocAttr,↓aa,zp,Bs.aj,Bs.ar,Bs.ak,ax,h1,h4];refine ah ?_;refine cd rfl ?_;refine a6 ?_;show bd _ _;refine zq rfl ?_ ?_;simp -dsimp only[simprocAttr,↓aa,zp,Bs.aj,Bs.ar,Bs.ak,ax,zc];rfl
    | false =>
     have EH:p t.arg=true:=by
      rw[h1,h4]at hb;simpa using hb
     rw[EH]at pM;refine aS ?_;simp -dsimp only[simprocAttr,↓aa,zp,Bs.aj,Bs.ar,Bs.ak,ax,h1,h4];refine .inr (.inr ⟨_,pM,an ?_⟩);simp -dsimp only[simprocAttr,↓aa,zp,Bs.aj,Bs.ar,Bs.ak,ax];refine ah ?_;refine cd rfl ?_;refine a6 ?_;show bd _ _;refine zq rfl ?_ ?_;simp -dsimp only[simprocAttr,↓aa,zp,Bs.aj,Bs.ar,Bs.ak,ax,zc];rfl
  skip
  refine cJ ?_;simp -dsimp only[simprocAttr,↓aa,zp,Bs.aj,Bs.ar,Bs.ak,ax];refine ah ?_;refine fp 25 rfl (fun kr=>?_);simp only[List.length_map]at kr;refine ai (aO (ι:={j:Nat // j<=t.to.length∧R=(t.to.drop j).all fun e=>e.args.all p}) (fun j=>⟨44,[(1,.fn (.func id) [] xP),(4,.v (.bool false)),(25,aE t.to),(26,aI t.to.length),(27,aI j.1)],O⟩) (fun j=>t.to.length-j.1) ⟨0,by omega,hR⟩ ?_ ?_)
  ·refine zq rfl ?_ ?_;simp -dsimp only[simprocAttr,↓aa,zp,Bs.aj,Bs.ar,Bs.ak,ax,zc];rfl
  rintro⟨j,hj,jX⟩;refine aS ?_;simp -dsimp only[simprocAttr,↓aa,zp,Bs.aj,Bs.ar,Bs.ak,ax];refine ah ?_;apply ib rfl<;>intro h
  ·refine cm ?_;have aZ:j<t.to.length:=by simpa using h
   obtain⟨e,BR⟩:∃e,t.to[j]?=some e:=⟨t.to[j],by simp[aZ]⟩
   rw[tt BR]at jX;refine aH (ai ?_);refine aS ?_;simp -dsimp only[simprocAttr,↓aa,zp,Bs.aj,Bs.ar,Bs.ak,ax,BR];refine ah ?_;refine aJ 6 ([aI e.block,aT e.args]) [(1,.fn (.func id) [] xP),(4,.v (.bool false)),(6,.ip none [aI e.block,aT e.args]),(25,aE t.to),(26,aI t.to.length),(27,aI j)] rfl (by rfl) (by omega) (by simp[bq,aY,Go.Av.look]) ?_ ?_ ?_
   ·exact br
   ·simp[ae.upto,au,av,Edge.ag,vL]
   refine aS ?_;simp -dsimp only[simprocAttr,↓aa,zp,Bs.aj,Bs.ar,Bs.ak,ax];refine ah ?_;refine fp 32 rfl (fun jK=>?_);simp only[List.length_map]at jK;refine ai (aO (ι:={z:Nat // z<=e.args.length∧R=((e.args.drop z).all p&&(t.to.drop (j+1)).all fun e=>e.args.all p)}) (fun z=>⟨44,[(1,.fn (.func id) [] xP),(4,.v (.bool false)),(25,aE t.to),(26,aI t.to.length),(27,aI j),(32,aT e.args),(33,aI e.args.length),(34,aI z.1)],O⟩) (fun z=>e.args.length-z.1) ⟨0,by omega,jX⟩ ?_ ?_)
   ·refine zq rfl ?_ ?_;simp -dsimp only[simprocAttr,↓aa,zp,Bs.aj,Bs.ar,Bs.ak,ax,zc];rfl
   rintro⟨z,hz,pO⟩;refine aS ?_;simp -dsimp only[simprocAttr,↓aa,zp,Bs.aj,Bs.ar,Bs.ak,ax];refine ah ?_;apply ib rfl<;>intro h
   ·refine cm ?_;have Ms:z<e.args.length:=by simpa using h
    obtain⟨v,hv⟩:∃v,e.args[z]?=some v:=⟨e.args[z],by simp[Ms]⟩
    rw[tt hv]at pO;have ZN:=hp v;refine aH (ai ?_);refine aS ?_;simp -dsimp only[simprocAttr,↓aa,zp,Bs.aj,Bs.ar,Bs.ak,ax,hv];refine ah ?_;refine aS ?_;simp -dsimp only[simprocAttr,↓aa,zp,Bs.aj,Bs.ar,Bs.ak,ax];refine .inr (.inr ⟨_,ZN,an ?_⟩);simp -dsimp only[simprocAttr,↓aa,zp,Bs.aj,Bs.ar,Bs.ak,ax];refine ah ?_;cases EH:p v with
    | true =>
     rw[EH,Bool.true_and]at pO;refine cd rfl ?_;refine kA ?_;refine j4 ?_;simp -dsimp only[simprocAttr,↓aa,zp,Bs.aj,Bs.ar,Bs.ak,ax]
     repeat(refine⟨by omega,?_⟩)
     refine fw ?_;refine⟨⟨z+1,Ms,pO⟩,by simp;omega,?_⟩;refine zq rfl ?_ ?_;simp -dsimp only[simprocAttr,↓aa,zp,Bs.aj,Bs.ar,Bs.ak,ax,zc]
     ·exact Sub.int (by simp)
     rfl
    | false =>
     rw[EH]at pO;refine cN rfl ?_;refine aS ?_;simp -dsimp only[simprocAttr,↓aa,zp,Bs.aj,Bs.ar,Bs.ak,ax];refine ah ?_;refine aq ?_;simp -dsimp only[simprocAttr,↓aa,zp,Bs.aj,Bs.ar,Bs.ak,ax,zr,Tryz.results91];exact⟨br,by rw[pO];rfl⟩
   refine aG ?_;simp -dsimp only[bD,ne_eq,Nat.reduceEqDiff,reduceCtorEq];have Qr:z=e.args.length:=by simp at h;omega
   subst Qr;rw[List.drop_length]at pO;refine j4 ?_;simp -dsimp only[simprocAttr,↓aa,zp,Bs.aj,Bs.ar,Bs.ak,ax]
   repeat(refine⟨by omega,?_⟩)
   refine fw ?_;refine⟨⟨j+1,aZ,by simpa using pO⟩,by simp;omega,?_⟩;refine zq rfl ?_ ?_;simp -dsimp only[simprocAttr,↓aa,zp,Bs.aj,Bs.ar,Bs.ak,ax,zc]
   ·exact Sub.int (by simp)
   rfl
  refine aG ?_;simp -dsimp only[bD,ne_eq,Nat.reduceEqDiff,reduceCtorEq];have ru:j=t.to.length:=by simp at h;omega
  subst ru;rw[List.drop_length]at jX;refine aS ?_;simp -dsimp only[simprocAttr,↓aa,zp,Bs.aj,Bs.ar,Bs.ak,ax];refine ah ?_;refine aq ?_;simp -dsimp only[simprocAttr,↓aa,zp,Bs.aj,Bs.ar,Bs.ak,ax,zr,Tryz.results91];exact⟨br,by rw[jX];rfl⟩
def jc(ds:Defs)(over:List Bs)(seen:Bs)(k:Nat):Nat->List Ins->Bool
 | _,[]=>true
 | n,i::r=>i.args.all (iI ds over seen k n)&&jc ds over seen k (n+1) r
def kF(ds:Defs)(over:List Bs)(seen:Bs)(k:Nat)(b:Block):Bool:=jc ds over seen k 0 b.ins&&nA b.term (iI ds over seen k b.ins.length)
def gH(ds:Defs)(over:List Bs)(seen:Bs):Nat->List Block->Bool
 | _,[]=>true
 | k,b::r=>kF ds over seen k b&&gH ds over seen (k+1) r
def qS(f:Func)(ds:Defs):Int:=if gH ds (kv f).1 (kv f).2 0 f.blocks then 0 else 6
theorem LP(f:Func)(h0:f.blocks≠[])(h1:f.blocks.length<=128)(he:∀b∈f.blocks,∀e∈b.term.to,0<=e.block∧e.block.toNat<f.blocks.length):(kv f).1.length=f.blocks.length∧(∀s∈(kv f).1,s.fit)∧(kv f).2.fit:=by
 have key:∀(n:Nat) (S:Ds),lb f.blocks.length S->lb f.blocks.length (iE f n S):=fun n=>by
  induction n with
  | zero=>exact fun S h=>h
  | succ n ih =>
   intro S h;simp only[iE];split
   ·exact ih _ (qg f.blocks (k:=0) (S:=⟨S.over,S.seen,false⟩) ⟨h.few,h.len,h.fit,h.seen,h.self⟩ he).1
   exact h
 have h:=key 20000 _ (xX h0 h1);exact⟨h.len,h.fit,h.seen⟩
theorem HI(f:Func)(ds:Defs)(h0:f.blocks≠[])(h1:f.blocks.length<=128)(he:∀b∈f.blocks,∀e∈b.term.to,0<=e.block∧e.block.toNat<f.blocks.length)(BQ:BZ f.blocks.length ds) :
  bh Tryz.prog 59 [.ip none [aI f.name,aw f.blocks,.im (.int .i64) (ds.map eR)]] (aI (qS f ds)):=by
 have SM:=sH f h0 h1 he;obtain⟨d1,d2,d3⟩:=LP f h0 h1 he;obtain⟨R,hR⟩:∃R,R=qS f ds:=⟨_,rfl⟩
 rw[<-hR];unfold qS at hR;generalize kv f=D at *;obtain⟨over,seen⟩:=D;simp only at SM d1 d2 d3 hR;have I7:=eX 6 ds;have Mm:=eX 3 ds;have Zi:=eX 0 ds;have Ox:∀(k:Nat) (at_:Int) (v:Int),k<f.blocks.length->ba Tryz.prog 89 [.gone,.gone,.gone,.gone,.gone,.cells [aI at_]] (aI v::Ii f ds over seen k 5) (fun r O'=>r=.v (.bool (iI ds over seen k at_ v))∧O'=[.gone,.gone,.gone,.gone,.gone,.cells [aI at_]]):=fun k at_ v hk=>by
  refine Gl (O:=[.gone,.gone,.gone,.gone,.gone,.cells [aI at_]]) ?_ rfl (by omega) (by omega) d2 d3 (by rw[d1];exact BQ) v;simp[al.upto,au,ae.upto]
 refine zf true 0 Tryz.func59 Tryz.ntmps59 ?_;dsimp only[Tmp,TypeId,slotsOf];refine aS ?_;simp -dsimp only[simprocAttr,↓aa,zp,Bs.aj,Bs.ar,Bs.ak,ax];refine ah ?_;refine aA 1 0 (.ip none [.ip none [aI f.name,aw f.blocks,.im (.int .i64) (ds.map eR)]]) rfl (by simp[al.aC]) trivial rfl ?_ ?_;rotate_left;simp -dsimp only[simprocAttr,↓aa,zp,Bs.aj,Bs.ar,Bs.ak,ax]
 ·refine aS ?_;simp -dsimp only[simprocAttr,↓aa,zp,Bs.aj,Bs.ar,Bs.ak,ax];refine .inl ⟨_,SM,by simp only[au,ae.upto,zt,zu,av,Bs.aL,Bs.ak],an ?_⟩;simp -dsimp only[simprocAttr,↓aa,zp,Bs.aj,Bs.ar,Bs.ak,ax];refine ah ?_;refine aA 3 1 (.ip none [.aB 2 (over.map Bs.enc) .sh]) rfl (by simp[al.aC]) trivial rfl ?_ ?_;rotate_left;simp -dsimp only[simprocAttr,↓aa,zp,Bs.aj,Bs.ar,Bs.ak,ax]
  ·refine aA 4 2 (.ip none [.v (.int .u64 seen.a),.v (.int .u64 seen.b)]) rfl (by simp[al.aC]) trivial rfl ?_ ?_;rotate_left;simp -dsimp only[simprocAttr,↓aa,zp,Bs.aj,Bs.ar,Bs.ak,ax]
   ·refine cJ ?_;simp -dsimp only[simprocAttr,↓aa,zp,Bs.aj,Bs.ar,Bs.ak,ax];refine ah ?_;refine ai (aO (ι:={k:Nat // k<=f.blocks.length∧R=if gH ds over seen k (f.blocks.drop k)then 0 else 6}) (fun k=>⟨64,[(1,.ip none [.ip none [aI f.name,aw f.blocks,.im (.int .i64) (ds.map eR)]]),(2,aI 0),(3,.ip none [.aB 2 (over.map Bs.enc) .sh]),(4,.ip none [.v (.int .u64 seen.a),.v (.int .u64 seen.b)]),(25,aw f.blocks),(26,aI f.blocks.length),(27,aI k.1)],[.gone,.gone,.gone]⟩) (fun k=>f.blocks.length-k.1) ⟨0,by omega,hR⟩ ?_ ?_)
    ·refine zq rfl ?_ ?_;simp -dsimp only[simprocAttr,↓aa,zp,Bs.aj,Bs.ar,Bs.ak,ax,zc];rfl
    rintro⟨k,hk,dW⟩;refine aS ?_;simp -dsimp only[simprocAttr,↓aa,zp,Bs.aj,Bs.ar,Bs.ak,ax];refine ah ?_;apply ib rfl<;>intro h
    ·refine cm ?_;have aZ:k<f.blocks.length:=by simpa using h
     obtain⟨b,hb⟩:∃b,f.blocks[k]?=some b:=⟨f.blocks[k],by simp[aZ]⟩
     rw[bQ hb]at dW;simp only[gH,kF]at dW;refine aH (ai ?_);refine aS ?_;simp -dsimp only[simprocAttr,↓aa,zp,Bs.aj,Bs.ar,Bs.ak,ax,hb];refine ah ?_;refine aA 5 3 (.ip none [aI k]) rfl (by simp[al.aC]) trivial rfl ?_ ?_;rotate_left;simp -dsimp only[simprocAttr,↓aa,zp,Bs.aj,Bs.ar,Bs.ak,ax]
     ·refine aA 6 4 (.ip none [aT b.params,bP b.ins,aI b.term.kind,aI b.term.arg,aI b.term.n,aT b.term.cases,aE b.term.to]) rfl (by simp[al.aC]) trivial rfl ?_ ?_;rotate_left;simp -dsimp only[simprocAttr,↓aa,zp,Bs.aj,Bs.ar,Bs.ak,ax]
      ·refine aS ?_;simp -dsimp only[simprocAttr,↓aa,zp,Bs.aj,Bs.ar,Bs.ak,ax];refine ah ?_;refine aS ?_;simp -dsimp only[simprocAttr,↓aa,zp,Bs.aj,Bs.ar,Bs.ak,ax];refine ah ?_;refine cJ ?_;simp -dsimp only[simprocAttr,↓aa,zp,Bs.aj,Bs.ar,Bs.ak,ax];refine ah ?_;refine fp 34 rfl (fun PT=>?_);simp only[List.length_map]at PT;refine ai (aO (ι:={x:Nat×Int // x.1<=b.ins.length∧R=if(jc ds over seen k x.1 (b.ins.drop x.1)&&nA b.term (iI ds over seen k b.ins.length))&&gH ds over seen (k+1) (f.blocks.drop (k+1))then 0 else 6}) (fun x=>⟨64,[(1,.ip none [.ip none [aI f.name,aw f.blocks,.im (.int .i64) (ds.map eR)]]),(2,aI 0),(3,.ip none [.aB 2 (over.map Bs.enc) .sh]),(4,.ip none [.v (.int .u64 seen.a),.v (.int .u64 seen.b)]),(25,aw f.blocks),(26,aI f.blocks.length),(27,aI k),(6,.ip none [aT b.params,bP b.ins,aI b.term.kind,aI b.term.arg,aI b.term.n,aT b.term.cases,aE b.term.to]),(7,.mp 5 0),(8,.fn (.func 89) [] [.ip none [.ip none [aI f.name,aw f.blocks,.im (.int .i64) (ds.map eR)]],.ip none [aI k],.mp 5 0,.ip none [.aB 2 (over.map Bs.enc) .sh],.ip none [.v (.int .u64 seen.a),.v (.int .u64 seen.b)]]),(34,bP b.ins),(35,aI b.ins.length),(36,aI x.1.1)],[.gone,.gone,.gone,.gone,.gone,.cells [aI x.1.2]]⟩) (fun x=>b.ins.length-x.1.1) ⟨(0,0),by simp,dW⟩ ?_ ?_)
       ·refine zq rfl ?_ ?_;simp -dsimp only[simprocAttr,↓aa,zp,Bs.aj,Bs.ar,Bs.ak,ax,zc];rfl
       rintro⟨⟨j,z⟩,hj,jX⟩;simp only at hj jX;refine aS ?_;simp -dsimp only[simprocAttr,↓aa,zp,Bs.aj,Bs.ar,Bs.ak,ax];refine ah ?_;apply ib rfl<;>intro h
       ·refine cm ?_;have AF:j<b.ins.length:=by simpa using h
        obtain⟨i,hi⟩:∃i,b.ins[j]?=some i:=⟨b.ins[j],by simp[AF]⟩
        rw[bQ hi]at jX;simp only[jc]at jX;refine aH (ai ?_);refine aS ?_;simp -dsimp only[simprocAttr,↓aa,zp,Bs.aj,Bs.ar,Bs.ak,ax,hi];refine ah ?_;refine aA 10 6 (.ip none [aI i.to,aI i.op,aI i.n,aT i.args]) rfl (by simp[al.aC]) trivial rfl ?_ ?_;rotate_left;simp -dsimp only[simprocAttr,↓aa,zp,Bs.aj,Bs.ar,Bs.ak,ax]
        ·refine bF 6 [(1,.ip none [.ip none [aI f.name,aw f.blocks,.im (.int .i64) (ds.map eR)]]),(2,aI 0),(3,.ip none [.aB 2 (over.map Bs.enc) .sh]),(4,.ip none [.v (.int .u64 seen.a),.v (.int .u64 seen.b)]),(25,aw f.blocks),(26,aI f.blocks.length),(27,aI k),(6,.ip none [aT b.params,bP b.ins,aI b.term.kind,aI b.term.arg,aI b.term.n,aT b.term.cases,aE b.term.to]),(7,.mp 5 0),(8,.fn (.func 89) [] [.ip none [.ip none [aI f.name,aw f.blocks,.im (.int .i64) (ds.map eR)]],.ip none [aI k],.mp 5 0,.ip none [.aB 2 (over.map Bs.enc) .sh],.ip none [.v (.int .u64 seen.a),.v (.int .u64 seen.b)]]),(34,bP b.ins),(35,aI b.ins.length),(36,aI j),(9,aI j),(10,.ip none [aI i.to,aI i.op,aI i.n,aT i.args])] (by simp) (by omega) [.gone,.gone,.gone,.gone,.gone,.cells [aI z]] ?_ ?_ ?_ ?_ ?_
         ·rfl
         ·simp[al.upto,au,ae.upto,av,Block.ag,Edge.ag,Ins.ag,gy,I7,Mm]
         ·simp[fL,St.get,bq,aY,Go.Av.look,Sub.refl]
         ·simp[al.upto,au,ae.upto,av,Block.ag,Edge.ag,Ins.ag,gy,I7,Mm]
         refine aS ?_;simp -dsimp only[simprocAttr,↓aa,zp,Bs.aj,Bs.ar,Bs.ak,ax];refine ah ?_;refine aS ?_;simp -dsimp only[simprocAttr,↓aa,zp,Bs.aj,Bs.ar,Bs.ak,ax];refine ah ?_;refine fp 43 rfl (fun jK=>?_);simp only[List.length_map]at jK;refine ai (aO (ι:={y:Nat // y<=i.args.length∧R=if(((i.args.drop y).all (iI ds over seen k j)&&jc ds over seen k (j+1) (b.ins.drop (j+1)))&&nA b.term (iI ds over seen k b.ins.length))&&gH ds over seen (k+1) (f.blocks.drop (k+1))then 0 else 6}) (fun y=>⟨64,[(1,.ip none [.ip none [aI f.name,aw f.blocks,.im (.int .i64) (ds.map eR)]]),(2,aI 0),(3,.ip none [.aB 2 (over.map Bs.enc) .sh]),(4,.ip none [.v (.int .u64 seen.a),.v (.int .u64 seen.b)]),(25,aw f.blocks),(26,aI f.blocks.length),(27,aI k),(6,.ip none [aT b.params,bP b.ins,aI b.term.kind,aI b.term.arg,aI b.term.n,aT b.term.cases,aE b.term.to]),(7,.mp 5 0),(8,.fn (.func 89) [] [.ip none [.ip none [aI f.name,aw f.blocks,.im (.int .i64) (ds.map eR)]],.ip none [aI k],.mp 5 0,.ip none [.aB 2 (over.map Bs.enc) .sh],.ip none [.v (.int .u64 seen.a),.v (.int .u64 seen.b)]]),(34,bP b.ins),(35,aI b.ins.length),(36,aI j),(43,aT i.args),(44,aI i.args.length),(45,aI y.1)],[.gone,.gone,.gone,.gone,.gone,.cells [aI j]]⟩) (fun y=>i.args.length-y.1) ⟨0,by omega,jX⟩ ?_ ?_)
         ·refine zq rfl ?_ ?_;simp -dsimp only[simprocAttr,↓aa,zp,Bs.aj,Bs.ar,Bs.ak,ax,zc];rfl
         rintro⟨y,hy,MD⟩;refine aS ?_;simp -dsimp only[simprocAttr,↓aa,zp,Bs.aj,Bs.ar,Bs.ak,ax];refine ah ?_;apply ib rfl<;>intro h
         ·refine cm ?_;have XP:y<i.args.length:=by simpa using h
          obtain⟨v,hv⟩:∃v,i.args[y]?=some v:=⟨i.args[y],by simp[XP]⟩
          rw[tt hv]at MD;have Zp:=Ox k j v aZ;refine aH (ai ?_);refine aS ?_;simp -dsimp only[simprocAttr,↓aa,zp,Bs.aj,Bs.ar,Bs.ak,ax,hv];refine ah ?_;refine aS ?_;simp -dsimp only[simprocAttr,↓aa,zp,Bs.aj,Bs.ar,Bs.ak,ax];refine .inr (.inr ⟨_,Zp,an ?_⟩);simp -dsimp only[simprocAttr,↓aa,zp,Bs.aj,Bs.ar,Bs.ak,ax];refine ah ?_;cases EH:iI ds over seen k j v with
          | true =>
           rw[EH,Bool.true_and]at MD;refine cd rfl ?_;refine kA ?_;refine j4 ?_;simp -dsimp only[simprocAttr,↓aa,zp,Bs.aj,Bs.ar,Bs.ak,ax]
           repeat(refine⟨by omega,?_⟩)
           refine fw ?_;refine⟨⟨y+1,XP,MD⟩,by simp;omega,?_⟩;refine zq rfl ?_ ?_;simp -dsimp only[simprocAttr,↓aa,zp,Bs.aj,Bs.ar,Bs.ak,ax,zc]
           ·exact Sub.int (by simp)
           rfl
          | false =>
           rw[EH]at MD;refine cN rfl ?_;refine aS ?_;simp -dsimp only[simprocAttr,↓aa,zp,Bs.aj,Bs.ar,Bs.ak,ax];refine ah ?_;refine aq ?_;simp -dsimp only[simprocAttr,↓aa,zp,Bs.aj,Bs.ar,Bs.ak,ax,zr,Tryz.results59];rw[MD];simp
         refine aG ?_;simp -dsimp only[bD,ne_eq,Nat.reduceEqDiff,reduceCtorEq];have WE:y=i.args.length:=by simp at h;omega
         subst WE;rw[List.drop_length]at MD;refine j4 ?_;simp -dsimp only[simprocAttr,↓aa,zp,Bs.aj,Bs.ar,Bs.ak,ax]
         repeat(refine⟨by omega,?_⟩)
         refine fw ?_;refine⟨⟨(j+1,j),AF,by simpa using MD⟩,by simp;omega,?_⟩;refine zq rfl ?_ ?_;simp -dsimp only[simprocAttr,↓aa,zp,Bs.aj,Bs.ar,Bs.ak,ax,zc]
         ·exact Sub.int (by simp)
         rfl
        exact bT.mp rfl rfl
       refine aG ?_;simp -dsimp only[bD,ne_eq,Nat.reduceEqDiff,reduceCtorEq];have ru:j=b.ins.length:=by simp at h;omega
       subst ru;rw[List.drop_length]at jX;simp only[jc,Bool.true_and]at jX;have UQ:=HH (O:=[.gone,.gone,.gone,.gone,.gone,.cells [aI b.ins.length]]) (by simp[al.upto,au,ae.upto]) 89 (Ii f ds over seen k 5) (by simp[al.upto,au,ae.upto,av,Block.ag,gy,I7]) (iI ds over seen k b.ins.length) (fun v=>Ox k b.ins.length v aZ) b.term;refine aS ?_;simp -dsimp only[simprocAttr,↓aa,zp,Bs.aj,Bs.ar,Bs.ak,ax];refine ah ?_;refine aS ?_;simp -dsimp only[simprocAttr,↓aa,zp,Bs.aj,Bs.ar,Bs.ak,ax];refine .inr (.inr ⟨_,UQ,an ?_⟩);simp -dsimp only[simprocAttr,↓aa,zp,Bs.aj,Bs.ar,Bs.ak,ax];refine ah ?_;cases EH:nA b.term (iI ds over seen k b.ins.length)with
       | true =>
        rw[EH,Bool.true_and]at jX;refine cd rfl ?_;refine kA ?_;refine bF 3 [(1,.ip none [.ip none [aI f.name,aw f.blocks,.im (.int .i64) (ds.map eR)]]),(2,aI 0),(3,.ip none [.aB 2 (over.map Bs.enc) .sh]),(4,.ip none [.v (.int .u64 seen.a),.v (.int .u64 seen.b)]),(25,aw f.blocks),(26,aI f.blocks.length),(27,aI k)] (by simp) (by omega) [.gone,.gone,.gone] ?_ ?_ ?_ ?_ ?_
        ·rfl
        ·simp[al.upto,au,ae.upto,av,Block.ag,Edge.ag,Ins.ag,gy,I7,Mm]
        ·simp[fL,St.get,bq,aY,Go.Av.look,Sub.refl]
        ·simp[al.upto,au,ae.upto,av,Block.ag,Edge.ag,Ins.ag,gy,I7,Mm]
        refine j4 ?_;simp -dsimp only[simprocAttr,↓aa,zp,Bs.aj,Bs.ar,Bs.ak,ax]
        repeat(refine⟨by omega,?_⟩)
        refine fw ?_;refine⟨⟨k+1,aZ,jX⟩,by simp;omega,?_⟩;refine zq rfl ?_ ?_;simp -dsimp only[simprocAttr,↓aa,zp,Bs.aj,Bs.ar,Bs.ak,ax,zc]
        ·exact Sub.int (by simp)
        rfl
       | false =>
        rw[EH]at jX;refine cN rfl ?_;refine aS ?_;simp -dsimp only[simprocAttr,↓aa,zp,Bs.aj,Bs.ar,Bs.ak,ax];refine ah ?_;refine aq ?_;simp -dsimp only[simprocAttr,↓aa,zp,Bs.aj,Bs.ar,Bs.ak,ax,zr,Tryz.results59];rw[jX];simp
      exact bT.mp rfl rfl
     exact bT.mp rfl rfl
    refine aG ?_;simp -dsimp only[bD,ne_eq,Nat.reduceEqDiff,reduceCtorEq];have gU:k=f.blocks.length:=by simp at h;omega
    subst gU;rw[List.drop_length]at dW;refine aS ?_;simp -dsimp only[simprocAttr,↓aa,zp,Bs.aj,Bs.ar,Bs.ak,ax];refine ah ?_;refine aq ?_;simp -dsimp only[simprocAttr,↓aa,zp,Bs.aj,Bs.ar,Bs.ak,ax,zr,Tryz.results59];simp[dW,gH]
   exact bT.mp rfl rfl
  exact bT.mp rfl rfl
 exact bT.mp rfl rfl
end Go.Proofs.YtjdnhamngpafmaaGreat
namespace Go.Av
theorem ji{P:Program}{ops all:Array Oper}{k:Nat}(hk:∀i o,ops[i]?=some o->all[k+i]?=some o)(hg:∀o∈all.toList,o.guard=none):∀{l:List (Nat×Kind)} {σ τ:St},fj P ops l σ τ->fj P all (l.map fun p=>(k+p.1,p.2)) σ τ
 | [],_,_,h=>h
 | (i,q)::r,_,_,h=>by
  obtain⟨fF,⟨o,ho,h1⟩,h2⟩:=h;refine⟨fF,⟨o,hk i o ho,?_⟩,ji hk hg h2⟩;have iC:=hk i o ho;have y9:o.guard=none:=hg o (by
   rw[<-Array.getElem?_toList]at iC;exact List.mem_of_getElem? iC)
  have w1:∀(a:Array Oper) (σ:St),cQ a o σ=some true:=fun a σ=>by simp[cQ,y9]
  rcases h1 with⟨_,h1⟩|⟨h1,_⟩
  ·exact .inl ⟨w1 _ _,h1⟩
  rw[w1]at h1;cases h1
def H0(P:Program)(aR:ed)(md:Md)(o:Oper)(l2:List Oper)(Q:dP->St->Prop)(τ:St):Prop:=∃x m,Cert P o τ x m∧ff P aR md l2 0 [] ⟨τ.n,oD o.dst x τ.bf,m.post τ.objs⟩ [] fun ρ _=>At ρ (Q .norm)
theorem oX{P:Program}{kb:Nat}{aR:ed}(md:Md)(hT:bY P aR){id:Nat}{l l1 l2:List Oper}{o:Oper}{Q:dP->St->Prop}{σ:St}(k:Nat)(h1:l.take k=l1)(h2:l[k]?=some o)(h3:l.drop (k+1)=l2)(hg:∀o∈l,o.guard=none)
  (h:ff P aR md l1 0 [] σ [] fun τ _=>H0 P aR md o l2 Q τ):cu P kb (.region id l.toArray false) Q σ:=by
 have aZ:=I h2;obtain⟨τ,wZ,c1,n1,x,m,hc,h⟩:=dO (all:=l1.toArray) hT l1 0 [] σ [] (fun j=>by simp) (fun j t hj=>by simp[iA]at hj) h;obtain⟨ρ,OZ,c2,n2,hQ⟩:=dO (all:=l2.toArray) hT l2 0 [] _ [] (fun j=>by simp) (fun j t hj=>by simp[iA]at hj) h;intro base a g hb hr;have y9:o.guard=none:=hg o (List.mem_of_getElem? h2);have WM:l1.length=k:=by rw[<-h1,List.length_take];omega
 have Yi:l2.length=l.length-(k+1):=by rw[<-h3,List.length_drop]
 have d1:=ji (all:=l.toArray) (k:=0) (fun i o' hi=>by
  have gI:l1[i]?=some o':=by simpa using hi
  have:=I gI;rw[<-h1,List.getElem?_take]at gI;split at gI
  ·simpa using gI
  cases gI) (by simpa using hg) c1
 have d2:=ji (all:=l.toArray) (k:=k+1) (fun i o' hi=>by
  have gI:l2[i]?=some o':=by simpa using hi
  rw[<-h3,List.getElem?_drop]at gI;simpa using gI) (by simpa using hg) c2
 have dm:fj P l.toArray [(k,m.kind)] τ ⟨τ.n,oD o.dst x τ.bf,m.post τ.objs⟩:=⟨_,⟨o,by simpa using h2,.inl ⟨by simp[cQ,y9],x,m,hc,rfl,rfl⟩⟩,pQ.refl _⟩
 have oI:=lT d1 (lT dm d2);obtain⟨ks,XM⟩:∃ks,ks=wZ++m.kind::OZ:=⟨_,rfl⟩
 have e:(List.range l.toArray.size).map (fun i=>(i,ks.getD i .write))=(List.map (fun p=>(0+p.1,p.2)) (List.map (fun p=>(p.2,p.1)) (wZ.zipIdx 0))++([(k,m.kind)]++List.map (fun p=>(k+1+p.1,p.2)) (List.map (fun p=>(p.2,p.1)) (OZ.zipIdx 0)))):=by
  have di:l.toArray.size=ks.length:=by
   rw[XM];simp only[List.size_toArray,List.length_append,List.length_cons];omega
  rw[di];apply List.ext_getElem?;intro i;rw[XM];simp only[List.getElem?_map];by_cases q1:i<wZ.length
  ·rw[List.getElem?_append_left (by simpa using q1),List.getElem?_range (by simp;omega)];simp[q1,List.getElem?_append_left]
  rw[List.getElem?_append_right (by simp;omega)];simp only[List.length_map,List.length_zipIdx];by_cases q2:i=wZ.length
  ·subst q2;rw[List.getElem?_range (by simp)];simp[n1,WM]
  rw[List.getElem?_append_right (by simp;omega)];obtain⟨j,hj⟩:∃j,i=wZ.length+1+j:=⟨i-wZ.length-1,by omega⟩
  subst hj;simp only[List.length_cons,List.length_nil,show wZ.length+1+j-wZ.length-(0+1)=j by omega,List.getElem?_map,List.getElem?_zipIdx];by_cases q3:j<OZ.length
  ·rw[List.getElem?_range (by simp;omega)];simp only[Option.map_some,List.getElem?_eq_getElem q3,Option.some.injEq,Prod.mk.injEq];refine⟨by omega,?_⟩;rw[List.getD_eq_getElem?_getD,List.getElem?_append_right (by omega),show wZ.length+1+j-wZ.length=j+1 by omega,List.getElem?_cons_succ,List.getElem?_eq_getElem q3];rfl
  rw[List.getElem?_eq_none (l:=List.range _) (by simp;omega),List.getElem?_eq_none (l:=OZ) (by omega)];rfl
 rw[<-e]at oI;exact k9 oI hr fun a g wU=>⟨g,ρ,rfl,wU,hQ⟩
theorem xR{P:Program}{o:Oper}{σ:St}{t t':TypeId}{x y:Operand}{k:IntKind}{m n:Int}
  (ho:o.op=.binOp .add t x y t') (hd:∀d,o.dst=some d->d<σ.n) (hx:σ.ev x=some (.v (.int k m))) (hy:σ.ev y=some (.v (.int k n))) :
  Cert P o σ (.v (.int k (k.wrap (m+n)))) .pure :=
 Cert.bK .pure (.inl rfl) hd fun a g _ h _=>by
  have ex:=(h x (by simp[ho,Op.operands]) _ hx).bV.1;have ey:=(h y (by simp[ho,Op.operands]) _ hy).bV.1;have hg:=cD (P:=P) .add t x y (.int k m) (.int k n) g.w (by simp) (by simp);refine⟨.int k (k.wrap (m+n)),?_,.v (wrap_within k _)⟩;have hb:(binOp .add t (.int k m) (.int k n)).run P g.w=.ok (.int k (k.wrap (m+n))) g.w:=by
   simp[binOp,Op.intArith]
  simp[execOp,ho,ex,ey,hg,hb]
theorem G2{P:Program}{aR:ed}{md:Md}{o:Oper}{l2:List Oper}{Q:dP->St->Prop}{τ:St}{t t':TypeId}{x y:Operand}{k:IntKind}{m n:Int}{d:Nat}
  (ho:o.op=.binOp .add t x y t') (jm:o.dst=some d) (hd:d<τ.n) (hx:τ.ev x=some (.v (.int k m))) (hy:τ.ev y=some (.v (.int k n)))
  (h:ff P aR md l2 0 [] ⟨τ.n,oD o.dst (.v (.int k (k.wrap (m+n)))) τ.bf,τ.objs⟩ [] fun ρ _=>At ρ (Q .norm)):H0 P aR md o l2 Q τ :=
 ⟨_,.pure,xR ho (fun d' e=>by rw[jm]at e;cases e;exact hd) hx hy,h⟩
end Go.Av
namespace Go.Proofs.YtjdnhamngpafmaaGreat
open Go.Av
theorem Dr(ds:Defs)(k v:Int)(p:Int×Int):fk (ds++[(k,p)]) v=match fk ds v with|some q=>some q|none=>if k=v then some p else none:=by
 induction ds with
 | nil=>rfl
 | cons e r ih =>
  obtain⟨a,q⟩:=e;simp only[List.cons_append,fk];split
  ·rfl
  exact ih
structure mO(n:Nat)(ds:Defs):Prop where
 ok:BZ n ds
 nodup:(ds.map (·.1)).Nodup
 range:∀e∈ds,0<=e.1∧e.1<=4095
theorem Dq{ds:Defs}{v:Int}(h:fk ds v=none):∀e∈ds,e.1≠v:=by
 induction ds with
 | nil=>simp
 | cons e r ih =>
  obtain⟨a,q⟩:=e;simp only[fk]at h;split at h
  ·cases h
  rename_i bI;intro e he;rcases List.mem_cons.1 he with q|q
  ·subst q;exact bI
  exact ih h e q
theorem nj:∀(n:Nat) (l:List Nat),l.Nodup->(∀x∈l,x<n)->l.length<=n
 | 0,l,_,h=>by
  cases l with
  | nil=>simp
  | cons a r=>exact absurd (h a (by simp)) (by omega)
 | n+1,l,hn,h=>by
  by_cases hm:n∈l
  ·have:=nj n (l.erase n) (hn.erase n) (fun x hx=>by
    have h1:=(List.Nodup.mem_erase_iff hn).1 hx;have h2:=h x h1.2;have h3:=h1.1;omega)
   rw[List.length_erase_of_mem hm]at this;omega
  have:=nj n l hn (fun x hx=>by
   have h2:=h x hx;have:x≠n:=fun e=>hm (e ▸ hx);omega)
  omega
theorem mO.few{n:Nat}{ds:Defs}(h:mO n ds):ds.length<=4096:=by
 have h1:(ds.map fun e=>e.1.toNat).Nodup:=by
  have h0:=h.nodup;have hr:=h.range;clear h;induction ds with
  | nil=>simp
  | cons e r ih =>
   simp only[List.map_cons,List.nodup_cons,List.mem_map,not_exists,not_and]at h0 ⊢;refine⟨fun x hx q=>h0.1 x hx ?_,ih h0.2 (fun e he=>hr e (by simp[he]))⟩;have a:=hr e (by simp);have b:=hr x (by simp[hx]);omega
 have:=nj 4096 _ h1 (fun x hx=>by
  obtain⟨e,he,rfl⟩:=List.mem_map.1 hx;have:=h.range e he;omega)
 simpa using this
theorem tU{n:Nat}{ds:Defs}(h:mO n ds)(v:Int){p:Int×Int}(h0:0<=p.1)(h1:p.1.toNat<n):mO n (cZ ds v p).2∧((cZ ds v p).1=0->(cZ ds v p).2.length=ds.length+1):=by
 unfold cZ;split
 ·exact⟨h,fun q=>by simp at q⟩
 rename_i hw;split
 ·exact⟨h,fun q=>by simp at q⟩
 rename_i hl;have UJ:fk ds v=none:=by simpa using hl
 have yk:0<=v∧v<=4095:=by simpa[within]using hw
 refine⟨⟨fun w q hq=>?_,?_,fun e he=>?_⟩,fun _=>by simp⟩
 ·rw[Dr]at hq;cases hd:fk ds w with
  | some q' =>
   rw[hd]at hq;simp only[Option.some.injEq]at hq;exact hq ▸ h.ok w q' hd
  | none =>
   rw[hd]at hq;simp only at hq;split at hq
   ·simp only[Option.some.injEq]at hq;exact hq ▸ ⟨h0,h1⟩
   cases hq
 ·rw[List.map_append,List.map_cons,List.map_nil,List.nodup_append];refine⟨h.nodup,by simp,fun a ha b hb=>?_⟩;obtain⟨e,he,rfl⟩:=List.mem_map.1 ha;simp only[List.mem_singleton]at hb;subst hb;exact Dq UJ e he
 rcases List.mem_append.1 he with q|q
 ·exact h.range e q
 simp only[List.mem_singleton]at q;subst q;exact yk
theorem uL{n:Nat}{k:Int}(h0:0<=k)(h1:k.toNat<n):∀(l:List Int) (ds:Defs),mO n ds->mO n (dr k ds l).2∧((dr k ds l).1=0->(dr k ds l).2.length=ds.length+l.length)
 | [],ds,h=>⟨h,fun _=>by simp[dr]⟩
 | p::r,ds,h=>by
  have hd:=tU h p (p:=(k,0)) h0 h1;simp only[dr];split
  ·rename_i bI;exact⟨hd.1,fun q=>absurd q bI⟩
  rename_i he;have ih:=uL h0 h1 r _ hd.1;refine⟨ih.1,fun q=>?_⟩;rw[ih.2 q,hd.2 (by simpa using he)];simp only[List.length_cons];omega
theorem E5{n:Nat}{k:Int}(h0:0<=k)(h1:k.toNat<n):∀(l:List Ins) (j:Int) (ds:Defs),mO n ds->mO n (l7 k j ds l).2∧((l7 k j ds l).1=0->(l7 k j ds l).2.length=ds.length+l.length∧∀i∈l,kL i=0)
 | [],j,ds,h=>⟨h,fun _=>by simp[l7]⟩
 | i::r,j,ds,h=>by
  have hd:=tU h i.to (p:=(k,j+1)) h0 h1;simp only[l7];split
  ·rename_i bI;exact⟨hd.1,fun q=>absurd q bI⟩
  rename_i he;split
  ·rename_i hf;exact⟨hd.1,fun q=>absurd q hf⟩
  rename_i hf;have ih:=E5 h0 h1 r (j+1) _ hd.1;refine⟨ih.1,fun q=>?_⟩;obtain⟨a,b⟩:=ih.2 q;refine⟨?_,fun x hx=>?_⟩
  ·rw[a,hd.2 (by simpa using he)];simp only[List.length_cons];omega
  rcases List.mem_cons.1 hx with e|e
  ·subst e;simpa using hf
  exact b x e
structure Lr(f:Func)(b:Block):Prop where
 Ai:∀i∈b.ins,kL i=0
 fin:oy f b.term=0
 few:b.params.length+b.ins.length<=4096
theorem FZ{f:Func}{ds:Defs}{k:Int}(h:mO f.blocks.length ds)(h0:0<=k)(h1:k.toNat<f.blocks.length):mO f.blocks.length (fq f ds k).2∧((fq f ds k).1=0->Lr f (aF f k)):=by
 have hp:=uL h0 h1 (aF f k).params ds h;have hi:=E5 h0 h1 (aF f k).ins 0 _ hp.1;unfold fq;split
 ·rename_i bI;exact⟨hp.1,fun q=>absurd q bI⟩
 rename_i Lg;split
 ·rename_i bI;exact⟨hi.1,fun q=>absurd q bI⟩
 rename_i Zv;refine⟨hi.1,fun q=>?_⟩;have a:=hp.2 (by simpa using Lg);have b:=hi.2 (by simpa using Zv);have c:=hi.1.few;exact⟨b.2,q,by rw[b.1,a]at c;omega⟩
theorem jS{f:Func}{t:Term}(h:oy f t=0):ec t=true∧t.cases.length<=256∧(t.kind=4->1<=t.n∧t.n<=6)∧∀e∈t.to,(1<=e.block∧e.block<=(f.blocks.length:Int)-1)∧e.args.length=(aF f e.block).params.length:=by
 unfold oy at h;split at h
 ·simp at h
 rename_i hs;split at h
 ·simp at h
 rename_i hc;split at h
 ·simp at h
 rename_i hk;split at h
 ·rename_i bI;exact absurd h bI
 refine⟨by simpa using hs,by omega,fun k4=>?_,?_⟩
 ·by_cases hw:within t.n 1 6=false
  ·exact absurd ⟨k4,hw⟩ hk
  simpa[within]using hw
 generalize t.to=l at h;induction l with
 | nil=>simp
 | cons e r ih =>
  simp only[mU]at h;split at h
  ·simp at h
  rename_i h1;split at h
  ·simp at h
  rename_i h2;intro x hx;rcases List.mem_cons.1 hx with q|q
  ·subst q;exact⟨by simpa[within]using h1,by simpa using h2⟩
  exact ih h x q
def pI:Int->List Block->Int
 | m,[]=>m
 | m,b::r=>pI (IntKind.i64.wrap (m+b.ins.length)) r
def cO(f:Func):Nat->Int->Defs->Int×Defs
 | 0,_,ds=>(0,ds)
 | n+1,k,ds=>if(fq f ds k).1≠0 then fq f ds k else cO f n (k+1) (fq f ds k).2
def aN(f:Func):Int :=
 if f.blocks.length=0 then 3
 else if 128<f.blocks.length∨1024<pI 0 f.blocks∨6<(aF f 0).params.length then 2
 else if within f.name (-1) 1048575=false then 4
 else if(cO f f.blocks.length 0 []).1≠0 then(cO f f.blocks.length 0 []).1
 else qS f (cO f f.blocks.length 0 []).2
theorem lQ{f:Func}:∀(n:Nat) (k:Int) (ds:Defs),mO f.blocks.length ds->0<=k->k.toNat+n<=f.blocks.length->(cO f n k ds).1=0->mO f.blocks.length (cO f n k ds).2∧∀j:Nat,j<n->Lr f (aF f (k+j))
 | 0,k,ds,h,_,_,_=>⟨h,fun j hj=>absurd hj (by omega)⟩
 | n+1,k,ds,h,h0,h1,he=>by
  have hb:=FZ (k:=k) h h0 (by omega);simp only[cO]at he ⊢;split at he
  ·rename_i bI;exact absurd he bI
  rename_i bI;rw[if_neg bI];have ih:=lQ n (k+1) _ hb.1 (by omega) (by omega) he;refine⟨ih.1,fun j hj=>?_⟩;cases j with
  | zero=>simpa using hb.2 (by simpa using bI)
  | succ j =>
   have:=ih.2 j (by omega)
   rwa [show k+((j+1:Nat):Int)=k+1+(j:Int) by omega]
theorem mO.nil(n:Nat):mO n []:=⟨fun v p h=>(by cases h),by simp,by simp⟩
theorem G1{f:Func}{b:Block}(h:b∈f.blocks):∃j:Nat,j<f.blocks.length∧b=aF f (j:Int):=by
 obtain⟨j,hj,rfl⟩:=List.getElem_of_mem h;exact⟨j,hj,by simp[aF,hj]⟩
theorem rX{f:Func}(he:(cO f f.blocks.length 0 []).1=0):∀b∈f.blocks,Lr f b:=fun b hb=>by
 obtain⟨j,hj,rfl⟩:=G1 hb;have:=(lQ f.blocks.length 0 [] (.nil _) (by omega) (by simp) he).2 j hj;simpa using this
theorem il(f:Func)(bt:f.fit):bh Tryz.prog 31 [f.enc] (aI (aN f)):=by
 have hw:=dy f.name (-1) 1048575;have C7:f.blocks.length<=2 ^ 47:=bt.2.1;obtain⟨R,hR⟩:∃R,R=aN f:=⟨_,rfl⟩
 rw[<-hR];unfold aN at hR;refine zf true 0 Tryz.func31 Tryz.ntmps31 ?_;dsimp only[Tmp,TypeId,slotsOf];refine ay (ah ?_);refine aA 1 0 (.ip none [aI f.name,aw f.blocks]) rfl (by simp[al.aC]) trivial rfl ?_ ?_;rotate_left;simp -dsimp only[simprocAttr,↓aa,zp]
 ·refine ay (ah ?_);refine cb (ah ?_);refine ai (aO (ι:={x:Nat×Int // x.1<=f.blocks.length∧pI 0 f.blocks=pI x.2 (f.blocks.drop x.1)}) (fun x=>⟨69,[(1,.ip none [aI f.name,aw f.blocks]),(2,aI 0),(3,aI x.1.2),(10,aw f.blocks),(11,aI f.blocks.length),(12,aI x.1.1)],[.gone]⟩) (fun x=>f.blocks.length-x.1.1) ⟨(0,0),by simp,rfl⟩ ?_ ?_)
  ·refine zq rfl ?_ ?_;simp -dsimp only[simprocAttr,↓aa,zp,zc];rfl
  rintro⟨⟨k,m⟩,hk,dW⟩;simp only at hk dW;refine ay (ah ?_);apply ib rfl<;>intro h
  ·refine cm ?_;have aZ:k<f.blocks.length:=by simpa using h
   obtain⟨b,hb⟩:∃b,f.blocks[k]?=some b:=⟨f.blocks[k],by simp[aZ]⟩
   rw[bQ hb]at dW;simp only[pI]at dW;refine aH (ai ?_);refine aS ?_;simp -dsimp only[simprocAttr,↓aa,zp,hb];refine ah ?_;refine aA 5 1 (.ip none [aT b.params,bP b.ins,aI b.term.kind,aI b.term.arg,aI b.term.n,aT b.term.cases,aE b.term.to]) rfl (by simp[al.aC]) trivial rfl ?_ ?_;rotate_left;simp -dsimp only[simprocAttr,↓aa,zp]
   ·refine oX ⟨false,false⟩ hT 4 rfl rfl rfl (by simp) ?_;simp -dsimp only[simprocAttr,↓aa,zp];refine G2 rfl rfl (by simp) rfl rfl ?_;simp -dsimp only[simprocAttr,↓aa,zp];refine ah ?_;refine bF 1 [(1,.ip none [aI f.name,aw f.blocks]),(2,aI 0),(3,aI (IntKind.i64.wrap (m+b.ins.length))),(10,aw f.blocks),(11,aI f.blocks.length),(12,aI k)] (by simp) (by omega) [.gone] ?_ ?_ ?_ ?_ ?_
    ·rfl
    ·simp[al.upto,au,ae.upto,av,Block.ag]
    ·simp[fL,St.get,bq,aY,Go.Av.look,Sub.refl]
    ·simp[al.upto,au,ae.upto,av,Block.ag]
    refine cF ?_
    repeat(refine⟨by omega,?_⟩)
    refine fw ?_;refine⟨⟨(k+1,IntKind.i64.wrap (m+b.ins.length)),by simp only;omega,dW⟩,by simp;omega,?_⟩;refine zq rfl ?_ ?_;simp -dsimp only[simprocAttr,↓aa,zp,zc]
    ·exact Sub.int (by simp)
    rfl
   exact bT.mp rfl rfl
  refine aG ?_;simp -dsimp only[bD,ne_eq,Nat.reduceEqDiff,reduceCtorEq];have gU:k=f.blocks.length:=by simp at h;omega
  subst gU;rw[List.drop_length]at dW;simp only[pI]at dW;rw[dW]at hR;refine aH (ai ?_);refine ay (ah ?_);apply aM rfl<;>intro h
  ·have hl:f.blocks.length=0:=by simpa using h
   rw[if_pos hl]at hR;refine ay (ah ?_);refine aq ?_;simp -dsimp only[simprocAttr,↓aa,zp,zr,Tryz.results31];rw[hR]
  have hl:¬f.blocks.length=0:=by simpa using h
  rw[if_neg hl]at hR;have hB:f.blocks[0]?=some (aF f 0):=ez (f:=f) (k:=0) (by omega) (by omega);generalize aF f 0=B at *;refine jP (⟨69,[(1,.ip none [aI f.name,aw f.blocks]),(2,aI 0),(27,.v (.bool (decide ((128:Int)<f.blocks.length) ||decide ((1024:Int)<m) ||decide ((6:Int)<B.params.length))))],[.gone]⟩) ?_ ?_
  ·cases hA:decide ((128:Int)<f.blocks.length)<;>cases Uv:decide ((1024:Int)<m)<;>cases hC:decide ((6:Int)<B.params.length)
   all_goals
    refine fM hT hm ?_;simp -dsimp only[simprocAttr,↓aa,zp,hA,Uv,hC,hB];refine aV ?_;show bd _ _;refine zq rfl ?_ ?_;simp -dsimp only[simprocAttr,↓aa,zp,zc]
    ·exact Sub.refl _
    rfl
  by_cases Ar:128<f.blocks.length∨1024<m∨6<B.params.length
  ·rw[if_pos Ar]at hR;have hd:(decide ((128:Int)<f.blocks.length) ||decide ((1024:Int)<m) ||decide ((6:Int)<B.params.length))=true:=by
    simp only[Bool.or_eq_true,decide_eq_true_eq];omega
   rw[hd];refine cN rfl ?_;refine ay (ah ?_);refine aq ?_;simp -dsimp only[simprocAttr,↓aa,zp,zr,Tryz.results31];rw[hR]
  rw[if_neg Ar]at hR;have hd:(decide ((128:Int)<f.blocks.length) ||decide ((1024:Int)<m) ||decide ((6:Int)<B.params.length))=false:=by
   simp only[Bool.or_eq_false_iff,decide_eq_false_iff_not];omega
  rw[hd];have S0:f.blocks.length<=128:=by omega
  have bI:f.blocks≠[]:=fun e=>hl (by rw[e];rfl);cases hn:within f.name (-1) 1048575 with
  | false =>
   rw[if_pos hn]at hR;rw[hn]at hw;refine cd rfl ?_;refine ay ?_;refine .inl ⟨_,hw,by simp only[au,ae.upto,zt,zu,av,eX],an ?_⟩;simp -dsimp only[simprocAttr,↓aa,zp];refine ah ?_;refine cN rfl ?_;refine ay (ah ?_);refine aq ?_;simp -dsimp only[simprocAttr,↓aa,zp,zr,Tryz.results31];rw[hR]
  | true =>
   rw[if_neg (by simp[hn])]at hR;rw[hn]at hw;apply aM rfl<;>intro h
   ·cases h
   refine ay ?_;refine .inl ⟨_,hw,by simp only[au,ae.upto,zt,zu,av,eX],an ?_⟩;simp -dsimp only[simprocAttr,↓aa,zp];refine ah ?_;apply aM rfl<;>intro h
   ·cases h
   refine kA ?_;refine ay (ah ?_);refine cb (ah ?_);have ye:∀(ds:Defs) (k:Nat),k<f.blocks.length->ba Tryz.prog 58 [.gone,.map (.int .i64) (ds.map eR),.cells [aI f.name,aw f.blocks,.mm 1]] [.mp 2 0,aI k] (fun r O'=>r=aI (fq f ds k).1∧O'=[.gone,.map (.int .i64) ((fq f ds k).2.map eR),.cells [aI f.name,aw f.blocks,.mm 1]]):=fun ds k hk=>by
    have gA:(aF f k).term.cases.length<=2 ^ 60:=by
     have hb:=List.mem_of_getElem? (ez (f:=f) (k:=k) (by omega) (by omega));have:=(bt.2.2 _ hb).2.2.2.2.2.2.2.2.1;omega
    exact Cp (O:=[.gone,.map (.int .i64) (ds.map eR),.cells [aI f.name,aw f.blocks,.mm 1]]) (c:=2) (d:=1) (by simp[al.upto,au,ae.upto,Block.ag,eX]) (by omega) rfl rfl k (by omega) (by omega) (by omega) gA
   refine ai (aO (ι:={x:Nat×Defs // x.1<=f.blocks.length∧cO f f.blocks.length 0 []=cO f (f.blocks.length-x.1) x.1 x.2}) (fun x=>⟨69,[(1,.ip none [aI f.name,aw f.blocks]),(2,aI 0),(6,.mp 2 0),(56,aI f.blocks.length),(57,aI x.1.1)],[.gone,.map (.int .i64) (x.1.2.map eR),.cells [aI f.name,aw f.blocks,.mm 1]]⟩) (fun x=>f.blocks.length-x.1.1) ⟨(0,[]),by simp,rfl⟩ ?_ ?_)
   ·refine zq rfl ?_ ?_;simp -dsimp only[simprocAttr,↓aa,zp,zc];rfl
   rintro⟨⟨k,ds⟩,hk,dW⟩;simp only at hk dW;refine ay (ah ?_);apply ib rfl<;>intro h
   ·refine cm ?_;have aZ:k<f.blocks.length:=by simpa using h
    rw[show f.blocks.length-k=f.blocks.length-(k+1)+1 by omega]at dW;simp only[cO]at dW;have hb:=ye ds k aZ;generalize fq f ds k=X at *;refine aH (ai ?_);refine ay (ah ?_);refine ay ?_;refine .inr (.inl ⟨_,_,hb,.inl (an (zj ?_))⟩);refine ah ?_;by_cases hX:X.1=0
    ·have I8:decide (X.1=0)=true:=decide_eq_true hX;rw[if_neg (by simp[hX])]at dW;refine aS ?_;simp -dsimp only[simprocAttr,↓aa,zp,I8];refine ah ?_;refine cd rfl ?_;refine kA ?_;refine cF ?_
     repeat(refine⟨by omega,?_⟩)
     refine fw ?_;refine⟨⟨(k+1,X.2),by simp only;omega,dW⟩,by simp;omega,?_⟩;refine zq rfl ?_ ?_;simp -dsimp only[simprocAttr,↓aa,zp,zc]
     ·exact Sub.int (by simp)
     rfl
    have I8:decide (X.1=0)=false:=decide_eq_false hX;rw[if_pos hX]at dW;rw[dW,if_pos hX]at hR;refine aS ?_;simp -dsimp only[simprocAttr,↓aa,zp,I8];refine ah ?_;refine cN rfl ?_;refine ay (ah ?_);refine aq ?_;simp -dsimp only[simprocAttr,↓aa,zp,zr,Tryz.results31];rw[hR]
   refine aG ?_;simp -dsimp only[bD,ne_eq,Nat.reduceEqDiff,reduceCtorEq];have gU:k=f.blocks.length:=by simp at h;omega
   subst gU;rw[Nat.sub_self]at dW;simp only[cO]at dW;have PD:(cO f f.blocks.length 0 []).1=0:=by rw[dW]
   have cA:=rX PD;have SP:=(lQ f.blocks.length 0 [] (.nil _) (by omega) (by simp) PD).1;rw[dW]at SP;rw[dW,if_neg (by simp)]at hR;have UQ:=HI f ds bI S0 (fun b hb e he=>by
    have:=(jS (cA b hb).fin).2.2.2 e he;omega) SP.ok
   simp only at hR;rw[<-hR]at UQ;refine kR 1 rfl (by simp[al.aC]) trivial [(2,aI 0),(6,.mp 2 0)] ?_ 2 (by omega) _ [aI f.name,aw f.blocks,.im (.int .i64) (ds.map eR)] rfl rfl ?_ ?_ ?_
   ·intro s y hy;simp only[Go.Av.look]at hy;split at hy
    ·cases hy;rename_i e;subst e;exact⟨_,rfl,.refl _⟩
    split at hy
    ·cases hy;rename_i e;subst e;exact⟨_,rfl,.refl _⟩
    cases hy
   ·simp[ae.scalar]
   ·intro j c d hc hd
    match j,hc,hd with
    | 0,hc,hd =>
     cases hc;cases hd;exact .refl _
    | 1,hc,hd =>
     cases hc;cases hd;exact .refl _
    | 2,hc,hd =>
     cases hc;cases hd;exact .mm rfl
   show cu Tryz.prog _ _ _ ⟨_,_,[.gone,.gone,.cells [aI f.name,aw f.blocks,.im (.int .i64) (ds.map eR)]]⟩;refine aA 6 2 (.ip none [aI f.name,aw f.blocks,.im (.int .i64) (ds.map eR)]) rfl (by simp[al.aC]) trivial rfl ?_ ?_;rotate_left;simp -dsimp only[simprocAttr,↓aa,zp]
   ·refine ay ?_;refine .inl ⟨_,UQ,by simp only[au,ae.upto,zt,zu,av,eX],an ?_⟩;simp -dsimp only[simprocAttr,↓aa,zp];refine ah ?_;refine aq ?_;simp -dsimp only[simprocAttr,↓aa,zp,zr,Tryz.results31]
   exact bT.mp rfl rfl
 exact bT.mp rfl rfl
def fN(u:cf)(i:Ins):Int :=
 if i.op≠13∧i.op≠9 then 0
 else if(u.fns.length:Int)<=i.n then 4
 else if(i.op=13∧(aF (bH u i.n) 0).params.length≠i.args.length)∨(i.op=9∧(aF (bH u i.n) 0).params.length=0)then 3
 else 0
theorem Ct(u:cf)(i:Ins)(hn:i.op=13∨i.op=9->0<=i.n)(bI:∀f∈u.fns,f.blocks≠[]):bh Tryz.prog 32 [u.enc,i.enc] (aI (fN u i)):=by
 obtain⟨R,hR⟩:∃R,R=fN u i:=⟨_,rfl⟩
 rw[<-hR];unfold fN at hR;rcases(show(i.op≠13∧i.op≠9)∨i.op=13∨i.op=9 by omega)with h|h|h
 ·rw[if_pos h]at hR;have h1:decide (i.op=13)=false:=decide_eq_false h.1;have h2:decide (i.op=9)=false:=decide_eq_false h.2;refine zf true 0 Tryz.func32 Tryz.ntmps32 ?_;dsimp only[Tmp,TypeId,slotsOf];refine ay (ah ?_);refine cJ ?_;simp -dsimp only[simprocAttr,↓aa,zp,h1,h2];refine ah ?_;refine cN rfl ?_;refine ay (ah ?_);refine aq ?_;simp -dsimp only[simprocAttr,↓aa,zp,zr,Tryz.results32];rw[hR]
 all_goals
  have hn:=hn (by omega);rw[if_neg (by omega)]at hR;by_cases hl:(u.fns.length:Int)<=i.n
  ·rw[if_pos hl]at hR;have h3:decide ((u.fns.length:Int)<=i.n)=true:=decide_eq_true hl;have Vc:(decide (i.op=13)=true∧decide (i.op=9)=false)∨(decide (i.op=13)=false∧decide (i.op=9)=true):=by
    simp only[decide_eq_true_eq,decide_eq_false_iff_not];omega
   rcases Vc with⟨h1,h2⟩|⟨h1,h2⟩
   all_goals
    refine zf true 0 Tryz.func32 Tryz.ntmps32 ?_;dsimp only[Tmp,TypeId,slotsOf];refine ay (ah ?_);refine cJ ?_;simp -dsimp only[simprocAttr,↓aa,zp,h1,h2];refine ah ?_;refine cd rfl ?_;refine cm ?_;refine cJ ?_;simp -dsimp only[simprocAttr,↓aa,zp,h3];refine ah ?_;refine cN rfl ?_;refine ay (ah ?_);refine aq ?_;simp -dsimp only[simprocAttr,↓aa,zp,zr,Tryz.results32];rw[hR]
  rw[if_neg hl]at hR;have h3:decide ((u.fns.length:Int)<=i.n)=false:=decide_eq_false hl;have hF:=kK (u:=u) (k:=i.n) hn (by omega);have VL:=bI _ (List.mem_of_getElem? hF);have gp:0<(bH u i.n).blocks.length:=by
   cases hb:(bH u i.n).blocks with
   | nil=>exact absurd hb VL
   | cons=>simp
  have hB:(bH u i.n).blocks[0]?=some (aF (bH u i.n) 0):=ez (f:=bH u i.n) (k:=0) (by omega) (by omega);generalize aF (bH u i.n) 0=B at *;generalize bH u i.n=F at *;have Vc:(decide (i.op=13)=true∧decide (i.op=9)=false)∨(decide (i.op=13)=false∧decide (i.op=9)=true):=by
   simp only[decide_eq_true_eq,decide_eq_false_iff_not];omega
  rcases Vc with⟨h1,h2⟩|⟨h1,h2⟩
  ·have g1:=of_decide_eq_true h1;have g2:=of_decide_eq_false h2;by_cases Wj:B.params.length=i.args.length
   ·rw[if_neg (by omega)]at hR;have hq:decide ((B.params.length:Int)=i.args.length)=true:=decide_eq_true (by omega);refine zf true 0 Tryz.func32 Tryz.ntmps32 ?_;dsimp only[Tmp,TypeId,slotsOf];refine ay (ah ?_);refine cJ ?_;simp -dsimp only[simprocAttr,↓aa,zp,h1,h2];refine ah ?_;refine cd rfl ?_;refine cm ?_;refine cJ ?_;simp -dsimp only[simprocAttr,↓aa,zp,h3];refine ah ?_;refine cd rfl ?_;refine cm ?_;refine aS ?_;simp -dsimp only[simprocAttr,↓aa,zp,hF,hB]
    repeat(refine⟨by omega,?_⟩)
    refine ah ?_;refine cJ ?_;simp -dsimp only[simprocAttr,↓aa,zp,h1,h2,hq];refine ah ?_;refine cd rfl ?_;refine cm ?_;refine ay (ah ?_);refine aq ?_;simp -dsimp only[simprocAttr,↓aa,zp,zr,Tryz.results32];rw[hR]
   rw[if_pos (.inl ⟨g1,Wj⟩)]at hR;have hq:decide ((B.params.length:Int)=i.args.length)=false:=decide_eq_false (by omega);refine zf true 0 Tryz.func32 Tryz.ntmps32 ?_;dsimp only[Tmp,TypeId,slotsOf];refine ay (ah ?_);refine cJ ?_;simp -dsimp only[simprocAttr,↓aa,zp,h1,h2];refine ah ?_;refine cd rfl ?_;refine cm ?_;refine cJ ?_;simp -dsimp only[simprocAttr,↓aa,zp,h3];refine ah ?_;refine cd rfl ?_;refine cm ?_;refine aS ?_;simp -dsimp only[simprocAttr,↓aa,zp,hF,hB]
   repeat(refine⟨by omega,?_⟩)
   refine ah ?_;refine cJ ?_;simp -dsimp only[simprocAttr,↓aa,zp,h1,h2,hq];refine ah ?_;refine cN rfl ?_;refine ay (ah ?_);refine aq ?_;simp -dsimp only[simprocAttr,↓aa,zp,zr,Tryz.results32];rw[hR]
  have g1:=of_decide_eq_false h1;have g2:=of_decide_eq_true h2;by_cases Wj:B.params.length=0
  ·rw[if_pos (.inr ⟨g2,Wj⟩)]at hR;have hq:decide ((B.params.length:Int)=0)=true:=decide_eq_true (by omega);refine zf true 0 Tryz.func32 Tryz.ntmps32 ?_;dsimp only[Tmp,TypeId,slotsOf];refine ay (ah ?_);refine cJ ?_;simp -dsimp only[simprocAttr,↓aa,zp,h1,h2];refine ah ?_;refine cd rfl ?_;refine cm ?_;refine cJ ?_;simp -dsimp only[simprocAttr,↓aa,zp,h3];refine ah ?_;refine cd rfl ?_;refine cm ?_;refine aS ?_;simp -dsimp only[simprocAttr,↓aa,zp,hF,hB]
   repeat(refine⟨by omega,?_⟩)
   refine ah ?_;refine cJ ?_;simp -dsimp only[simprocAttr,↓aa,zp,h1,h2,hq];refine ah ?_;refine cN rfl ?_;refine ay (ah ?_);refine aq ?_;simp -dsimp only[simprocAttr,↓aa,zp,zr,Tryz.results32];rw[hR]
  rw[if_neg (by omega)]at hR;have hq:decide ((B.params.length:Int)=0)=false:=decide_eq_false (by omega);refine zf true 0 Tryz.func32 Tryz.ntmps32 ?_;dsimp only[Tmp,TypeId,slotsOf];refine ay (ah ?_);refine cJ ?_;simp -dsimp only[simprocAttr,↓aa,zp,h1,h2];refine ah ?_;refine cd rfl ?_;refine cm ?_;refine cJ ?_;simp -dsimp only[simprocAttr,↓aa,zp,h3];refine ah ?_;refine cd rfl ?_;refine cm ?_;refine aS ?_;simp -dsimp only[simprocAttr,↓aa,zp,hF,hB]
  repeat(refine⟨by omega,?_⟩)
  refine ah ?_;refine cJ ?_;simp -dsimp only[simprocAttr,↓aa,zp,h1,h2,hq];refine ah ?_;refine cd rfl ?_;refine cm ?_;refine ay (ah ?_);refine aq ?_;simp -dsimp only[simprocAttr,↓aa,zp,zr,Tryz.results32];rw[hR]
theorem FN:∀(l:List Block) (m:Int),0<=m->m+2 ^ 48*(l.length:Int)<=2 ^ 60->(∀b∈l,b.ins.length<=2 ^ 47)->m<=pI m l∧∀b∈l,(b.ins.length:Int)<=pI m l
 | [],m,_,_,_=>⟨by simp[pI],by simp⟩
 | b::r,m,h0,h1,h2=>by
  have hb:=h2 b (by simp);simp only[List.length_cons]at h1;have hw:IntKind.i64.wrap (m+b.ins.length)=m+b.ins.length:=mu _ _ (by simp[IntKind.min,IntKind.bits,IntKind.signed];omega) (by simp[IntKind.max,IntKind.bits,IntKind.signed];omega);have ih:=FN r (m+b.ins.length) (by omega) (by omega) (fun x hx=>h2 x (by simp[hx]));simp only[pI,hw];refine⟨by omega,fun x hx=>?_⟩;rcases List.mem_cons.1 hx with q|q
  ·subst q;omega
  exact ih.2 x q
structure Rc(f:Func):Prop where
 ne:f.blocks≠[]
 few:f.blocks.length<=128
 name:-1<=f.name∧f.name<=1048575
 args:(aF f 0).params.length<=6
 ins:∀b∈f.blocks,b.ins.length<=1024
 blk:∀b∈f.blocks,Lr f b
 BF:qS f (cO f f.blocks.length 0 []).2=0
theorem cq{f:Func}(bt:f.fit)(h:aN f=0):Rc f:=by
 unfold aN at h;split at h
 ·simp at h
 rename_i h1;split at h
 ·simp at h
 rename_i h2;split at h
 ·simp at h
 rename_i h3;split at h
 ·rename_i h4;exact absurd h h4
 rename_i h4;have hw:=FN f.blocks 0 (by omega) (by omega) (fun b hb=>(bt.2.2 b hb).2.2.1);refine⟨fun e=>h1 (by rw[e];rfl),by omega,by simpa[within]using h3,by omega,fun b hb=>?_,rX (by simpa using h4),h⟩;have:=hw.2 b hb;omega
structure RZ(i:Ins):Prop where
 op:0<=i.op∧i.op<=24
 len:i.args.length<=16
 c0:i.op=0->fG i.n∧i.args.length=0
 c2:(1<=i.op∧i.op<=7)∨i.op=16∨i.op=18∨i.op=19∨i.op=21∨i.op=23->i.args.length=2
 c1:i.op=10∨i.op=11∨i.op=12∨i.op=15∨i.op=17∨i.op=24->i.args.length=1
 c3:i.op=20->i.args.length=3
 Ur:i.op=8->0<=i.n∧i.n<=255
 call:i.op=9∨i.op=13->0<=i.n∧i.n<=255
 app:i.op=14->1<=i.args.length
 UW:i.op=11∨i.op=24->0<=i.n
 pack:i.op=22->(i.n=2∨i.n=4)∧(i.args.length:Int)=i.n
 vec:i.op=23->i.n=1∨i.n=2∨i.n=3
theorem sX{i:Ins}(h:kL i=0):RZ i:=by
 unfold kL at h;split at h
 ·simp at h
 rename_i hA;split at h
 ·simp at h
 rename_i Vh;split at h
 ·rename_i hN;have YA:(a8 i).2=true∧(0<=(a8 i).1->(i.args.length:Int)=(a8 i).1)∧(i.op=14->¬(i.args.length:Int)=0):=by
   simp only[Ag,Bool.or_eq_true,Bool.not_eq_true',Bool.and_eq_true,decide_eq_true_eq,decide_eq_false_iff_not,not_or,not_and,Bool.not_eq_false,Decidable.not_not]at hA;exact⟨hA.1.1,hA.1.2,hA.2⟩
  obtain⟨a1,a2,a3⟩:=YA;have hB:(i.op=8∨i.op=9->i.args.length<=16)∧(i.op=13∨i.op=14->i.args.length<=6):=by
   simp only[uh,Ah,Bool.or_eq_true,Bool.and_eq_true,decide_eq_true_eq,not_or,not_and]at Vh;exact⟨fun q=>by have:=Vh.1 q;omega,fun q=>by have:=Vh.2 q;omega⟩
  obtain⟨b1,b2⟩:=hB;have jq:0<=i.op∧i.op<=24:=by
   unfold a8 at a1;split at a1
   ·omega
   split at a1
   ·omega
   split at a1
   ·omega
   split at a1
   ·omega
   split at a1
   ·omega
   split at a1
   ·omega
   simp at a1
  have o0:i.op=0->a8 i=(0,true):=fun q=>by unfold a8;rw[if_pos q]
  have o2:(1<=i.op∧i.op<=7)∨i.op=16∨i.op=18∨i.op=19∨i.op=21∨i.op=23->a8 i=(2,true):=fun q=>by unfold a8;rw[if_neg (by omega),if_pos q]
  have o3:i.op=20->a8 i=(3,true):=fun q=>by unfold a8;rw[if_neg (by omega),if_neg (by omega),if_pos q]
  have o1:i.op=10∨i.op=11∨i.op=12∨i.op=15∨i.op=17∨i.op=24->a8 i=(1,true):=fun q=>by unfold a8;rw[if_neg (by omega),if_neg (by omega),if_neg (by omega),if_pos q]
  have o22:i.op=22->a8 i=(i.n,decide (i.n=2∨i.n=4)):=fun q=>by unfold a8;rw[if_neg (by omega),if_neg (by omega),if_neg (by omega),if_neg (by omega),if_neg (by omega),if_pos q]
  have l0:i.op=0->i.args.length=0:=fun q=>by rw[o0 q]at a2;have:=a2 (by decide);simp only at this;omega
  have l2:=fun q=>by have:=a2;rw[o2 q]at this;exact this (by decide)
  have l3:=fun q=>by have:=a2;rw[o3 q]at this;exact this (by decide)
  have l1:=fun q=>by have:=a2;rw[o1 q]at this;exact this (by decide)
  have Yh:i.op=22->(i.n=2∨i.n=4)∧(i.args.length:Int)=i.n:=fun q=>by
   rw[o22 q]at a1 a2;have:i.n=2∨i.n=4:=of_decide_eq_true a1;exact⟨this,a2 (by simp only;omega)⟩
  have n0:i.op=0->fG i.n:=fun q=>by unfold cn at hN;rw[if_pos q]at hN;exact of_decide_eq_true hN
  have n8:i.op=8->0<=i.n∧i.n<=255:=fun q=>by unfold cn at hN;rw[if_neg (by omega),if_pos q]at hN;exact within_iff.1 hN
  have n11:i.op=11->0<=i.n∧i.n<=15:=fun q=>by unfold cn at hN;rw[if_neg (by omega),if_neg (by omega),if_pos q]at hN;exact within_iff.1 hN
  have n9:i.op=9∨i.op=13->0<=i.n∧i.n<=255:=fun q=>by unfold cn at hN;rw[if_neg (by omega),if_neg (by omega),if_neg (by omega),if_pos q]at hN;exact within_iff.1 hN
  have n23:i.op=23->i.n=1∨i.n=2∨i.n=3:=fun q=>by unfold cn at hN;rw[if_neg (by omega),if_neg (by omega),if_neg (by omega),if_neg (by omega),if_pos q]at hN;exact of_decide_eq_true hN
  have n24:i.op=24->0<=i.n∧i.n<=3:=fun q=>by unfold cn at hN;rw[if_neg (by omega),if_neg (by omega),if_neg (by omega),if_neg (by omega),if_neg (by omega),if_pos q]at hN;exact within_iff.1 hN
  have L2:(1<=i.op∧i.op<=7)∨i.op=16∨i.op=18∨i.op=19∨i.op=21∨i.op=23->i.args.length=2:=fun q=>by have:=l2 q;omega
  have L1:i.op=10∨i.op=11∨i.op=12∨i.op=15∨i.op=17∨i.op=24->i.args.length=1:=fun q=>by have:=l1 q;omega
  have L3:i.op=20->i.args.length=3:=fun q=>by have:=l3 q;omega
  refine⟨jq,?_,fun q=>⟨n0 q,l0 q⟩,L2,L1,L3,n8,n9,fun q=>by have:=a3 q;omega,fun q=>?_,Yh,n23⟩
  ·rcases(show i.op=0∨((1<=i.op∧i.op<=7)∨i.op=16∨i.op=18∨i.op=19∨i.op=21∨i.op=23)∨i.op=20∨(i.op=10∨i.op=11∨i.op=12∨i.op=15∨i.op=17∨i.op=24)∨(i.op=8∨i.op=9)∨(i.op=13∨i.op=14)∨i.op=22 by omega)with q|q|q|q|q|q|q
   ·have:=l0 q;omega
   ·have:=L2 q;omega
   ·have:=L3 q;omega
   ·have:=L1 q;omega
   ·have:=b1 q;omega
   ·have:=b2 q;omega
   have:=Yh q;omega
  rcases q with q|q
  ·exact(n11 q).1
  exact(n24 q).1
 simp at h
structure U1(f:Func)(t:Term):Prop where
 kind:0<=t.kind∧t.kind<=4
 to:t.kind=0∨t.kind=4->t.to=[]
 jump:t.kind=1->t.to.length=1
 cond:t.kind=2->t.to.length=2
 switch:t.kind=3->t.to.length=t.cases.length+1
 cases:t.cases.length<=256
 Q7:t.kind=4->1<=t.n∧t.n<=6
 n:t.kind≠4->t.n=0
 eZ:∀e∈t.to,(1<=e.block∧e.block<=(f.blocks.length:Int)-1)∧e.args.length=(aF f e.block).params.length
theorem ud{f:Func}{t:Term}(h:oy f t=0):U1 f t:=by
 obtain⟨h1,h2,h3,h4⟩:=jS h;simp only[ec,Bool.and_eq_true,Bool.or_eq_true,decide_eq_true_eq]at h1;obtain⟨hk,⟨⟨he,_⟩,hn⟩,hc⟩:=h1;refine⟨hk,fun q=>?_,fun q=>?_,fun q=>?_,fun q=>?_,h2,h3,fun q=>hn.resolve_left q,h4⟩
 ·have:eN t=0:=by rcases q with q|q<;>simp[eN,q]
  rw[this]at he;exact List.length_eq_zero_iff.1 (by omega)
 ·have:eN t=1:=by simp[eN,q]
  omega
 ·have:eN t=2:=by simp[eN,q]
  omega
 have:eN t=t.cases.length+1:=by simp[eN,q]
 omega
def zd(a b:Int):Int:=if a≠0 then a else b
theorem dZ{a b:Int}(h:a=0):zd a b=b:=by simp[zd,h]
theorem me{a b:Int}(h:¬a=0):zd a b=a:=by simp[zd,h]
theorem xe(a b c:Int):zd (zd a b) c=zd a (zd b c):=by
 by_cases h:a=0
 ·rw[dZ h,dZ h]
 rw[me h,me h,me h]
theorem pt{a b:Int}(h:zd a b=0):a=0∧b=0:=by
 by_cases q:a=0
 ·exact⟨q,by rwa [dZ q]at h⟩
 rw[me q]at h;exact absurd h q
def lX:List Func->Int
 | []=>0
 | f::r=>zd (aN f) (lX r)
def o6(u:cf):List Ins->Int
 | []=>0
 | i::r=>zd (fN u i) (o6 u r)
def mS(u:cf):List Block->Int
 | []=>0
 | b::r=>zd (o6 u b.ins) (mS u r)
def j8(u:cf):List Func->Int
 | []=>0
 | f::r=>zd (mS u f.blocks) (j8 u r)
def dV(u:cf):Int :=
 if u.fns.length=0 then 3
 else if 256<u.fns.length then 2
 else if within u.main 0 ((u.fns.length:Int)-1)=false then 4
 else zd (lX u.fns) (if 0<(aF (bH u u.main) 0).params.length then 3 else j8 u u.fns)
theorem lY:∀{l:List Func},lX l=0->∀f∈l,aN f=0
 | [],_,f,h=>by simp at h
 | g::r,h,f,hf=>by
  have:=pt h;rcases List.mem_cons.1 hf with q|q
  ·subst q;exact this.1
  exact lY this.2 f q
theorem tR(u:cf)(bt:u.fit):bh Tryz.prog 9 [u.enc] (aI (dV u)):=by
 obtain⟨R,hR⟩:∃R,R=dV u:=⟨_,rfl⟩
 rw[<-hR];unfold dV at hR;have hw:=dy u.main 0 ((u.fns.length:Int)-1);have C7:u.fns.length<=2 ^ 47:=bt.2.1;refine zf true 0 Tryz.func9 Tryz.ntmps9 ?_;dsimp only[Tmp,TypeId,slotsOf];refine ay (ah ?_);refine aA 1 0 (.ip none [a7 u.fns,aI u.main]) rfl (by simp[al.aC]) trivial rfl ?_ ?_;rotate_left;simp -dsimp only[simprocAttr,↓aa,zp]
 ·refine aH (ai ?_);by_cases h0:u.fns.length=0
  ·rw[if_pos h0]at hR;have hd:decide ((u.fns.length:Int)=0)=true:=decide_eq_true (by omega);refine aS ?_;simp -dsimp only[simprocAttr,↓aa,zp,hd];refine ah ?_;refine cN rfl ?_;refine ay (ah ?_);refine aq ?_;simp -dsimp only[simprocAttr,↓aa,zp,zr,Tryz.results9];rw[hR]
  rw[if_neg h0]at hR;have hd:decide ((u.fns.length:Int)=0)=false:=decide_eq_false (by omega);refine aS ?_;simp -dsimp only[simprocAttr,↓aa,zp,hd];refine ah ?_;apply aM rfl<;>intro h
  ·cases h
  by_cases h1:256<u.fns.length
  ·rw[if_pos h1]at hR;have hd:decide ((256:Int)<u.fns.length)=true:=decide_eq_true (by omega);refine aS ?_;simp -dsimp only[simprocAttr,↓aa,zp,hd];refine ah ?_;refine cN rfl ?_;refine ay (ah ?_);refine aq ?_;simp -dsimp only[simprocAttr,↓aa,zp,zr,Tryz.results9];rw[hR]
  rw[if_neg h1]at hR;have hd:decide ((256:Int)<u.fns.length)=false:=decide_eq_false (by omega);refine aS ?_;simp -dsimp only[simprocAttr,↓aa,zp,hd];refine ah ?_;apply aM rfl<;>intro h
  ·cases h
  cases HU:within u.main 0 ((u.fns.length:Int)-1)with
  | false =>
   rw[if_pos HU]at hR;rw[HU]at hw;refine ay ?_
   repeat(refine⟨by omega,?_⟩)
   refine zi hw ?_;refine ah ?_;refine cN rfl ?_;refine ay (ah ?_);refine aq ?_;simp -dsimp only[simprocAttr,↓aa,zp,zr,Tryz.results9];rw[hR]
  | true =>
   have EO:=within_iff.1 HU;rw[if_neg (by simp[HU])]at hR;rw[HU]at hw;refine ay ?_
   repeat(refine⟨by omega,?_⟩)
   refine zi hw ?_;refine ah ?_;apply aM rfl<;>intro h
   ·cases h
   refine kA ?_;refine cb (ah ?_);refine ai (aO (ι:={k:Nat // k<=u.fns.length∧lX u.fns=lX (u.fns.drop k)}) (fun k=>⟨87,[(1,.ip none [a7 u.fns,aI u.main]),(2,aI 0),(33,a7 u.fns),(34,aI u.fns.length),(35,aI k.1)],[.gone]⟩) (fun k=>u.fns.length-k.1) ⟨0,by omega,rfl⟩ ?_ ?_)
   ·refine zq rfl ?_ ?_;simp -dsimp only[simprocAttr,↓aa,zp,zc];rfl
   rintro⟨k,hk,dW⟩;refine ay (ah ?_);apply ib rfl<;>intro h
   ·refine cm ?_;have aZ:k<u.fns.length:=by simpa using h
    obtain⟨f,hf⟩:∃f,u.fns[k]?=some f:=⟨u.fns[k],by simp[aZ]⟩
    have Gu:=il f (bt.2.2 f (List.mem_of_getElem? hf));rw[bQ hf]at dW;simp only[lX]at dW;obtain⟨e,K9⟩:∃e,e=aN f:=⟨_,rfl⟩
    rw[<-K9]at dW Gu;refine aH (ai ?_);refine aS ?_;simp -dsimp only[simprocAttr,↓aa,zp,hf];refine ah ?_;refine aA 4 1 (.ip none [aI f.name,aw f.blocks]) rfl (by simp[al.aC]) trivial rfl ?_ ?_;rotate_left;simp -dsimp only[simprocAttr,↓aa,zp]
    ·refine bF 1 [(1,.ip none [a7 u.fns,aI u.main]),(2,aI 0),(33,a7 u.fns),(34,aI u.fns.length),(35,aI k),(4,.ip none [aI f.name,aw f.blocks])] (by simp) (by omega) [.gone] ?_ ?_ ?_ ?_ ?_
     ·rfl
     ·simp[al.upto,au,ae.upto,av,Func.ag,Block.ag,Edge.ag,Ins.ag]
     ·simp[fL,St.get,bq,aY,Go.Av.look,Sub.refl]
     ·simp[al.upto,au,ae.upto,av,Func.ag,Block.ag,Edge.ag,Ins.ag]
     refine ay ?_;refine zi Gu ?_;refine ah ?_;by_cases he:e=0
     ·have m5:decide (e=0)=true:=decide_eq_true he;rw[dZ he]at dW;refine aS ?_;simp -dsimp only[simprocAttr,↓aa,zp,m5];refine ah ?_;refine cd rfl ?_;refine kA ?_;refine cF ?_
      repeat(refine⟨by omega,?_⟩)
      refine fw ?_;refine⟨⟨k+1,aZ,dW⟩,by simp;omega,?_⟩;refine zq rfl ?_ ?_;simp -dsimp only[simprocAttr,↓aa,zp,zc]
      ·exact Sub.int (by simp)
      rfl
     have m5:decide (e=0)=false:=decide_eq_false he;rw[me he]at dW;rw[dW,me he]at hR;refine aS ?_;simp -dsimp only[simprocAttr,↓aa,zp,m5];refine ah ?_;refine cN rfl ?_;refine ay (ah ?_);refine aq ?_;simp -dsimp only[simprocAttr,↓aa,zp,zr,Tryz.results9];rw[hR]
    exact bT.mp rfl rfl
   refine aG ?_;simp -dsimp only[bD,ne_eq,Nat.reduceEqDiff,reduceCtorEq];have gU:k=u.fns.length:=by simp at h;omega
   subst gU;rw[List.drop_length]at dW;have XA:lX u.fns=0:=by rw[dW];rfl
   rw[dZ XA]at hR;have cA:∀f∈u.fns,Rc f:=fun f hf=>cq (bt.2.2 f hf) (lY XA f hf);have hM:=kK (u:=u) (k:=u.main) EO.1 (by omega);have YR:0<(bH u u.main).blocks.length:=by
    have:=(cA _ (List.mem_of_getElem? hM)).ne;cases hb:(bH u u.main).blocks with
    | nil=>exact absurd hb this
    | cons=>simp
   have hB:(bH u u.main).blocks[0]?=some (aF (bH u u.main) 0):=ez (f:=bH u u.main) (k:=0) (by omega) (by omega);generalize aF (bH u u.main) 0=B at *;generalize bH u u.main=F at *;by_cases hp:0<B.params.length
   ·rw[if_pos hp]at hR;have EJ:decide ((0:Int)<B.params.length)=true:=decide_eq_true (by omega);refine cJ ?_;simp -dsimp only[simprocAttr,↓aa,zp,hM,hB,EJ]
    repeat(refine⟨by omega,?_⟩)
    refine ah ?_;refine cN rfl ?_;refine ay (ah ?_);refine aq ?_;simp -dsimp only[simprocAttr,↓aa,zp,zr,Tryz.results9];rw[hR]
   rw[if_neg hp]at hR;have EJ:decide ((0:Int)<B.params.length)=false:=decide_eq_false (by omega);refine cJ ?_;simp -dsimp only[simprocAttr,↓aa,zp,hM,hB,EJ]
   repeat(refine⟨by omega,?_⟩)
   refine ah ?_;apply aM rfl<;>intro h
   ·cases h
   refine cm ?_;refine cb (ah ?_);refine ai (aO (ι:={k:Nat // k<=u.fns.length∧R=j8 u (u.fns.drop k)}) (fun k=>⟨87,[(1,.ip none [a7 u.fns,aI u.main]),(2,aI 0),(58,a7 u.fns),(59,aI u.fns.length),(60,aI k.1)],[.gone]⟩) (fun k=>u.fns.length-k.1) ⟨0,by omega,hR⟩ ?_ ?_)
   ·refine zq rfl ?_ ?_;simp -dsimp only[simprocAttr,↓aa,zp,zc];rfl
   rintro⟨k,hk,dW⟩;refine ay (ah ?_);apply ib rfl<;>intro h
   ·refine cm ?_;have aZ:k<u.fns.length:=by simpa using h
    obtain⟨f,hf⟩:∃f,u.fns[k]?=some f:=⟨u.fns[k],by simp[aZ]⟩
    have Rt:=List.mem_of_getElem? hf;have uk:=(cA f Rt).few;rw[bQ hf]at dW;simp only[j8]at dW;refine aH (ai ?_);refine aS ?_;simp -dsimp only[simprocAttr,↓aa,zp,hf];refine ah ?_;refine aA 7 1 (.ip none [aI f.name,aw f.blocks]) rfl (by simp[al.aC]) trivial rfl ?_ ?_;rotate_left;simp -dsimp only[simprocAttr,↓aa,zp]
    ·refine bF 1 [(1,.ip none [a7 u.fns,aI u.main]),(2,aI 0),(58,a7 u.fns),(59,aI u.fns.length),(60,aI k),(7,.ip none [aI f.name,aw f.blocks])] (by simp) (by omega) [.gone] ?_ ?_ ?_ ?_ ?_
     ·rfl
     ·simp[al.upto,au,ae.upto,av,Func.ag,Block.ag,Edge.ag,Ins.ag]
     ·simp[fL,St.get,bq,aY,Go.Av.look,Sub.refl]
     ·simp[al.upto,au,ae.upto,av,Func.ag,Block.ag,Edge.ag,Ins.ag]
     refine ay (ah ?_);refine ai (aO (ι:={j:Nat // j<=f.blocks.length∧R=zd (mS u (f.blocks.drop j)) (j8 u (u.fns.drop (k+1)))}) (fun j=>⟨87,[(1,.ip none [a7 u.fns,aI u.main]),(2,aI 0),(58,a7 u.fns),(59,aI u.fns.length),(60,aI k),(65,aw f.blocks),(66,aI f.blocks.length),(67,aI j.1)],[.gone]⟩) (fun j=>f.blocks.length-j.1) ⟨0,by omega,dW⟩ ?_ ?_)
     ·refine zq rfl ?_ ?_;simp -dsimp only[simprocAttr,↓aa,zp,zc];rfl
     rintro⟨j,hj,jX⟩;refine ay (ah ?_);apply ib rfl<;>intro h
     ·refine cm ?_;have AF:j<f.blocks.length:=by simpa using h
      obtain⟨b,hb⟩:∃b,f.blocks[j]?=some b:=⟨f.blocks[j],by simp[AF]⟩
      have sJ:=List.mem_of_getElem? hb;have PT:=(cA f Rt).ins b sJ;rw[bQ hb]at jX;simp only[mS]at jX;rw[xe]at jX;refine aH (ai ?_);refine aS ?_;simp -dsimp only[simprocAttr,↓aa,zp,hb];refine ah ?_;refine aA 9 1 (.ip none [aT b.params,bP b.ins,aI b.term.kind,aI b.term.arg,aI b.term.n,aT b.term.cases,aE b.term.to]) rfl (by simp[al.aC]) trivial rfl ?_ ?_;rotate_left;simp -dsimp only[simprocAttr,↓aa,zp]
      ·refine bF 1 [(1,.ip none [a7 u.fns,aI u.main]),(2,aI 0),(58,a7 u.fns),(59,aI u.fns.length),(60,aI k),(65,aw f.blocks),(66,aI f.blocks.length),(67,aI j),(9,.ip none [aT b.params,bP b.ins,aI b.term.kind,aI b.term.arg,aI b.term.n,aT b.term.cases,aE b.term.to])] (by simp) (by omega) [.gone] ?_ ?_ ?_ ?_ ?_
       ·rfl
       ·simp[al.upto,au,ae.upto,av,Func.ag,Block.ag,Edge.ag,Ins.ag]
       ·simp[fL,St.get,bq,aY,Go.Av.look,Sub.refl]
       ·simp[al.upto,au,ae.upto,av,Func.ag,Block.ag,Edge.ag,Ins.ag]
       refine ay (ah ?_);refine ai (aO (ι:={z:Nat // z<=b.ins.length∧R=zd (o6 u (b.ins.drop z)) (zd (mS u (f.blocks.drop (j+1))) (j8 u (u.fns.drop (k+1))))}) (fun z=>⟨87,[(1,.ip none [a7 u.fns,aI u.main]),(2,aI 0),(58,a7 u.fns),(59,aI u.fns.length),(60,aI k),(65,aw f.blocks),(66,aI f.blocks.length),(67,aI j),(72,bP b.ins),(73,aI b.ins.length),(74,aI z.1)],[.gone]⟩) (fun z=>b.ins.length-z.1) ⟨0,by omega,jX⟩ ?_ ?_)
       ·refine zq rfl ?_ ?_;simp -dsimp only[simprocAttr,↓aa,zp,zc];rfl
       rintro⟨z,hz,pO⟩;refine ay (ah ?_);apply ib rfl<;>intro h
       ·refine cm ?_;have ur:z<b.ins.length:=by simpa using h
        obtain⟨i,hi⟩:∃i,b.ins[z]?=some i:=⟨b.ins[z],by simp[ur]⟩
        rw[bQ hi]at pO;simp only[o6]at pO;rw[xe]at pO;have XE:=sX (((cA f Rt).blk b sJ).Ai i (List.mem_of_getElem? hi));have gn:=Ct u i (fun q=>(XE.call (by omega)).1) (fun f hf=>(cA f hf).ne);obtain⟨e,K9⟩:∃e,e=fN u i:=⟨_,rfl⟩
        rw[<-K9]at pO gn;refine aH (ai ?_);refine aS ?_;simp -dsimp only[simprocAttr,↓aa,zp,hi];refine ah ?_;refine aA 11 1 (.ip none [aI i.to,aI i.op,aI i.n,aT i.args]) rfl (by simp[al.aC]) trivial rfl ?_ ?_;rotate_left;simp -dsimp only[simprocAttr,↓aa,zp]
        ·refine bF 1 [(1,.ip none [a7 u.fns,aI u.main]),(2,aI 0),(58,a7 u.fns),(59,aI u.fns.length),(60,aI k),(65,aw f.blocks),(66,aI f.blocks.length),(67,aI j),(72,bP b.ins),(73,aI b.ins.length),(74,aI z),(11,.ip none [aI i.to,aI i.op,aI i.n,aT i.args])] (by simp) (by omega) [.gone] ?_ ?_ ?_ ?_ ?_
         ·rfl
         ·simp[al.upto,au,ae.upto,av,Func.ag,Block.ag,Edge.ag,Ins.ag]
         ·simp[fL,St.get,bq,aY,Go.Av.look,Sub.refl]
         ·simp[al.upto,au,ae.upto,av,Func.ag,Block.ag,Edge.ag,Ins.ag]
         refine ay ?_;refine zi gn ?_;refine ah ?_;by_cases he:e=0
         ·have m5:decide (e=0)=true:=decide_eq_true he;rw[dZ he]at pO;refine aS ?_;simp -dsimp only[simprocAttr,↓aa,zp,m5];refine ah ?_;refine cd rfl ?_;refine kA ?_;refine cF ?_
          repeat(refine⟨by omega,?_⟩)
          refine fw ?_;refine⟨⟨z+1,ur,pO⟩,by simp;omega,?_⟩;refine zq rfl ?_ ?_;simp -dsimp only[simprocAttr,↓aa,zp,zc]
          ·exact Sub.int (by simp)
          rfl
         have m5:decide (e=0)=false:=decide_eq_false he;rw[me he]at pO;refine aS ?_;simp -dsimp only[simprocAttr,↓aa,zp,m5];refine ah ?_;refine cN rfl ?_;refine ay (ah ?_);refine aq ?_;simp -dsimp only[simprocAttr,↓aa,zp,zr,Tryz.results9];rw[pO]
        exact bT.mp rfl rfl
       refine aG ?_;simp -dsimp only[bD,ne_eq,Nat.reduceEqDiff,reduceCtorEq];have Qr:z=b.ins.length:=by simp at h;omega
       subst Qr;rw[List.drop_length]at pO;rw[dZ (by rfl)]at pO;refine cF ?_
       repeat(refine⟨by omega,?_⟩)
       refine fw ?_;refine⟨⟨j+1,AF,pO⟩,by simp;omega,?_⟩;refine zq rfl ?_ ?_;simp -dsimp only[simprocAttr,↓aa,zp,zc]
       ·exact Sub.int (by simp)
       rfl
      exact bT.mp rfl rfl
     refine aG ?_;simp -dsimp only[bD,ne_eq,Nat.reduceEqDiff,reduceCtorEq];have ru:j=f.blocks.length:=by simp at h;omega
     subst ru;rw[List.drop_length]at jX;rw[dZ (by rfl)]at jX;refine cF ?_
     repeat(refine⟨by omega,?_⟩)
     refine fw ?_;refine⟨⟨k+1,aZ,jX⟩,by simp;omega,?_⟩;refine zq rfl ?_ ?_;simp -dsimp only[simprocAttr,↓aa,zp,zc]
     ·exact Sub.int (by simp)
     rfl
    exact bT.mp rfl rfl
   refine aG ?_;simp -dsimp only[bD,ne_eq,Nat.reduceEqDiff,reduceCtorEq];have gU:k=u.fns.length:=by simp at h;omega
   subst gU;rw[List.drop_length]at dW;refine ay (ah ?_);refine aq ?_;simp -dsimp only[simprocAttr,↓aa,zp,zr,Tryz.results9];rw[dW];rfl
 exact bT.mp rfl rfl
theorem hU.mono{u:cf}{m m':Mach}(h:∀a∈m.heap,∃b∈m'.heap,b.lL=a.lL){v:SV}(k:hU u m v):hU u m' v :=
 SV.Wf.mono (fun id ⟨a,ha,e⟩=>by
  obtain⟨b,hb,e'⟩:=h a ha;exact⟨b,hb,e'.trans e⟩) k
theorem hU.of_heap{u:cf}{m m':Mach}(h:m'.heap=m.heap){v:SV}(k:hU u m v):hU u m' v :=
 k.mono fun a ha=>⟨a,by rw[h];exact ha,rfl⟩
theorem hU.word{u:cf}{m:Mach}{n:Int}(h:fG n):hU u m (.word n):=SV.Wf.word h
theorem hU.zero{u:cf}{m:Mach}:hU u m .zero:=SV.Wf.zero
theorem ic{u:cf}{m:Mach}{l:List SV}(h:∀v∈l,hU u m v)(k:Nat):hU u m (bW l k):=by
 unfold bW;cases hk:l[k]? with
 | none=>exact hU.zero
 | some v=>exact h v (List.mem_of_getElem? hk)
theorem EF{u:cf}{m:Mach}{es:List (Int×SV)}(h:∀e∈es,hU u m e.2)(k:Int):hU u m (eO es k):=by
 unfold eO;cases hl:gl es k with
 | none=>exact hU.zero
 | some v =>
  obtain⟨e,h1,rfl⟩:=xa hl;exact h e h1
theorem qR{u:cf}{m:Mach}{es:List (Int×SV)}(h:∀e∈es,hU u m e.2)(l:List Int):∀v∈cx es l,hU u m v:=fun v hv=>by
 obtain⟨k,_,rfl⟩:=List.mem_map.1 hv;exact EF h k
theorem oo(es:List (Int×SV))(l:List Int):(cx es l).length=l.length:=by simp[cx]
theorem putS_ok{u:cf}{m:Mach}{es:List (Int×SV)}(h:∀e∈es,hU u m e.2){k:Int}{v:SV}(hv:hU u m v):∀e∈dg es k v,hU u m e.2:=fun e he=>by
 rcases jY he with q|q
 ·exact h e q
 rw[q];exact hv
theorem bindS_ok{u:cf}{m:Mach}{es:List (Int×SV)}(h:∀e∈es,hU u m e.2){ps:List Int}{l:List SV}(hl:∀v∈l,hU u m v):∀e∈cL es ps l,hU u m e.2:=fun e he=>by
 rcases lx he with q|q
 ·exact h e q
 exact hl _ q
theorem pT(op a b:Int)(hb:fG b):(∃n,fG n∧(cX op a b).1=.word n)∧0<=(cX op a b).2∧(cX op a b).2<=6:=by
 have w1:=jA (a+b);have w2:=jA (a-b);have w3:=jA (a*b);have w4:=jA (a.tdiv b);have w0:fG 0:=by unfold fG;omega
 have w01:fG 1:=by unfold fG;omega
 unfold cX
 repeat' split
 all_goals first
  | exact⟨⟨_,w1,rfl⟩,by simp⟩
  | exact⟨⟨_,w2,rfl⟩,by simp⟩
  | exact⟨⟨_,w3,rfl⟩,by simp⟩
  | exact⟨⟨_,w4,rfl⟩,by simp⟩
  | exact⟨⟨_,w0,rfl⟩,by simp⟩
  | exact⟨⟨_,w01,rfl⟩,by simp⟩
  | exact⟨⟨_,vb hb (by assumption),rfl⟩,by simp⟩
theorem uG{u:cf}{m:Mach}{i:Ins}{args:List SV}(h:∀v∈args,hU u m v):hU u m (cG i args).1∧0<=(cG i args).2∧(cG i args).2<=6:=by
 have h0:=ic h 0;have hk:∀k,hU u m (bW (bW args 0).list k):=ic (SV.Wf.kids h0);have hl:=SV.Wf.len h0;unfold cG
 repeat' split
 all_goals first
  | exact⟨hU.zero,by simp⟩
  | exact⟨hk _,by simp⟩
  | exact⟨hU.word (SV.Wf.num h0 (by omega)),by simp⟩
  | exact⟨hU.word (by unfold fG;omega),by simp⟩
theorem FP{u:cf}{m:Mach}{op:Int}:∀(l r:List SV),(∀v∈r,fG v.n)->∀v∈jV op l r,hU u m v∧v.kind=0
 | [],_,_,v,h=>by simp[jV]at h
 | _::_,[],_,v,h=>by simp[jV]at h
 | a::l,b::r,hr,v,h=>by
  simp only[jV,List.mem_cons]at h;rcases h with rfl|h
  ·obtain⟨⟨n,h1,h2⟩,_⟩:=pT op a.n b.n (hr b (by simp));rw[h2];exact⟨hU.word h1,rfl⟩
  exact FP l r (fun v hv=>hr v (by simp[hv])) v h
theorem rO{u:cf}{m:Mach}{v:SV}(h:hU u m v)(hk:v.kind=4):v.list.length<=1000∧∀x∈v.list,fG x.n :=
 ⟨SV.Wf.len h,fun x hx=>SV.Wf.num (SV.Wf.kids h x hx) (.inl (SV.Wf.vec h hk x hx))⟩
theorem vj{u:cf}{m:Mach}{i:Ins}{args:List SV}(h:∀v∈args,hU u m v)(hl:i.op=22->args.length<=1000)(h2:i.op≠22->i.op≠24->∃x y,args=[x,y]) :
  hU u m (cY i args).1∧0<=(cY i args).2∧(cY i args).2<=6:=by
 have h0:=ic h 0;have hk:∀k,hU u m (bW (bW args 0).list k):=ic (SV.Wf.kids h0);by_cases K5:i.op=22
 ·unfold cY;rw[if_pos K5];split
  ·rename_i ha;refine⟨.mk (by omega) (by omega) (by omega) (by omega) (fun _ v hv=>?_) (hl K5) (by simp) h,by simp⟩;simp only[j5,List.all_eq_true,decide_eq_true_eq]at ha;exact ha v hv
  exact⟨hU.zero,by simp⟩
 by_cases Oj:i.op=24
 ·unfold cY;rw[if_neg K5,if_pos Oj];split
  ·exact⟨hU.zero,by simp⟩
  exact⟨hk _,by simp⟩
 obtain⟨x,y,e⟩:=h2 K5 Oj;subst e;unfold cY;rw[if_neg K5,if_neg Oj];split
 ·exact⟨hU.zero,by simp⟩
 rename_i hn;have cA:j5 [x,y] 4=true:=by
  cases hh:j5 [x,y] 4
  ·exact absurd (.inl (by simp[hh])) hn
  rfl
 have gU:x.kind=4∧y.kind=4:=by simpa[j5]using cA
 have hx:=rO (h x (by simp)) gU.1;have hy:=rO (h y (by simp)) gU.2;have hz:=fun v hv=>FP (u:=u) (m:=m) (op:=i.n) x.list y.list hy.2 v hv;refine⟨.mk (by omega) (by omega) (by omega) (by omega) (fun _ v hv=>(hz v hv).2) ?_ (by simp) (fun v hv=>(hz v hv).1),by simp⟩;show(jV i.n x.list y.list).length<=1000;rw[vl];omega
structure dJ(u:cf)(m:Mach)(r:Mach×SV×Int):Prop where
 frames:r.1.frames=m.frames
 rz:∀a∈m.heap,∃b∈r.1.heap,b.lL=a.lL
 val:hU u r.1 r.2.1
 Q7:0<=r.2.2∧r.2.2<=6
 ld:∀a∈r.1.heap,a.l.length<=1024∧∀v∈a.l,hU u r.1 v
 left:0<=r.1.left∧r.1.left<=m.left
 out:r.1.out.length<=1000
 words:∀n∈r.1.out,fG n
 fin:r.1.fin=m.fin∧r.1.val=m.val
 over:r.1.over=false->m.over=false∧r.1.short=false
theorem dJ.same{u:cf}{m:Mach}(hm:dc u m){v:SV}{t:Int}(hv:hU u m v)(ht:0<=t∧t<=6):dJ u m (m,v,t) where
 frames:=rfl
 rz:=fun a ha=>⟨a,ha,rfl⟩
 val:=hv
 Q7:=ht
 ld:=hm.ld
 left:=⟨hm.left,Int.le_refl _⟩
 out:=hm.out
 words:=hm.words
 fin:=⟨rfl,rfl⟩
 over:=fun h=>⟨h,(hm.over h).2⟩
theorem so:∀(l:List BY) (id:Option Nat) (x:List SV),(∀a∈l,∃b∈Mach.jI l id x,b.lL=a.lL)∧(∀b∈Mach.jI l id x,∃a∈l,a.lL=b.lL∧a.eo=b.eo∧(b=a∨b.l=x))
 | [],_,_=>⟨by simp,by simp[Mach.jI]⟩
 | a::r,id,x=>by
  obtain⟨h1,h2⟩:=so r id x;unfold Mach.jI;split
  ·exact⟨fun c hc=>by
    rcases List.mem_cons.1 hc with rfl|hc
    ·exact⟨⟨c.lL,c.eo,x⟩,List.mem_cons_self,rfl⟩
    ·exact⟨c,by simp[hc],rfl⟩,fun b hb=>by
    rcases List.mem_cons.1 hb with rfl|hb
    ·exact⟨a,by simp,rfl,rfl,.inr rfl⟩
    exact⟨b,by simp[hb],rfl,rfl,.inl rfl⟩⟩
  exact⟨fun c hc=>by
   rcases List.mem_cons.1 hc with rfl|hc
   ·exact⟨_,by simp,rfl⟩
   ·obtain⟨b,hb,e⟩:=h1 c hc;exact⟨b,by simp[hb],e⟩,fun b hb=>by
   rcases List.mem_cons.1 hb with rfl|hb
   ·exact⟨b,by simp,rfl,rfl,.inl rfl⟩
   obtain⟨c,hc,e⟩:=h2 b hb;exact⟨c,by simp[hc],e⟩⟩
theorem nJ:∀(l:List BY) (id:Nat),(∃a∈l,a.lL=id)->∃a∈l,a.lL=id∧Mach.gR l (some id)=a.l
 | [],_,h=>by simp at h
 | a::r,id,h=>by
  unfold Mach.gR;by_cases e:id=a.lL
  ·exact⟨a,by simp,e.symm,by simp[e]⟩
  obtain⟨b,hb,hv⟩:=h;rcases List.mem_cons.1 hb with rfl|hb
  ·exact absurd hv.symm e
  obtain⟨c,hc,h1,h2⟩:=nJ r id ⟨b,hb,hv⟩;exact⟨c,by simp[hc],h1,by simp[e,h2]⟩
theorem H'{u:cf}{m:Mach}(hm:dc u m){v:SV}(hv:hU u m v)(hk:v.kind=3):∃a∈m.heap,v.arr=some a.lL∧Mach.gR m.heap v.arr=a.l:=by
 obtain⟨id,e⟩:=SV.Wf.array hv hk;obtain⟨a,ha,h1,h2⟩:=nJ m.heap id (SV.Wf.ref hv id e);exact⟨a,ha,by rw[h1];exact e,by rw[e];exact h2⟩
theorem fS(m:Mach)(n:Int):(m.db n).frames=m.frames∧(m.db n).heap=m.heap∧(m.db n).out=m.out∧(m.db n).fin=m.fin∧(m.db n).val=m.val∧(m.db n).sid=m.sid∧(m.db n).next=m.next:=by
 unfold Mach.db;split<;>simp
theorem JR{m:Mach}{n:Int}(h:0<=m.left)(hn:0<=n):0<=(m.db n).left∧(m.db n).left<=m.left:=by
 unfold Mach.db;split<;>simp<;>omega
theorem zA{u:cf}{m:Mach}(hm:dc u m){x y:SV}(hy:hU u m y):dJ u m (m.bj x y):=by
 obtain⟨p1,p2,p3,p4,p5,p6,p7⟩:=fS m x.n;unfold Mach.bj;split
 ·exact dJ.same hm hU.zero (by omega)
 split
 ·exact dJ.same hm hU.zero (by omega)
 rename_i hx hr;have wU:0<=x.n∧x.n<=1024:=by omega
 obtain⟨q1,q2⟩:=JR hm.left wU.1;split
 ·rename_i hs;exact⟨p1,fun a ha=>⟨a,by rw[p2];exact ha,rfl⟩,hU.zero,by simp,fun a ha=>by
   have HN:a∈m.heap:=p2 ▸ ha;exact⟨(hm.ld a HN).1,fun v hv=>((hm.ld a HN).2 v hv).of_heap p2⟩,⟨q1,q2⟩,by rw[p3];exact hm.out,by rw[p3];exact hm.words,⟨p4,p5⟩,fun h=>by
   exfalso;unfold Mach.db at hs h;split at hs
   ·rename_i aZ;rw[if_pos aZ]at h;cases h
   rename_i aZ;rw[if_neg aZ]at h;have:=(hm.over h).2;simp only at hs;rw[this]at hs;cases hs⟩
 rename_i hs;refine⟨p1,fun a ha=>⟨a,by simp[ha],rfl⟩,?_,by simp,fun a ha=>?_,⟨q1,q2⟩,by simp only[p3];exact hm.out,by simp only[p3];exact hm.words,⟨p4,p5⟩,fun h=>⟨?_,by simpa using hs⟩⟩
 ·exact .mk (by omega) (by omega) (by omega) (fun _=>⟨_,rfl⟩) (by omega) (by simp) (fun id e=>by
   simp only[Option.some.injEq]at e;exact⟨_,List.mem_append_right _ (List.mem_singleton.2 rfl),e⟩) (by simp)
 ·have hk:∀v,hU u m v->hU u ({ m.db x.n with heap:=m.heap++[⟨m.next+8,m.next+7,List.replicate x.n.toNat y⟩],next:=m.next+9 }:Mach) v:=fun v hv=>hv.mono fun b hb=>⟨b,by simp[hb],rfl⟩
  simp only[List.mem_append,List.mem_singleton]at ha;rcases ha with ha|rfl
  ·exact⟨(hm.ld a ha).1,fun v hv=>hk v ((hm.ld a ha).2 v hv)⟩
  refine⟨by simp;omega,fun v hv=>?_⟩;rw[(List.mem_replicate.1 hv).2];exact hk y hy
 simp only at h;unfold Mach.db at h;split at h
 ·cases h
 exact h
theorem wK{u:cf}{m:Mach}(hm:dc u m){i:Ins}{args:List SV}(h:∀v∈args,hU u m v):dJ u m (m.effect i args):=by
 have w0:fG 0:=by unfold fG;omega
 have h0:=ic h 0;have h1:=ic h 1;have h2:=ic h 2;unfold Mach.effect;split
 ·split
  ·exact dJ.same hm hU.zero (by omega)
  split
  ·exact dJ.same hm hU.zero (by omega)
  rename_i hk hl;refine⟨rfl,fun a ha=>⟨a,ha,rfl⟩,hU.word w0,by simp,fun a ha=>⟨(hm.ld a ha).1,fun v hv=>((hm.ld a ha).2 v hv).of_heap rfl⟩,⟨hm.left,Int.le_refl _⟩,?_,fun n hn=>?_,⟨rfl,rfl⟩,fun h=>⟨h,(hm.over h).2⟩⟩
  ·have:=hm.out;simp;omega
  simp only[List.mem_append,List.mem_singleton]at hn;rcases hn with hn|rfl
  ·exact hm.words n hn
  exact SV.Wf.num h0 (.inl (by omega))
 split
 ·exact zA hm h1
 split
 ·split
  ·exact dJ.same hm hU.zero (by omega)
  split
  ·exact dJ.same hm hU.zero (by omega)
  exact dJ.same hm (hU.word w0) (by omega)
 split
 ·exact dJ.same hm hU.zero (by omega)
 rename_i hk;obtain⟨a,ha,e1,e2⟩:=H' hm h0 (by omega);rw[e2];have jK:=(hm.ld a ha).1;split
 ·exact dJ.same hm (hU.word (by unfold fG;omega)) (by omega)
 split
 ·exact dJ.same hm hU.zero (by omega)
 split
 ·exact dJ.same hm (ic (hm.ld a ha).2 _) (by omega)
 obtain⟨s1,s2⟩:=so m.heap (bW args 0).arr (a.l.set (bW args 1).n.toNat (bW args 2));have OB:∀v,hU u m v->hU u ({ m with heap:=Mach.jI m.heap (bW args 0).arr (a.l.set (bW args 1).n.toNat (bW args 2)) }:Mach) v:=fun v hv=>hv.mono s1;refine⟨rfl,s1,hU.word w0,by simp,fun b hb=>?_,⟨hm.left,Int.le_refl _⟩,hm.out,hm.words,⟨rfl,rfl⟩,fun h=>⟨h,(hm.over h).2⟩⟩;obtain⟨c,hc,_,_,e⟩:=s2 b hb;rcases e with e|e
 ·rw[e];exact⟨(hm.ld c hc).1,fun v hv=>OB v ((hm.ld c hc).2 v hv)⟩
 rw[e];refine⟨by simpa using jK,fun v hv=>OB v ?_⟩;rcases List.mem_or_eq_of_mem_set hv with q|q
 ·exact(hm.ld a ha).2 v q
 rw[q];exact h2
theorem sW{u:cf}{m:Mach}(hm:dc u m){i:Ins}(hi:HZ u i){args:List SV}(hl:args.length=i.args.length)(h:∀v∈args,hU u m v):dJ u m (m.exec i args):=by
 have h0:=ic h 0;unfold Mach.exec;split
 ·exact dJ.same hm (hU.word (hi.c0 (by assumption))) (by omega)
 split
 ·split
  ·exact dJ.same hm hU.zero (by omega)
  rename_i ho hk;have cA:j5 args 0=true:=by simpa using hk
  have C':=hi.c2 (.inl ho);have W7:bW args 1∈args:=by
   unfold bW;rw[List.getElem?_eq_getElem (by omega)];exact List.getElem_mem _
  simp only[j5,List.all_eq_true,decide_eq_true_eq]at cA;obtain⟨⟨n,q1,q2⟩,q3⟩:=pT i.op (bW args 0).n (bW args 1).n (SV.Wf.num (h _ W7) (.inl (cA _ W7)));have:cX i.op (bW args 0).n (bW args 1).n=(.word n,(cX i.op (bW args 0).n (bW args 1).n).2):=by rw[<-q2]
  rw[this];exact dJ.same hm (hU.word q1) q3
 split
 ·rename_i ho;exact dJ.same hm (.mk (by omega) (fun _=>(hi.Ur ho).1) (by omega) (by omega) (by omega) (by have:=(hi.Ur ho).2;omega) (by simp) h) (by omega)
 split
 ·rename_i ho;obtain⟨c1,c2,c3⟩:=hi.U8 ho;exact dJ.same hm (.mk (by omega) (by omega) (fun _=>⟨c1,c2⟩) (by omega) (by omega) (by omega) (by simp) h) (by omega)
 split
 ·obtain⟨q1,q2⟩:=uG (i:=i) h;exact dJ.same hm q1 q2
 split
 ·rename_i ho;obtain⟨q1,q2⟩:=vj (i:=i) h (fun e=>by have:=hi.pack e;omega) (fun e1 e2=>by
   have:=hi.c2 (by omega)
   match args,hl with
   | [x,y],_=>exact⟨x,y,rfl⟩
   | [],hl=>simp at hl;omega
   | [x],hl=>simp at hl;omega
   | x::y::z::r,hl=>simp at hl;omega)
  exact dJ.same hm q1 q2
 split
 ·exact dJ.same hm h0 (by omega)
 exact wK hm h
theorem B1.mono{u:cf}{m m':Mach}(h:∀a∈m.heap,∃b∈m'.heap,b.lL=a.lL){f:Fr}(k:B1 u m f):B1 u m' f :=
 ⟨k.fn,k.blk,k.pos,fun e he=>(k.vals e he).mono h⟩
theorem B1.of_heap{u:cf}{m m':Mach}(h:m'.heap=m.heap){f:Fr}(k:B1 u m f):B1 u m' f:=k.mono fun a ha=>⟨a,by rw[h];exact ha,rfl⟩
theorem gz{u:cf}{k:Int}(h0:0<=k)(h1:k<u.fns.length):bH u k∈u.fns:=List.mem_of_getElem? (kK h0 h1)
theorem eW{f:Func}{k:Int}(h0:0<=k)(h1:k<f.blocks.length):aF f k∈f.blocks:=List.mem_of_getElem? (ez h0 h1)
theorem U7{u:cf}(hu:iK u){k:Int}(h0:0<=k)(h1:k<u.fns.length):(0:Int)<=0∧(0:Int)<(bH u k).blocks.length:=by
 have:=List.length_pos_iff.2 (hu.ne _ (gz h0 h1)).1;omega
theorem dc.stop{u:cf}{m:Mach}(hm:dc u m){e n:Int}(he:0<=e∧e<=6)(hn:fG n)(hz:e≠0->n=0):dc u (m.stop e n) where
 frames:=fun f hf=>(hm.frames f hf).of_heap (by rfl)
 ld:=fun a ha=>⟨(hm.ld a ha).1,fun v hv=>((hm.ld a ha).2 v hv).of_heap (by rfl)⟩
 left:=hm.left
 depth:=hm.depth
 out:=hm.out
 words:=hm.words
 fin:=he
 val:=hn
 done:=hz
 over:=fun h=>by cases h
theorem dc.bA{u:cf}{m:Mach}(hm:dc u m){f:Fr}(bI:m.frames≠[])(hf:B1 u m f):dc u (m.bA f) where
 frames:=fun g hg=>by
  rcases List.mem_cons.1 hg with rfl|hg
  ·exact hf.of_heap (by rfl)
  exact(hm.frames g (List.mem_of_mem_tail hg)).of_heap (by rfl)
 ld:=fun a ha=>⟨(hm.ld a ha).1,fun v hv=>((hm.ld a ha).2 v hv).of_heap (by rfl)⟩
 left:=hm.left
 depth:=by
  have h1:=hm.depth;have h2:=List.length_pos_iff.2 bI;have h3:(m.bA f).frames.length=m.frames.length:=by
   simp only[Mach.bA,List.length_cons,List.length_tail];omega
  rw[h3];exact h1
 out:=hm.out
 words:=hm.words
 fin:=hm.fin
 val:=hm.val
 done:=hm.done
 over:=fun h=>⟨by simp[Mach.bA],(hm.over h).2⟩
theorem dc.enter{u:cf}{m:Mach}(hu:iK u)(hm:dc u m)(hs:m.over=false->m.short=false)(hd:m.frames.length+m.left+1<=2 ^ 40){fn:Int}(mz:0<=fn∧fn<u.fns.length){args:List SV}(ha:∀v∈args,hU u m v)(to:Int) :
  dc u (m.enter u fn args to) where
 frames:=fun g hg=>by
  rcases List.mem_cons.1 hg with rfl|hg
  ·exact⟨mz,U7 hu mz.1 mz.2,Nat.zero_le _,bindS_ok (by simp) (fun v hv=>(ha v hv).of_heap (by rfl))⟩
  exact(hm.frames g hg).of_heap (by rfl)
 ld:=fun a ha=>⟨(hm.ld a ha).1,fun v hv=>((hm.ld a ha).2 v hv).of_heap (by rfl)⟩
 left:=hm.left
 depth:=by
  simp only[Mach.enter,List.length_cons];omega
 out:=hm.out
 words:=hm.words
 fin:=hm.fin
 val:=hm.val
 done:=hm.done
 over:=fun h=>⟨by simp[Mach.enter],hs h⟩
theorem dc.follow{u:cf}{m:Mach}(hm:dc u m)(bI:m.frames≠[]){f:Fr}(hf:B1 u m f){e:Edge}(he:B0 (bH u f.fn) e):dc u (m.follow u f e) :=
 hm.bA bI ⟨hf.fn,⟨he.lo,he.hi⟩,Nat.zero_le _,bindS_ok hf.vals (qR hf.vals _)⟩
theorem dc.leave{u:cf}{m:Mach}(hm:dc u m)(bI:m.frames≠[]){f:Fr}{v:SV}(hv:hU u m v)(ho:m.over=false):dc u (m.leave f v):=by
 have hz:fG 0:=by unfold fG;omega
 unfold Mach.leave;cases ht:m.frames.tail with
 | nil =>
  simp only;have h0:dc u ({ m with frames:=[],over:=true }:Mach) :=
   ⟨by simp,fun a ha=>⟨(hm.ld a ha).1,fun v hv=>((hm.ld a ha).2 v hv).of_heap (by rfl)⟩,hm.left,by have:=hm.depth;simp;omega,hm.out,hm.words,hm.fin,hm.val,hm.done,fun h=>by cases h⟩
  refine h0.stop (e:=0) (by omega) ?_ (by simp);split
  ·exact SV.Wf.num hv (by assumption)
  exact hz
 | cons g r =>
  simp only;have hg:g∈m.frames:=List.mem_of_mem_tail (by rw[ht];simp);have hr:∀x∈r,x∈m.frames:=fun x hx=>List.mem_of_mem_tail (by rw[ht];simp[hx]);have hl:r.length+1<=m.frames.length:=by
   have h1:m.frames.tail.length=r.length+1:=by rw[ht];rfl
   simp at h1;omega
  have S3:=hm.frames g hg;exact⟨fun x hx=>by
   rcases List.mem_cons.1 hx with rfl|hx
   ·exact⟨S3.fn,S3.blk,S3.pos,fun e he=>(putS_ok S3.vals hv e he).of_heap (by rfl)⟩
   exact(hm.frames x (hr x hx)).of_heap (by rfl),fun a ha=>⟨(hm.ld a ha).1,fun v hv=>((hm.ld a ha).2 v hv).of_heap (by rfl)⟩,hm.left,by have:=hm.depth;simp only[List.length_cons];omega,hm.out,hm.words,hm.fin,hm.val,hm.done,fun h=>⟨by simp,(hm.over h).2⟩⟩
theorem wF{f:Func}{t:Term}(ht:B4 f t)(h0:t.kind≠0)(h1:t.kind≠1)(h4:t.kind≠4)(n:Int):∃e,t.to[eT t n]?=some e:=by
 have hk:=ht.kind;have aZ:eT t n<t.to.length:=by
  unfold eT;by_cases h2:t.kind=2
  ·rw[if_pos h2,ht.cond h2];split<;>omega
  rw[if_neg h2,ht.switch (by omega)];have:=List.findIdx_le_length (xs:=t.cases) (p:=(· == n));omega
 exact⟨_,List.getElem?_eq_getElem aZ⟩
theorem dc.finish{u:cf}{m:Mach}(hm:dc u m)(ho:m.over=false){f:Fr}(hf:B1 u m f){t:Term}(ht:B4 (bH u f.fn) t):dc u (m.finish u f t):=by
 have hz:fG 0:=by unfold fG;omega
 have bI:=(hm.over ho).1;unfold Mach.finish;split
 ·exact hm.stop ht.n hz (fun _=>rfl)
 rename_i h4;split
 ·rename_i h1;have hl:=ht.jump h1;have he:t.to[0]?=some (t.to[0]'(by omega)):=List.getElem?_eq_getElem _;rw[he];exact hm.follow bI hf (ht.eZ _ (List.getElem_mem _))
 rename_i h1;split
 ·exact hm.leave bI (EF hf.vals _) ho
 rename_i h0;split
 ·exact hm.stop (by omega) hz (fun _=>rfl)
 obtain⟨e,he⟩:=wF ht h0 h1 h4 (eO f.vals t.arg).n;rw[he];exact hm.follow bI hf (ht.eZ _ (List.mem_of_getElem? he))
theorem dc.settle{u:cf}{m:Mach}(hm:dc u m)(bI:m.frames≠[]){f:Fr}(hf:B1 u m f){r:Mach×SV×Int}(hr:dJ u m r)(to:Int):dc u (Mach.settle f to r):=by
 have hz:fG 0:=by unfold fG;omega
 have h1:dc u r.1:=⟨fun g hg=>(hm.frames g (hr.frames ▸ hg)).mono hr.rz,hr.ld,hr.left.1,by
  have:=hm.depth;have:=hr.left.2;rw[hr.frames];omega,hr.out,hr.words,by rw[hr.fin.1];exact hm.fin,by rw[hr.fin.2];exact hm.val,by rw[hr.fin.1,hr.fin.2];exact hm.done,fun h=>⟨by rw[hr.frames];exact bI,(hr.over h).2⟩⟩
 have dp:B1 u r.1 f:=hf.mono hr.rz;have Tq:r.1.frames≠[]:=by rw[hr.frames];exact bI
 unfold Mach.settle;split
 ·refine(h1.stop hr.Q7 hz (fun _=>rfl)).bA Tq ?_;have hfr':B1 u (r.1.stop r.2.2 0) f:=dp.of_heap (by rfl);exact⟨hfr'.fn,hfr'.blk,hfr'.pos,putS_ok hfr'.vals (hr.val.of_heap (by rfl))⟩
 exact h1.bA Tq ⟨dp.fn,dp.blk,dp.pos,putS_ok dp.vals hr.val⟩
theorem dc.step{u:cf}{m:Mach}(hu:iK u)(hm:dc u m)(ho:m.over=false)(hd:m.frames.length+m.left+1<=2 ^ 40):dc u (m.step u):=by
 have hz:fG 0:=by unfold fG;omega
 obtain⟨bI,jT⟩:=hm.over ho;unfold Mach.step;cases dp:m.frames with
 | nil=>exact absurd dp bI
 | cons f r =>
  have hf:=hm.frames f (by rw[dp];simp);have hF:=gz hf.fn.1 hf.fn.2;have hB:=eW hf.blk.1 hf.blk.2;have hb:=hu.blocks _ hF _ hB;simp only;cases hi:(aF (bH u f.fn) f.blk).ins[f.pos]? with
  | none=>exact hm.finish ho hf hb.term
  | some i =>
   simp only;have za:=hb.ins i (List.mem_of_getElem? hi);have aZ:=I hi;have l4:B1 u m { f with pos:=f.pos+1 }:=⟨hf.fn,hf.blk,aZ,hf.vals⟩
   have h1:=hm.bA bI l4;have Gy:B1 u (m.bA { f with pos:=f.pos+1 }) { f with pos:=f.pos+1 }:=l4.of_heap (by rfl);have Rz:(m.bA { f with pos:=f.pos+1 }).frames.length=m.frames.length:=by
    simp[Mach.bA,dp]
   have ha:=qR Gy.vals i.args;have jK:=oo f.vals i.args;unfold Mach.act;split
   ·rename_i Am;obtain⟨c1,c2,c3⟩:=za.call Am;exact h1.enter hu (fun _=>jT) (by rw[Rz];exact hd) ⟨c1,c2⟩ ha _
   split
   ·split
    ·rename_i hk;exact h1.enter hu (fun _=>jT) (by rw[Rz];exact hd) (SV.Wf.fn (ic ha 0) hk.1) ha _
    exact h1.stop (by omega) hz (fun _=>rfl)
   exact h1.settle (by simp[Mach.bA]) Gy (sW h1 za jK ha) _
theorem xA(u:cf)(m:Mach)(hm:dc u m)(hu:iK u)(ho:m.over=false):(m.step u).left<=m.left:=by
 obtain⟨bI,jT⟩:=hm.over ho;have PY:∀(m:Mach) f v,(m.leave f v).left=m.left:=fun m f v=>by
  unfold Mach.leave;split<;>rfl
 unfold Mach.step;cases dp:m.frames with
 | nil=>exact absurd dp bI
 | cons f r =>
  have hf:=hm.frames f (by rw[dp];simp);have hb:=hu.blocks _ (gz hf.fn.1 hf.fn.2) _ (eW hf.blk.1 hf.blk.2);simp only;cases hi:(aF (bH u f.fn) f.blk).ins[f.pos]? with
  | none =>
   simp only;unfold Mach.finish
   repeat' split
   all_goals first
    | exact Int.le_refl _
    | exact Int.le_of_eq (PY _ _ _)
  | some i =>
   simp only;have za:=hb.ins i (List.mem_of_getElem? hi);have aZ:=I hi;have l4:B1 u m { f with pos:=f.pos+1 }:=⟨hf.fn,hf.blk,aZ,hf.vals⟩
   have h1:=hm.bA bI l4;unfold Mach.act;split
   ·exact Int.le_refl _
   split
   ·split<;>exact Int.le_refl _
   have hx:=sW h1 za (oo f.vals i.args) (qR (fun e he=>(hf.vals e he).of_heap (by rfl)) i.args);have hl:=hx.left.2;unfold Mach.settle;split<;>exact hl
def lE(cs:List ae)(n:Nat)(id:Nat):List ae:=cs.take n++[.mp id 0]
theorem lj(a b c:Nat):(ae.os a b c).cells=[.os a b c]:=rfl
theorem rY(a b:Nat):ao [.mp a b]=[.mp a b]:=rfl
theorem CS{u:cf}{m:Mach}{O:List al}(br:∀o∈O,o.upto O.length)(h0:O[2]?=some (.cells (az u m))){cs:List ae}(dz:O[m.sid]?=some (.cells cs))(gn:m.frames.length<=cs.length)(bI:m.sid≠2)(hN:O.length=m.next)
  (hd:m.frames.length<=2 ^ 41) (fn:Int) (mz:0<=fn∧fn<u.fns.length) (hb:(bH u fn).blocks≠[]) (args:List SV) (hl:∀v∈args,SV.bc O.length v) (hp:(aF (bH u fn) 0).params.length=args.length) (to:Int) :
  ba Tryz.prog 81 O [.mp 2 0,aI fn,.aB 4 (args.map SV.enc) .sh,aI to] (fun r O'=>r=.cK []∧O'=((O.set m.sid .gone).set 2 (.cells (az u (m.enter u fn args to)))) ++
   [.map (.int .i64) ((cL [] (aF (bH u fn) 0).params args).map gd),.cells [aI fn,aI 0,aI 0,aI to,.mm O.length],.cells (lE cs m.frames.length (O.length+1))]):=by
 have hF:=kK mz.1 mz.2;have hB:=ez (f:=bH u fn) (k:=0) (by omega) (by
  have:=List.length_pos_iff.2 hb;omega)
 generalize Uv:aF (bH u fn) 0=B at *;generalize YH:bH u fn=F at *;have hB:F.blocks[0]?=some B:=hB;have vn:∀X,(O++X)[2]?=some (.cells (az u m)):=fun X=>cj h0;unfold az at vn;have ef:=I h0;have Wv:∀X,(O++X)[m.sid]?=some (.cells cs):=fun X=>cj dz;have Rv:(O.set m.sid .gone)[2]?=some (.cells (az u m)):=bm h0 bI;have e1:∀X,(O++X).set m.sid .gone=O.set m.sid .gone++X:=fun X=>kk dz;have e2:∀X,(O.set m.sid .gone++X)[2]?=some (.cells (az u m)):=fun X=>cj Rv;have e3:∀X y,(O.set m.sid .gone++X).set 2 y=(O.set m.sid .gone).set 2 y++X:=fun X y=>kk Rv;unfold az at e2;have Rz:m.frames.length*1<=cs.length:=by omega
 have dN:((m.frames.length:Nat):Int)+1=((m.frames.length+1:Nat):Int):=by omega
 have RD:[a7 u.fns,aI u.main,.os (O.length+2) (m.frames.length+1) 1,aI m.left,.v (.bool m.short),.v (.bool m.over),.aB 1 (m.out.map aI) (.tok 3),aI m.fin,aI m.val]=az u (m.enter u fn args to):=by
  simp[az,Mach.enter,hN]
 have eS:=bg (n:=O.length+3) (ds:=az u (m.enter u fn args to)) (bR (k:=m.sid) (x:=.gone) (fun o ho=>al.cE (by omega) (br o ho)) trivial) Rv (fun h=>by
  simp only[az,au,ae.upto,av,Func.ag,true_and,and_true,Mach.enter]at h ⊢;omega)
 obtain⟨O2,s6⟩:∃O2,O2=(O.set m.sid .gone).set 2 (.cells (az u (m.enter u fn args to))):=⟨_,rfl⟩
 have hlen:O.length=O2.length:=by rw[s6];simp
 simp only[<-s6]at eS ⊢;rw[hlen]at eS;refine zf true (O.length+3) Tryz.func81 Tryz.ntmps81 ?_;dsimp only[Tmp,TypeId,slotsOf];refine ay (ah ?_);refine cJ ?_;simp -dsimp only[simprocAttr,↓aa,zp,vn,hF,hB]
 repeat(refine⟨by omega,?_⟩)
 refine ah ?_;refine fp 2 rfl (fun jK=>?_);simp only[List.length_map]at jK;refine ai (aO (ι:={j:Nat // j<=B.params.length}) (fun j=>⟨54,[(0,.mp 2 0),(2,.aB 4 (args.map SV.enc) .sh),(8,.mp (O.length+1) 0),(27,aT B.params),(28,aI B.params.length),(29,aI j.1)],O++[.map (.int .i64) ((cL [] (B.params.take j.1) (args.take j.1)).map gd),.cells [aI fn,aI 0,aI 0,aI to,.mm O.length]]⟩) (fun j=>B.params.length-j.1) ⟨0,by omega⟩ ?_ ?_)
 ·refine zq rfl ?_ ?_;simp -dsimp only[simprocAttr,↓aa,zp,zc];rw[tB];rfl
 rintro⟨j,hj⟩;refine ay (ah ?_);apply ib rfl<;>intro h
 ·refine cm ?_;have aZ:j<B.params.length:=by simpa using h
  obtain⟨p,hp⟩:∃p,B.params[j]?=some p:=⟨B.params[j],by simp[aZ]⟩
  obtain⟨a,ha⟩:∃a,args[j]?=some a:=⟨args[j]'(by omega),List.getElem?_eq_getElem _⟩
  refine aH (ai ?_);refine aS ?_;simp -dsimp only[simprocAttr,↓aa,zp,hp];refine ah ?_;refine j4 ?_;simp -dsimp only[simprocAttr,↓aa,zp,ha,qG,<-oY hp ha]
  repeat(refine⟨by omega,?_⟩)
  refine⟨ob (by kernel_rfl),?_⟩;refine ah ?_;refine cF ?_
  repeat(refine⟨by omega,?_⟩)
  refine fw ?_;refine⟨⟨j+1,aZ⟩,by simp;omega,?_⟩;refine zq rfl ?_ ?_;simp -dsimp only[simprocAttr,↓aa,zp,zc]
  ·exact Sub.int (by simp)
  rfl
 refine aG ?_;simp -dsimp only[bD,ne_eq,Nat.reduceEqDiff,reduceCtorEq];have ru:j=B.params.length:=by simp at h;omega
 subst ru;have EG:args.take B.params.length=args:=List.take_of_length_le (by omega);refine Oa ?_;simp -dsimp only[simprocAttr,↓aa,zp,vn,EG,List.take_length,Wv,e1,e2,e3,Rz,List.length_set,lj,RD,<-s6];refine⟨by omega,by omega,trivial,?_⟩;refine aV ?_;simp -dsimp only[simprocAttr,↓aa,zp,zr,Tryz.results81,oq,hlen,rY];refine⟨fun o ho=>?_,trivial,by simp[lE]⟩;rcases List.mem_append.1 ho with ho|ho
 ·exact eS o ho
 have vL:=br _ (List.mem_of_getElem? dz);simp only[al.upto,bZ]at vL;simp only[List.mem_cons,List.mem_nil_iff,or_false]at ho;rcases ho with rfl|rfl|rfl
 ·refine z7 fun x hx=>?_;rcases lx hx with q|q
  ·simp at q
  exact(hl _ q).mono (by omega)
 ·simp[al.upto,au,ae.upto]
 simp only[al.upto,bZ];intro x hx;rcases List.mem_append.1 hx with q|q
 ·exact ae.cE (by omega) _ (vL x (List.mem_of_mem_take q))
 simp only[List.mem_singleton]at q;subst q;simp[ae.upto]
def yp(u:cf)(fuel:Int):List ae:=[a7 u.fns,aI u.main,.aB 1 [] .ex,aI fuel,.v (.bool false),.v (.bool false),.aB 1 [] (.tok 3),aI 0,aI 0]
theorem z8{u:cf}{fuel:Int}(EO:0<=u.main∧u.main<u.fns.length)(hb:(bH u u.main).blocks≠[])(hp:(aF (bH u u.main) 0).params=[])(sz:Nat)(ow:pP) :
  ba Tryz.prog 81 [.gone,.cells [.aB 1 [] .ex,aI 0,aI 0],.cells (yp u fuel),.spare 0] [.mp 2 0,aI u.main,.aB sz [] ow,aI 0] (fun r O'=>r=.cK []∧O'=[.gone,.cells [.aB 1 [] .ex,aI 0,aI 0],.cells (az u ((Mach.start fuel).enter u u.main [] 0)),.spare 0,.map (.int .i64) [],.cells [aI u.main,aI 0,aI 0,aI 0,.mm 4],.cells [.mp 5 0]]):=by
 have hF:=kK EO.1 EO.2;have hB:=ez (f:=bH u u.main) (k:=0) (by omega) (by
  have:=List.length_pos_iff.2 hb;omega)
 have RD:az u ((Mach.start fuel).enter u u.main [] 0)=[a7 u.fns,aI u.main,.os 6 1 1,aI fuel,.v (.bool false),.v (.bool false),.aB 1 [] (.tok 3),aI 0,aI 0]:=by
  simp[az,Mach.enter,Mach.start]
 rw[RD];unfold yp;generalize Uv:aF (bH u u.main) 0=B at *;generalize YH:bH u u.main=F at *;have hB:F.blocks[0]?=some B:=hB;have s7:B.params.length=0:=by rw[hp];rfl
 refine zf true 7 Tryz.func81 Tryz.ntmps81 ?_;dsimp only[Tmp,TypeId,slotsOf];refine ay (ah ?_);refine cJ ?_;simp -dsimp only[simprocAttr,↓aa,zp,hF,hB]
 repeat(refine⟨by omega,?_⟩)
 refine ah ?_;refine ai (aO (ι:=Unit) (fun _=>⟨54,[(0,.mp 2 0),(8,.mp 5 0),(27,aT B.params),(28,aI 0),(29,aI 0)],[.gone,.cells [.aB 1 [] .ex,aI 0,aI 0],.cells [a7 u.fns,aI u.main,.aB 1 [] .ex,aI fuel,.v (.bool false),.v (.bool false),.aB 1 [] (.tok 3),aI 0,aI 0],.spare 0,.map (.int .i64) [],.cells [aI u.main,aI 0,aI 0,aI 0,.mm 4]]⟩) (fun _=>0) () ?_ ?_)
 ·refine zq rfl ?_ ?_;simp -dsimp only[simprocAttr,↓aa,zp,zc]
  ·exact Sub.int (by simp[s7])
  rfl
 rintro⟨⟩;refine ay (ah ?_);apply ib rfl<;>intro h
 ·simp at h
 refine aG ?_;simp -dsimp only[bD,ne_eq,Nat.reduceEqDiff,reduceCtorEq];refine Oa ?_;simp -dsimp only[simprocAttr,↓aa,zp,lj,rY];refine⟨trivial,?_⟩;refine aV ?_;simp -dsimp only[simprocAttr,↓aa,zp,zr,Tryz.results81];refine⟨?_,trivial⟩;simp[al.upto,au,nz,ae.upto,Func.ag]
theorem Dl{u:cf}{m:Mach}{O:List al}(br:∀o∈O,o.upto O.length)(h0:O[2]?=some (.cells (az u m)))(f:Fr)(dp:m.frames=[f])(gp:f.bL<O.length)(v:SV)(hv:SV.bc O.length v) :
  ba Tryz.prog 130 O [.mp 2 0,.mp f.bL 0,v.enc] (fun r O'=>r=.cK []∧O'=O.set 2 (.cells (az u (m.leave f v)))):=by
 have oC:=hv.aL;rw[SV.fu]at oC;have ef:=I h0;have P9:[a7 u.fns,aI u.main,.os m.sid 0 1,aI m.left,.v (.bool m.short),.v (.bool m.over),.aB 1 (m.out.map aI) (.tok 3),aI m.fin,aI m.val]=az u { m with frames:=[] }:=rfl;have Lh:=dh h0;have lp:O[2]?=some (.cells [a7 u.fns,aI u.main,.os m.sid 1 1,aI m.left,.v (.bool m.short),.v (.bool m.over),.aB 1 (m.out.map aI) (.tok 3),aI m.fin,aI m.val]):=by
  rw[h0];unfold az;rw[dp];rfl
 obtain⟨O1,dD⟩:∃O1,O1=O.set 2 (.cells (az u { m with frames:=[] })):=⟨_,rfl⟩
 have hlen:O.length=O1.length:=by rw[dD];simp
 have Gq:O1[2]?=some (.cells (az u { m with frames:=[] })):=by rw[dD];exact Lh _
 have eg:∀o∈O1,o.upto O1.length:=by
  rw[<-hlen,dD];exact bg br h0 (fun h=>bS h rfl)
 have js:=fun e n=>jZ eg Gq e n;have PQ:∀n:Int,O1.set 2 (.cells (az u (({ m with frames:=[] }:Mach).stop 0 n)))=O.set 2 (.cells (az u (({ m with frames:=[] }:Mach).stop 0 n))):=fun n=>by
  rw[dD,List.set_set]
 have eS:∀n:Int,∀o∈O.set 2 (.cells (az u (({ m with frames:=[] }:Mach).stop 0 n))),o.upto O.length:=fun n=>bg br h0 (fun h=>bS h rfl);have oJ:O1[2]?=some (.cells [a7 u.fns,aI u.main,.os m.sid 0 1,aI m.left,.v (.bool m.short),.v (.bool m.over),.aB 1 (m.out.map aI) (.tok 3),aI m.fin,aI m.val]):=Gq;have dS:m.leave f v=({ m with frames:=[] }:Mach).stop 0 (if v.kind=0∨v.kind=1 then v.n else 0):=by
  unfold Mach.leave;rw[dp];rfl
 rw[dS];have jH:∀x,(O.set 2 x).take O1.length=O.set 2 x:=fun x=>by rw[<-hlen];exact bX
 by_cases hk:v.kind=0∨v.kind=1
 ·rw[if_pos hk];rcases(show v.kind=0∨(v.kind≠0∧v.kind=1) by omega)with e|⟨e,e1⟩
  ·have hd:decide (v.kind=0)=true:=decide_eq_true e;refine zf true O.length Tryz.func130 Tryz.ntmps130 ?_;dsimp only[Tmp,TypeId,slotsOf];refine ay (ah ?_);refine aJ 5 ([aI v.kind,aI v.n,.aB 4 (v.list.map SV.enc) .sh,eP v.arr]) [(0,.mp 2 0),(1,.mp f.bL 0),(5,.ip none [aI v.kind,aI v.n,.aB 4 (v.list.map SV.enc) .sh,eP v.arr])] rfl (by simp only[List.map_cons,List.map_nil,cy,b8,dw,dx,dv,dt,du,cr]) (by omega) (by simp[bq,aY,Go.Av.look]) ?_ ?_ ?_
   ·exact br
   ·simp only[ae.upto]at oC;simp[ae.upto,gp,ef,oC]
   refine aS ?_;simp -dsimp only[simprocAttr,↓aa,zp,lp,lj,P9,<-dD];refine⟨trivial,?_⟩;refine⟨ob (by kernel_rfl),?_⟩;refine ah ?_;refine cJ ?_;simp -dsimp only[simprocAttr,↓aa,zp,oJ];refine ah ?_;refine cd rfl ?_;refine cm ?_;refine ay (ah ?_);refine cJ ?_;simp -dsimp only[simprocAttr,↓aa,zp,hd];refine ah ?_;refine cN rfl ?_;refine cF (ah ?_);refine cF ?_;refine .inr (.inl ⟨_,_,js 0 v.n,.inl (an ?_)⟩);simp -dsimp only[simprocAttr,↓aa,zp,hlen,PQ];refine aV ?_;simp -dsimp only[simprocAttr,↓aa,zp,zr,Tryz.results130,hlen,List.take_length,List.length_set,jH];exact⟨by rw[<-hlen];exact eS v.n,trivial⟩
  have hd:decide (v.kind=0)=false:=decide_eq_false e;have lK:decide (v.kind=1)=true:=decide_eq_true e1;refine zf true O.length Tryz.func130 Tryz.ntmps130 ?_;dsimp only[Tmp,TypeId,slotsOf];refine ay (ah ?_);refine aJ 5 ([aI v.kind,aI v.n,.aB 4 (v.list.map SV.enc) .sh,eP v.arr]) [(0,.mp 2 0),(1,.mp f.bL 0),(5,.ip none [aI v.kind,aI v.n,.aB 4 (v.list.map SV.enc) .sh,eP v.arr])] rfl (by simp only[List.map_cons,List.map_nil,cy,b8,dw,dx,dv,dt,du,cr]) (by omega) (by simp[bq,aY,Go.Av.look]) ?_ ?_ ?_
  ·exact br
  ·simp only[ae.upto]at oC;simp[ae.upto,gp,ef,oC]
  refine aS ?_;simp -dsimp only[simprocAttr,↓aa,zp,lp,lj,P9,<-dD];refine⟨trivial,?_⟩;refine⟨ob (by kernel_rfl),?_⟩;refine ah ?_;refine cJ ?_;simp -dsimp only[simprocAttr,↓aa,zp,oJ];refine ah ?_;refine cd rfl ?_;refine cm ?_;refine ay (ah ?_);refine cJ ?_;simp -dsimp only[simprocAttr,↓aa,zp,hd,lK];refine ah ?_;refine cN rfl ?_;refine cF (ah ?_);refine cF ?_;refine .inr (.inl ⟨_,_,js 0 v.n,.inl (an ?_)⟩);simp -dsimp only[simprocAttr,↓aa,zp,hlen,PQ];refine aV ?_;simp -dsimp only[simprocAttr,↓aa,zp,zr,Tryz.results130,hlen,List.take_length,List.length_set,jH];exact⟨by rw[<-hlen];exact eS v.n,trivial⟩
 rw[if_neg hk];have hd:decide (v.kind=0)=false:=decide_eq_false (by omega);have lK:decide (v.kind=1)=false:=decide_eq_false (by omega);refine zf true O.length Tryz.func130 Tryz.ntmps130 ?_;dsimp only[Tmp,TypeId,slotsOf];refine ay (ah ?_);refine aJ 5 ([aI v.kind,aI v.n,.aB 4 (v.list.map SV.enc) .sh,eP v.arr]) [(0,.mp 2 0),(1,.mp f.bL 0),(5,.ip none [aI v.kind,aI v.n,.aB 4 (v.list.map SV.enc) .sh,eP v.arr])] rfl (by simp only[List.map_cons,List.map_nil,cy,b8,dw,dx,dv,dt,du,cr]) (by omega) (by simp[bq,aY,Go.Av.look]) ?_ ?_ ?_
 ·exact br
 ·simp only[ae.upto]at oC;simp[ae.upto,gp,ef,oC]
 refine aS ?_;simp -dsimp only[simprocAttr,↓aa,zp,lp,lj,P9,<-dD];refine⟨trivial,?_⟩;refine⟨ob (by kernel_rfl),?_⟩;refine ah ?_;refine cJ ?_;simp -dsimp only[simprocAttr,↓aa,zp,oJ];refine ah ?_;refine cd rfl ?_;refine cm ?_;refine ay (ah ?_);refine cJ ?_;simp -dsimp only[simprocAttr,↓aa,zp,hd,lK];refine ah ?_;refine cd rfl ?_;refine cm ?_;refine cF ?_;refine .inr (.inl ⟨_,_,js 0 0,.inl (an ?_)⟩);simp -dsimp only[simprocAttr,↓aa,zp,hlen,PQ];refine aV ?_;simp -dsimp only[simprocAttr,↓aa,zp,zr,Tryz.results130,hlen,List.take_length,List.length_set,jH];exact⟨by rw[<-hlen];exact eS 0,trivial⟩
theorem Dn{u:cf}{m:Mach}{O:List al}(br:∀o∈O,o.upto O.length)(h0:O[2]?=some (.cells (az u m)))(f g:Fr)(r:List Fr)(dp:m.frames=f::g::r)(hf:O[f.bL]?=some (.cells (aQ f)))
  (hg:O[g.bL]?=some (.cells (aQ g))) (Zr:O[g.c8]?=some (.map (.int .i64) (g.vals.map gd))) (UH:∀e∈g.vals,SV.bc O.length e.2) {cs:List ae} (dz:O[m.sid]?=some (.cells cs)) (gn:cs[r.length]?=some (.mp g.bL 0))
  (Lh:m.sid≠2) (AK:r.length<=2 ^ 40) (SY:f.bL≠2) (Rv:g.bL≠2) (lp:g.c8≠2) (v:SV) (hv:SV.bc O.length v) :
  ba Tryz.prog 130 O [.mp 2 0,.mp f.bL 0,v.enc] (fun r O'=>r=.cK []∧O'=(O.set 2 (.cells (az u (m.leave f v)))).set g.c8 (.map (.int .i64) ((dg g.vals f.to v).map gd))):=by
 have oC:=hv.aL;rw[SV.fu]at oC;have ef:=I h0;have gp:=I hf;have dS:az u (m.leave f v)=[a7 u.fns,aI u.main,.os m.sid (r.length+1) 1,aI m.left,.v (.bool m.short),.v (.bool m.over),.aB 1 (m.out.map aI) (.tok 3),aI m.fin,aI m.val]:=by
  simp[Mach.leave,dp,az]
 have hm:O[2]?=some (.cells [a7 u.fns,aI u.main,.os m.sid (r.length+1+1) 1,aI m.left,.v (.bool m.short),.v (.bool m.over),.aB 1 (m.out.map aI) (.tok 3),aI m.fin,aI m.val]):=by
  rw[h0];unfold az;rw[dp];rfl
 obtain⟨O1,dD⟩:∃O1,O1=O.set 2 (.cells (az u (m.leave f v))):=⟨_,rfl⟩
 have hlen:O.length=O1.length:=by rw[dD];simp
 have hs:=dh h0;have Gq:O1[2]?=some (.cells (az u (m.leave f v))):=by rw[dD];exact hs _
 have Qh:O1[m.sid]?=some (.cells cs):=by rw[dD];exact bm dz Lh.symm
 have l4:O1[f.bL]?=some (.cells (aQ f)):=by rw[dD];exact bm hf SY.symm
 have ln:O1[g.bL]?=some (.cells (aQ g)):=by rw[dD];exact bm hg Rv.symm
 have VN:O1[g.c8]?=some (.map (.int .i64) (g.vals.map gd)):=by rw[dD];exact bm Zr lp.symm
 have eg:∀o∈O1,o.upto O1.length:=by
  rw[<-hlen,dD];refine bg br h0 (fun h=>bS h ?_);simp[Mach.leave,dp]
 rw[<-dD];have eS:∀o∈O1.set g.c8 (.map (.int .i64) ((dg g.vals f.to v).map gd)),o.upto O1.length:=by
  refine bR eg (z7 fun x hx=>?_);rw[<-hlen];rcases jY hx with q|q
  ·exact UH x q
  rw[q];exact hv
 have jH:∀x,(O1.set g.c8 x).take O1.length=O1.set g.c8 x:=fun x=>bX;have sK:[a7 u.fns,aI u.main,.os m.sid (r.length+1) 1,aI m.left,.v (.bool m.short),.v (.bool m.over),.aB 1 (m.out.map aI) (.tok 3),aI m.fin,aI m.val]=az u (m.leave f v):=dS.symm;rw[dS]at Gq;unfold aQ at l4 ln;have r8:((r.length+1+1:Nat):Int)-1=((r.length+1:Nat):Int):=by omega
 have HT:((r.length+1:Nat):Int)-1=(r.length:Nat):=by omega
 have UP:decide ((0:Int)<((r.length+1:Nat):Int))=true:=decide_eq_true (by omega);refine zf true O.length Tryz.func130 Tryz.ntmps130 ?_;dsimp only[Tmp,TypeId,slotsOf];refine ay (ah ?_);refine aJ 5 ([aI v.kind,aI v.n,.aB 4 (v.list.map SV.enc) .sh,eP v.arr]) [(0,.mp 2 0),(1,.mp f.bL 0),(5,.ip none [aI v.kind,aI v.n,.aB 4 (v.list.map SV.enc) .sh,eP v.arr])] rfl (by simp only[List.map_cons,List.map_nil,cy,b8,dw,dx,dv,dt,du,cr]) (by omega) (by simp[bq,aY,Go.Av.look]) ?_ ?_ ?_
 ·exact br
 ·simp only[ae.upto]at oC;simp[ae.upto,gp,ef,oC]
 refine aS ?_;simp -dsimp only[simprocAttr,↓aa,zp,hm,lj,r8,Int.toNat_natCast,sK,<-dD]
 repeat(refine⟨by omega,?_⟩)
 refine⟨trivial,?_⟩;refine⟨ob (by kernel_rfl),?_⟩;refine ah ?_;refine cJ ?_;simp -dsimp only[simprocAttr,↓aa,zp,Gq,UP];refine ah ?_;refine cN rfl ?_;refine aS ?_;simp -dsimp only[simprocAttr,↓aa,zp,Gq,Qh,HT,Nat.mul_one,gn,l4,ln,VN,qG]
 repeat(refine⟨by omega,?_⟩)
 refine⟨ob (by kernel_rfl),?_⟩;refine ah ?_;refine aq ?_;simp -dsimp only[simprocAttr,↓aa,zp,zr,Tryz.results130,hlen,jH,List.length_set];exact⟨eS,trivial⟩
end Go.Proofs.YtjdnhamngpafmaaGreat
