/-
  Texts bound together by a program of mine: YtjdnhamngpafmaaGreatT9, YtjdnhamngpafmaaGreatT10, YtjdnhamngpafmaaGreatT26, YtjdnhamngpafmaaGreatT11, YtjdnhamngpafmaaGreatT12, YtjdnhamngpafmaaGreatT13, YtjdnhamngpafmaaGreatT14, YtjdnhamngpafmaaGreatT15, YtjdnhamngpafmaaGreatT16, YtjdnhamngpafmaaGreatT17, YtjdnhamngpafmaaGreatT27, YtjdnhamngpafmaaGreatT28, YtjdnhamngpafmaaGreatT29, YtjdnhamngpafmaaGreatT31, YtjdnhamngpafmaaGreatT32, YtjdnhamngpafmaaGreatT33, YtjdnhamngpafmaaGreatPp, YtjdnhamngpafmaaGreatPq, YtjdnhamngpafmaaGreatT34, YtjdnhamngpafmaaGreatT35, YtjdnhamngpafmaaGreatPn, YtjdnhamngpafmaaGreatT36, YtjdnhamngpafmaaGreatPs, YtjdnhamngpafmaaGreatPt, YtjdnhamngpafmaaGreatT18, YtjdnhamngpafmaaGreatT19.
-/
import Derived.Test.YtjdnhamngpafmaaGreatB2
import Derived.Laws.Closers25b
set_option linter.all false
set_option maxRecDepth 100000
set_option maxHeartbeats 4000000

namespace Go.Proofs.YtjdnhamngpafmaaGreat
open Go.Av
theorem yg{op:Int}:∀{l r:List SV} {k:Nat} {x y:SV},l[k]?=some x->r[k]?=some y->ku op (l.take (k+1)) (r.take (k+1))=ku op (l.take k) (r.take k)++[(db op x.n y.n).1]
 | a::l,b::r,0,x,y,h1,h2=>by
  simp only[List.getElem?_cons_zero,Option.some.injEq]at h1 h2;subst h1;subst h2;simp[ku]
 | a::l,b::r,k+1,x,y,h1,h2=>by
  have ih:=yg (op:=op) (l:=l) (r:=r) (k:=k) (by simpa using h1) (by simpa using h2);simp only[List.take_succ_cons,ku,List.cons_append];rw[ih]
theorem vR{op:Int}:∀(l r:List SV),(ku op l r).length=min l.length r.length
 | [],_=>by simp[ku]
 | _::_,[]=>by simp[ku]
 | a::l,b::r=>by simp[ku,vR l r]
theorem px(k:Nat)(op a b:Int):SV.bk k (db op a b).1:=by
 unfold db
 repeat' split
 all_goals exact vQ _ _
theorem qp{op:Int}{k:Nat}:∀(l r:List SV),∀v∈ku op l r,SV.bk k v
 | [],_,v,h=>by simp[ku]at h
 | _::_,[],v,h=>by simp[ku]at h
 | a::l,b::r,v,h=>by
  simp only[ku,List.mem_cons]at h;rcases h with rfl|h
  ·exact px _ _ _ _
  exact qp l r v h
theorem BY{O:List ai}(br:∀o∈O,o.upto O.length)(i:Ins)(args:List SV)(hl:∀v∈args,SV.bk O.length v)(h1:i.op=24->∃x,args[0]?=some x)(h2:i.op≠22->i.op≠24->∃x y,args=[x,y])
  (hn:i.op=24->0<=i.n) (hw:∀v∈args,v.kind=4->v.list.length<=1000∧∀x∈v.list,fA x.n) :
  bh Tryz.prog 136 O [i.enc,.aB 4 (args.map SV.enc) .sh] (fun r O'=>r=.cx [(dc i args).1.enc,aI (dc i args).2]∧O'=O):=by
 have Qk:∀l:List SV,ae.agg [aI 4,aI 0,.aB 4 (l.map SV.enc) .sh,.v (.pointer none)]=(SV.mk 4 0 l none).enc:=fun l=>(SV.jd 4 0 l none).symm;refine zf true O.length Tryz.func136 Tryz.ntmps136 ?_;dsimp only[Tmp,TypeId,slotsOf];refine az (ah ?_);refine bZ 2 0 ([aI i.to,aI i.op,aI i.n,a7 i.args]) rfl rfl (by rfl) ?_;simp -dsimp only[simprocAttr,↓aa,zp];refine ck (ah ?_);refine ag ?_;refine az (ah ?_);apply aP rfl<;>intro h
 ·have e:i.op=22:=by simpa using h
  refine ck ?_;refine .inr (.inr ⟨_,yl br args hl 0 _,ao (zj ?_)⟩);refine ah ?_;cases cB:kC args 0 with
  | true =>
   apply aP rfl<;>intro h
   ·simp[cB]at h
   refine ct ?_;refine az (ah ?_);refine aq ?_;simp -dsimp only[simprocAttr,↓aa,zp,zr,Tryz.results136,Qk];have hz:=(SV.bk.mk (k:=4) (m:=0) (a:=none) (by simp) hl).aL;rw[SV.jd]at hz;refine⟨br,⟨hz,trivial,trivial⟩,?_⟩;simp[dc,e,cB,SV.jd]
  | false =>
   apply aP rfl<;>intro h
   ·refine az (ah ?_);refine aq ?_;simp -dsimp only[simprocAttr,↓aa,zp,zr,Tryz.results136,cj];refine⟨br,fu,?_⟩;simp[dc,e,cB]
   simp[cB]at h
 have Lf:i.op≠22:=by simpa using h
 refine az (ah ?_);apply aP rfl<;>intro h
 ·have e:i.op=24:=by simpa using h
  obtain⟨x,hx⟩:=h1 e;have qZ:=fD hx;have z6:=hn e;have E1:=hl x (List.mem_of_getElem? hx);by_cases hk:x.kind=4
  ·have hd:decide (x.kind=4)=true:=decide_eq_true hk;by_cases hlen:(x.list.length:Int)<=i.n
   ·have mN:decide ((x.list.length:Int)<=i.n)=true:=decide_eq_true hlen;refine cK ?_;simp -dsimp only[simprocAttr,↓aa,zp,hx,hd,mN];refine⟨ob (by kernel_rfl),?_⟩;refine ah ?_;refine cY rfl ?_;refine az (ah ?_);refine aq ?_;simp -dsimp only[simprocAttr,↓aa,zp,zr,Tryz.results136,cj];refine⟨br,fu,?_⟩;simp[dc,e,qZ,hlen]
   have mN:decide ((x.list.length:Int)<=i.n)=false:=decide_eq_false hlen;obtain⟨z,hz⟩:∃z,x.list[i.n.toNat]?=some z:=⟨x.list[i.n.toNat]'(by omega),List.getElem?_eq_getElem _⟩
   have MN:=m9 E1 z (List.mem_of_getElem? hz);have SY:=fD hz;refine cK ?_;simp -dsimp only[simprocAttr,↓aa,zp,hx,hd,mN];refine⟨ob (by kernel_rfl),?_⟩;refine ah ?_;refine cm rfl ?_;refine ct ?_;refine aU ?_;simp -dsimp only[simprocAttr,↓aa,zp,hx,hz]
   repeat(refine⟨by omega,?_⟩)
   refine⟨ob (by kernel_rfl),?_⟩;refine ah ?_;refine aq ?_;simp -dsimp only[simprocAttr,↓aa,zp,zr,Tryz.results136];refine⟨br,vz MN,?_⟩;simp[dc,e,qZ,hlen,hk,SY]
  have hd:decide (x.kind=4)=false:=decide_eq_false hk;refine cK ?_;simp -dsimp only[simprocAttr,↓aa,zp,hx,hd];refine⟨ob (by kernel_rfl),?_⟩;refine ah ?_;refine cY rfl ?_;refine az (ah ?_);refine aq ?_;simp -dsimp only[simprocAttr,↓aa,zp,zr,Tryz.results136,cj];refine⟨br,fu,?_⟩;simp[dc,e,qZ,hk]
 have Oz:i.op≠24:=by simpa using h
 obtain⟨x,y,e⟩:=h2 Lf Oz;subst e;have cB:=yl br [x,y] hl 4;cases hk:kC [x,y] 4 with
 | false =>
  simp only[hk,List.map_cons,List.map_nil]at cB;refine lX ?_;refine ck ?_;refine .inr (.inr ⟨_,cB _,ao (zj ?_)⟩);refine⟨ob (by kernel_rfl),?_⟩;refine ah ?_;refine cY rfl ?_;refine az (ah ?_);refine aq ?_;simp -dsimp only[simprocAttr,↓aa,zp,zr,Tryz.results136,cj];refine⟨br,fu,?_⟩;simp[dc,Lf,Oz,hk]
 | true =>
  simp only[hk,List.map_cons,List.map_nil]at cB;by_cases hlen:x.list.length=y.list.length
  ·have hd:decide ((x.list.length:Int)=y.list.length)=true:=decide_eq_true (by omega);refine lX ?_;refine ck ?_;refine .inr (.inr ⟨_,cB _,ao ?_⟩);simp -dsimp only[simprocAttr,↓aa,zp,hd];refine⟨ob (by kernel_rfl),?_⟩;refine ah ?_;apply aP rfl<;>intro h
   ·cases h
   refine ct ?_;refine az (ah ?_);refine jH (O.length+2) 2 (by rw[lf];rfl) rfl ?_;simp -dsimp only[simprocAttr,↓aa,zp];refine ck (ah ?_);refine fh 68 rfl (fun TE=>?_);simp only[List.length_map]at TE;have ik:x.kind=4∧y.kind=4:=by simpa[kC]using hk
   obtain⟨QM,QN⟩:=hw x (by simp) ik.1;obtain⟨hyl,W9⟩:=hw y (by simp) ik.2;refine ag (aM (ι:={j:Nat // j<=x.list.length}) (fun j=>⟨99,[(1,.aB 4 [x.enc,y.enc] .sh),(2,.ip none [aI i.to,aI i.op,aI i.n,a7 i.args]),(4,.mp (O.length+1) 0),(5,aI 0),(6,.mp (O.length+2) 0),(68,.aB 4 (x.list.map SV.enc) .sh),(69,aI x.list.length),(70,aI j.1)],O++[.gone,.cells [aI 0,aI 0,.aB 4 [] .ex,.v (.pointer none)],.cells [aI 4,aI 0,.aB 4 ((ku i.n (x.list.take j.1) (y.list.take j.1)).map SV.enc) (.tok (O.length+3)),.v (.pointer none)],.spare j.1]⟩) (fun j=>x.list.length-j.1) ⟨0,by omega⟩ ?_ ?_)
   ·refine zq rfl ?_ ?_;simp -dsimp only[simprocAttr,↓aa,zp,zc];simp[ku]
   rintro⟨j,hj⟩;have rM:(ku i.n (x.list.take j) (y.list.take j)).length=j:=by
    rw[vR,List.length_take,List.length_take];omega
   refine az (ah ?_);apply ic rfl<;>intro h
   ·refine ct ?_;have a8:j<x.list.length:=by simpa using h
    obtain⟨a,ha⟩:∃a,x.list[j]?=some a:=⟨x.list[j],by simp[a8]⟩
    obtain⟨b,hb⟩:∃b,y.list[j]?=some b:=⟨y.list[j]'(by omega),List.getElem?_eq_getElem _⟩
    have ZA:=QN a (List.mem_of_getElem? ha);have S5:=W9 b (List.mem_of_getElem? hb);refine aG (ag ?_);refine aU ?_;simp -dsimp only[simprocAttr,↓aa,zp,ha];refine ah ?_;refine bZ 8 4 ([aI a.kind,aI a.n,.aB 4 (a.list.map SV.enc) .sh,eP a.arr]) rfl rfl (by simp only[List.map_cons,List.map_nil,cF,b9,dC,dD,dB,dz,dA,cg]) ?_;simp -dsimp only[simprocAttr,↓aa,zp];refine aU ?_;simp -dsimp only[simprocAttr,↓aa,zp,hb];refine zi (sG i.n a.n b.n ZA S5) ?_;refine⟨ob (by kernel_rfl),?_⟩;refine ah ?_;generalize hB:(db i.n a.n b.n).1=B;refine bZ 9 5 ([aI B.kind,aI B.n,.aB 4 (B.list.map SV.enc) .sh,eP B.arr]) rfl rfl (by simp only[List.map_cons,List.map_nil,cF,b9,dC,dD,dB,dz,dA,cg]) ?_;simp -dsimp only[simprocAttr,↓aa,zp];refine jD ?_;simp -dsimp only[simprocAttr,↓aa,zp,rM]
    repeat(refine⟨by omega,?_⟩)
    refine ah ?_;have yW:=yg (op:=i.n) ha hb;rw[hB]at yW;have E1:=(hl x (by simp)).mono (show O.length<=O.length+4 by omega);have Up:=(hl y (by simp)).mono (show O.length<=O.length+4 by omega);have MN:=SV.ak (n:=O.length+4) (qp (op:=i.n) (x.list.take (j+1)) (y.list.take (j+1)));rw[yW,List.map_append,List.map_cons,List.map_nil]at MN;have W6:=SV.ak (m9 E1);refine Eu 4 ([.gone,.cells [aI 0,aI 0,.aB 4 [] .ex,.v (.pointer none)],.cells [aI 4,aI 0,.aB 4 ((ku i.n (x.list.take j) (y.list.take j)).map SV.enc++[B.enc]) (.tok (O.length+3)),.v (.pointer none)],.spare (j+1)]) [(1,.aB 4 [x.enc,y.enc] .sh),(2,.ip none [aI i.to,aI i.op,aI i.n,a7 i.args]),(4,.mp (O.length+1) 0),(5,aI 0),(6,.mp (O.length+2) 0),(68,.aB 4 (x.list.map SV.enc) .sh),(69,aI x.list.length),(70,aI j)] rfl (by simp) (by omega) (by simp[bt,bc,Go.Av.look]) ?_ ?_ ?_ ?_
    ·exact fun o ho=>ai.bK (by omega) (br o ho)
    ·simp[ai.upto,av,ae.upto,MN]
    ·simp[av,ae.upto,ax,E1.aL,Up.aL,W6]
    refine cC ?_
    repeat(refine⟨by omega,?_⟩)
    refine eX ?_;refine⟨⟨j+1,a8⟩,by simp;omega,?_⟩;refine zq rfl ?_ ?_;simp -dsimp only[simprocAttr,↓aa,zp,zc]
    ·exact Sub.int (by simp)
    simp only[yW,List.map_append,List.map_cons,List.map_nil]
   refine aF ?_;simp -dsimp only[bF,ne_eq,Nat.reduceEqDiff,reduceCtorEq];have tA:j=x.list.length:=by simp at h;omega
   subst tA;have hy:y.list.take x.list.length=y.list:=by rw[hlen,List.take_length]
   have hz:=(SV.bk.mk (k:=4) (m:=0) (a:=none) (n:=O.length) (l:=ku i.n x.list y.list) (by simp) (qp _ _)).aL;rw[SV.jd]at hz;refine az (ah ?_);refine aq ?_;simp -dsimp only[simprocAttr,↓aa,zp,zr,Tryz.results136,hy];refine⟨br,⟨hz,trivial,trivial⟩,?_⟩;have fc:cw [x,y] 0=x∧cw [x,y] 1=y:=⟨rfl,rfl⟩
   simp[dc,Lf,Oz,hk,hlen,SV.jd,fc,eP]
  have hd:decide ((x.list.length:Int)=y.list.length)=false:=decide_eq_false (by omega);refine lX ?_;refine ck ?_;refine .inr (.inr ⟨_,cB _,ao ?_⟩);simp -dsimp only[simprocAttr,↓aa,zp,hd];refine⟨ob (by kernel_rfl),?_⟩;refine ah ?_;refine cY rfl ?_;refine az (ah ?_);refine aq ?_;simp -dsimp only[simprocAttr,↓aa,zp,zr,Tryz.results136,cj];refine⟨br,fu,?_⟩;simp[dc,Lf,Oz,hk,hlen,cw]
def nX(l:List Int)(n:Int):Int:=if l.findIdx (· == n)<l.length then(l.findIdx (· == n):Nat)else -1
theorem C4{l:List Int}{n:Int}{k:Nat}(hk:l[k]?=some n)(h:∀x∈l.take k,x≠n):l.findIdx (· == n)=k:=by
 have a8:=I hk;have e:l=l.take k++n::l.drop (k+1):=by
  rw[List.getElem?_eq_getElem a8]at hk;simp only[Option.some.injEq]at hk
  conv=>lhs;rw[<-List.take_append_drop k l,List.drop_eq_getElem_cons a8,hk]
 have hn:(l.take k).findIdx (· == n)=(l.take k).length:=by
  rw[List.findIdx_eq_length];intro x hx;simpa using h x hx
 rw[e,List.findIdx_append,hn];simp[List.findIdx_cons];omega
theorem pZ(l:List Int)(n:Int):bq Tryz.prog 66 [a7 l,aI n] (aI (nX l n)):=by
 refine zf true 0 Tryz.func66 Tryz.ntmps66 ?_;dsimp only[Tmp,TypeId,slotsOf];refine az (ah ?_);refine fh 0 rfl (fun hlen=>?_);simp only[List.length_map]at hlen;refine ck (ah ?_);refine ag (aM (ι:={j:Nat // j<=l.length∧∀x∈l.take j,x≠n}) (fun j=>⟨19,[(0,a7 l),(1,aI n),(4,aI 0),(7,aI l.length),(8,aI j.1)],[]⟩) (fun j=>l.length-j.1) ⟨0,by omega,by simp⟩ ?_ ?_)
 ·refine zq rfl ?_ ?_;simp -dsimp only[simprocAttr,↓aa,zp,zc];rfl
 rintro⟨j,hj,cB⟩;refine az (ah ?_);apply ic rfl<;>intro h
 ·refine ct ?_;have a8:j<l.length:=by simpa using h
  obtain⟨v,hv⟩:∃v,l[j]?=some v:=⟨l[j],by simp[a8]⟩
  refine aG (ag ?_);refine az (ah ?_);refine aU ?_;simp -dsimp only[simprocAttr,↓aa,zp,hv]
  repeat(refine⟨by omega,?_⟩)
  refine ah ?_;apply aP rfl<;>intro h
  ·have hk:n=v:=by simpa using h
   refine az (ah ?_);refine aq ?_;simp -dsimp only[simprocAttr,↓aa,zp,zr,Tryz.results66];subst hk;have:=C4 hv cB;simp[nX,this,a8]
  refine lX ?_;have hk:n≠v:=by simpa using h
  refine cC ?_
  repeat(refine⟨by omega,?_⟩)
  refine eX ?_;refine⟨⟨j+1,a8,fun w hw=>?_⟩,by simp;omega,?_⟩
  ·rw[List.take_add_one,hv]at hw;simp only[Option.toList_some,List.mem_append,List.mem_singleton]at hw;rcases hw with hw|rfl
   ·exact cB w hw
   exact fun e=>hk e.symm
  refine zq rfl ?_ ?_;simp -dsimp only[simprocAttr,↓aa,zp,zc]
  ·exact Sub.int (by simp)
  rfl
 refine aF ?_;simp -dsimp only[bF,ne_eq,Nat.reduceEqDiff,reduceCtorEq];have ik:j=l.length:=by simp at h;omega
 subst ik;refine az (ah ?_);refine aq ?_;simp -dsimp only[simprocAttr,↓aa,zp,zr,Tryz.results66];rw[List.take_length]at cB;have:l.findIdx (· == n)=l.length:=by
  rw[List.findIdx_eq_length];intro x hx;simpa using cB x hx
 simp[nX,this]
theorem Az(t:Term)(n:Int)(ht:t.cases.length<=2 ^ 60):bq Tryz.prog 131 [t.enc,aI n] (aI (iD t n)):=by
 have Ja:=pZ t.cases n;have hle:t.cases.findIdx (· == n)<=t.cases.length:=List.findIdx_le_length;refine zf true 0 Tryz.func131 Tryz.ntmps131 ?_;dsimp only[Tmp,TypeId,slotsOf];refine az (ah ?_);refine ck (ah ?_);apply aP rfl<;>intro h
 ·have e:t.kind=2:=by simpa using h
  refine ck (ah ?_);apply aP rfl<;>intro h
  ·have e0:n≠0:=by simpa using h
   refine az (ah ?_);refine aq ?_;simp -dsimp only[simprocAttr,↓aa,zp,zr,Tryz.results131];simp[iD,e,e0]
  have e0:n=0:=by simpa using h
  refine ct ?_;refine az (ah ?_);refine aq ?_;simp -dsimp only[simprocAttr,↓aa,zp,zr,Tryz.results131];simp[iD,e,e0]
 have e:t.kind≠2:=by simpa using h
 refine ct ?_;by_cases hf:t.cases.findIdx (· == n)<t.cases.length
 ·have hI:nX t.cases n=(t.cases.findIdx (· == n):Nat):=by simp[nX,hf]
  rw[hI]at Ja;generalize hq:t.cases.findIdx (· == n)=q at Ja;refine ck ?_;refine zi Ja ?_;refine ah ?_;refine az (ah ?_);apply aP rfl<;>intro h
  ·refine az (ah ?_);refine aq ?_;simp -dsimp only[simprocAttr,↓aa,zp,zr,Tryz.results131];simp[iD,e,hq]
  simp at h
 have hI:nX t.cases n=-1:=by simp[nX,hf]
 rw[hI]at Ja;have hq:t.cases.findIdx (· == n)=t.cases.length:=by omega
 refine ck ?_;refine zi Ja ?_;refine ah ?_;refine az (ah ?_);apply aP rfl<;>intro h
 ·simp at h
 refine ct ?_;refine az (ah ?_);refine aq ?_;simp -dsimp only[simprocAttr,↓aa,zp,zr,Tryz.results131];simp[iD,e,hq]
def eZ(t:Term):Int:=if t.kind=1 then 1 else if t.kind=2 then 2 else if t.kind=3 then(t.cases.length:Int)+1 else 0
def rP(t:Term):Bool:=decide (t.kind=0) ||(decide (t.kind=2) ||decide (t.kind=3))
def eg(t:Term):Bool:=(decide (0<=t.kind)&&decide (t.kind<=4))&&(((decide ((t.to.length:Int)=eZ t)&&(rP t ||decide (t.arg=0)))&&(decide (t.kind=4) ||decide (t.n=0)))&&(decide (t.kind=3) ||decide ((t.cases.length:Int)=0)))
theorem Nc(t:Term)(hk:t.kind=0)(hZ:t.cases.length<=2 ^ 60):bq Tryz.prog 110 [t.enc] (.v (.bool (eg t))):=by
 have he:eZ t=0:=by simp[eZ,hk]
 have ha:rP t=true:=by simp[rP,hk]
 unfold eg;rw[he,ha];have h0:decide (t.kind=0)=true:=decide_eq_true hk;have h4:decide (t.kind=4)=false:=decide_eq_false (by omega);have h3:decide (t.kind=3)=false:=decide_eq_false (by omega);have iJ:decide (0<=t.kind)=true:=decide_eq_true (by omega);have po:decide (t.kind<=4)=true:=decide_eq_true (by omega);rw[iJ,po,h3,h4];refine zf true 0 Tryz.func110 Tryz.ntmps110 ?_;dsimp only[Tmp,TypeId,slotsOf];refine az (ah ?_);refine az (ah ?_);refine ck (ah ?_);refine ag ?_;refine aU ?_;simp -dsimp only[simprocAttr,↓aa,zp,h0];refine ah ?_;refine cY rfl ?_;refine cC (ah ?_);cases hA:decide ((t.to.length:Int)=0)<;>cases hB:decide (t.arg=0)<;>cases hC:decide (t.n=0)<;>cases hD:decide ((t.cases.length:Int)=0)
 all_goals
  refine aU ?_;simp -dsimp only[simprocAttr,↓aa,zp,hA,hB,hC,hD];refine ah ?_;refine aq ?_;simp -dsimp only[simprocAttr,↓aa,zp,zr,Tryz.results110,Bool.true_or,Bool.false_or,Bool.or_true,Bool.or_false,Bool.true_and,Bool.false_and,Bool.and_true,Bool.and_false]
theorem Nf(t:Term)(hk:t.kind=1)(hZ:t.cases.length<=2 ^ 60):bq Tryz.prog 110 [t.enc] (.v (.bool (eg t))):=by
 have he:eZ t=1:=by simp[eZ,hk]
 have ha:rP t=false:=by simp[rP,hk]
 unfold eg;rw[he,ha];have h0:decide (t.kind=0)=false:=decide_eq_false (by omega);have h1:decide (t.kind=1)=true:=decide_eq_true hk;have h4:decide (t.kind=4)=false:=decide_eq_false (by omega);have h3:decide (t.kind=3)=false:=decide_eq_false (by omega);have iJ:decide (0<=t.kind)=true:=decide_eq_true (by omega);have po:decide (t.kind<=4)=true:=decide_eq_true (by omega);rw[iJ,po,h3,h4];refine zf true 0 Tryz.func110 Tryz.ntmps110 ?_;dsimp only[Tmp,TypeId,slotsOf];refine az (ah ?_);refine az (ah ?_);refine ck (ah ?_);refine ag ?_;refine aU ?_;simp -dsimp only[simprocAttr,↓aa,zp,h0];refine ah ?_;refine cm rfl ?_;refine aU ?_;simp -dsimp only[simprocAttr,↓aa,zp,h1];refine ah ?_;refine cY rfl ?_;refine cC (ah ?_);cases hA:decide ((t.to.length:Int)=1)<;>cases hB:decide (t.arg=0)<;>cases hC:decide (t.n=0)<;>cases hD:decide ((t.cases.length:Int)=0)
 all_goals
  refine aU ?_;simp -dsimp only[simprocAttr,↓aa,zp,hA,hB,hC,hD];refine ah ?_;refine aq ?_;simp -dsimp only[simprocAttr,↓aa,zp,zr,Tryz.results110,Bool.true_or,Bool.false_or,Bool.or_true,Bool.or_false,Bool.true_and,Bool.false_and,Bool.and_true,Bool.and_false]
theorem Ng(t:Term)(hk:t.kind=2)(hZ:t.cases.length<=2 ^ 60):bq Tryz.prog 110 [t.enc] (.v (.bool (eg t))):=by
 have he:eZ t=2:=by simp[eZ,hk]
 have ha:rP t=true:=by simp[rP,hk]
 unfold eg;rw[he,ha];have h0:decide (t.kind=0)=false:=decide_eq_false (by omega);have h1:decide (t.kind=1)=false:=decide_eq_false (by omega);have h2:decide (t.kind=2)=true:=decide_eq_true hk;have h4:decide (t.kind=4)=false:=decide_eq_false (by omega);have h3:decide (t.kind=3)=false:=decide_eq_false (by omega);have iJ:decide (0<=t.kind)=true:=decide_eq_true (by omega);have po:decide (t.kind<=4)=true:=decide_eq_true (by omega);rw[iJ,po,h3,h4];refine zf true 0 Tryz.func110 Tryz.ntmps110 ?_;dsimp only[Tmp,TypeId,slotsOf];refine az (ah ?_);refine az (ah ?_);refine ck (ah ?_);refine ag ?_;refine aU ?_;simp -dsimp only[simprocAttr,↓aa,zp,h0];refine ah ?_;refine cm rfl ?_;refine aU ?_;simp -dsimp only[simprocAttr,↓aa,zp,h1];refine ah ?_;refine cm rfl ?_;refine aU ?_;simp -dsimp only[simprocAttr,↓aa,zp,h2];refine ah ?_;refine cY rfl ?_;refine cC (ah ?_);cases hA:decide ((t.to.length:Int)=2)<;>cases hB:decide (t.arg=0)<;>cases hC:decide (t.n=0)<;>cases hD:decide ((t.cases.length:Int)=0)
 all_goals
  refine aU ?_;simp -dsimp only[simprocAttr,↓aa,zp,hA,hB,hC,hD];refine ah ?_;refine aq ?_;simp -dsimp only[simprocAttr,↓aa,zp,zr,Tryz.results110,Bool.true_or,Bool.false_or,Bool.or_true,Bool.or_false,Bool.true_and,Bool.false_and,Bool.and_true,Bool.and_false]
theorem Nh(t:Term)(hk:t.kind=3)(hZ:t.cases.length<=2 ^ 60):bq Tryz.prog 110 [t.enc] (.v (.bool (eg t))):=by
 have he:eZ t=(t.cases.length:Int)+1:=by simp[eZ,hk]
 have ha:rP t=true:=by simp[rP,hk]
 unfold eg;rw[he,ha];have h0:decide (t.kind=0)=false:=decide_eq_false (by omega);have h1:decide (t.kind=1)=false:=decide_eq_false (by omega);have h2:decide (t.kind=2)=false:=decide_eq_false (by omega);have h3:decide (t.kind=3)=true:=decide_eq_true hk;have h4:decide (t.kind=4)=false:=decide_eq_false (by omega);have iJ:decide (0<=t.kind)=true:=decide_eq_true (by omega);have po:decide (t.kind<=4)=true:=decide_eq_true (by omega);rw[iJ,po,h3,h4];refine zf true 0 Tryz.func110 Tryz.ntmps110 ?_;dsimp only[Tmp,TypeId,slotsOf];refine az (ah ?_);refine az (ah ?_);refine ck (ah ?_);refine ag ?_;refine aU ?_;simp -dsimp only[simprocAttr,↓aa,zp,h0];refine ah ?_;refine cm rfl ?_;refine aU ?_;simp -dsimp only[simprocAttr,↓aa,zp,h1];refine ah ?_;refine cm rfl ?_;refine aU ?_;simp -dsimp only[simprocAttr,↓aa,zp,h2];refine ah ?_;refine cm rfl ?_;refine aU ?_;simp -dsimp only[simprocAttr,↓aa,zp,h3];refine ah ?_;refine cY rfl ?_;refine cC ?_
 repeat(refine⟨by omega,?_⟩)
 refine ah ?_;cases hA:decide ((t.to.length:Int)=(t.cases.length:Int)+1)<;>cases hB:decide (t.arg=0)<;>cases hC:decide (t.n=0)<;>cases hD:decide ((t.cases.length:Int)=0)
 all_goals
  refine aU ?_;simp -dsimp only[simprocAttr,↓aa,zp,hA,hB,hC,hD];refine ah ?_;refine aq ?_;simp -dsimp only[simprocAttr,↓aa,zp,zr,Tryz.results110,Bool.true_or,Bool.false_or,Bool.or_true,Bool.or_false,Bool.true_and,Bool.false_and,Bool.and_true,Bool.and_false]
theorem Ni(t:Term)(hk:t.kind=4)(hZ:t.cases.length<=2 ^ 60):bq Tryz.prog 110 [t.enc] (.v (.bool (eg t))):=by
 have he:eZ t=0:=by simp[eZ,hk]
 have ha:rP t=false:=by simp[rP,hk]
 unfold eg;rw[he,ha];have h0:decide (t.kind=0)=false:=decide_eq_false (by omega);have h1:decide (t.kind=1)=false:=decide_eq_false (by omega);have h2:decide (t.kind=2)=false:=decide_eq_false (by omega);have h3:decide (t.kind=3)=false:=decide_eq_false (by omega);have h4:decide (t.kind=4)=true:=decide_eq_true hk;have iJ:decide (0<=t.kind)=true:=decide_eq_true (by omega);have po:decide (t.kind<=4)=true:=decide_eq_true (by omega);rw[iJ,po,h3,h4];refine zf true 0 Tryz.func110 Tryz.ntmps110 ?_;dsimp only[Tmp,TypeId,slotsOf];refine az (ah ?_);refine az (ah ?_);refine ck (ah ?_);refine ag ?_;refine aU ?_;simp -dsimp only[simprocAttr,↓aa,zp,h0];refine ah ?_;refine cm rfl ?_;refine aU ?_;simp -dsimp only[simprocAttr,↓aa,zp,h1];refine ah ?_;refine cm rfl ?_;refine aU ?_;simp -dsimp only[simprocAttr,↓aa,zp,h2];refine ah ?_;refine cm rfl ?_;refine aU ?_;simp -dsimp only[simprocAttr,↓aa,zp,h3];refine ah ?_;refine cm rfl ?_;refine aU ?_;simp -dsimp only[simprocAttr,↓aa,zp,h4];refine ah ?_;refine cY rfl ?_;refine cC (ah ?_);cases hA:decide ((t.to.length:Int)=0)<;>cases hB:decide (t.arg=0)<;>cases hC:decide (t.n=0)<;>cases hD:decide ((t.cases.length:Int)=0)
 all_goals
  refine aU ?_;simp -dsimp only[simprocAttr,↓aa,zp,hA,hB,hC,hD];refine ah ?_;refine aq ?_;simp -dsimp only[simprocAttr,↓aa,zp,zr,Tryz.results110,Bool.true_or,Bool.false_or,Bool.or_true,Bool.or_false,Bool.true_and,Bool.false_and,Bool.and_true,Bool.and_false]
theorem BM(t:Term)(hk:¬(0<=t.kind∧t.kind<=4)):bq Tryz.prog 110 [t.enc] (.v (.bool (eg t))):=by
 have hr:eg t=false:=by
  unfold eg;have:(decide (0<=t.kind)&&decide (t.kind<=4))=false:=by
   by_cases h0:0<=t.kind<;>by_cases h4:t.kind<=4<;>simp[h0,h4]<;>omega
  rw[this];rfl
 rw[hr];have h0:decide (t.kind=0)=false:=decide_eq_false (by omega);have h1:decide (t.kind=1)=false:=decide_eq_false (by omega);have h2:decide (t.kind=2)=false:=decide_eq_false (by omega);have h3:decide (t.kind=3)=false:=decide_eq_false (by omega);have h4:decide (t.kind=4)=false:=decide_eq_false (by omega);refine zf true 0 Tryz.func110 Tryz.ntmps110 ?_;dsimp only[Tmp,TypeId,slotsOf];refine az (ah ?_);refine az (ah ?_);refine ck (ah ?_);refine ag ?_;refine aU ?_;simp -dsimp only[simprocAttr,↓aa,zp,h0];refine ah ?_;refine cm rfl ?_;refine aU ?_;simp -dsimp only[simprocAttr,↓aa,zp,h1];refine ah ?_;refine cm rfl ?_;refine aU ?_;simp -dsimp only[simprocAttr,↓aa,zp,h2];refine ah ?_;refine cm rfl ?_;refine aU ?_;simp -dsimp only[simprocAttr,↓aa,zp,h3];refine ah ?_;refine cm rfl ?_;refine aU ?_;simp -dsimp only[simprocAttr,↓aa,zp,h4];refine ah ?_;refine cm rfl ?_;refine az (ah ?_);refine aq ?_;simp -dsimp only[simprocAttr,↓aa,zp,zr,Tryz.results110]
theorem D9(t:Term)(hZ:t.cases.length<=2 ^ 60):bq Tryz.prog 110 [t.enc] (.v (.bool (eg t))):=by
 by_cases hk:0<=t.kind∧t.kind<=4
 ·rcases(show t.kind=0∨t.kind=1∨t.kind=2∨t.kind=3∨t.kind=4 by omega)with h|h|h|h|h
  ·exact Nc t h hZ
  ·exact Nf t h hZ
  ·exact Ng t h hZ
  ·exact Nh t h hZ
  exact Ni t h hZ
 exact BM t hk
def gj(l:List Int)(n:Int):Bool:=decide (l.findIdx (· == n)<l.length)
theorem ju(l:List Int)(n:Int):bq Tryz.prog 39 [a7 l,aI n] (.v (.bool (gj l n))):=by
 have Ja:=pZ l n;have hd:decide (0<=nX l n)=gj l n:=by
  unfold nX gj;by_cases h:l.findIdx (· == n)<l.length
  ·rw[if_pos h];simp[h]
  rw[if_neg h];simp[h]
 generalize nX l n=r at *;refine zf true 0 Tryz.func39 Tryz.ntmps39 ?_;dsimp only[Tmp,TypeId,slotsOf];refine az (ah ?_);refine az ?_;refine .inl ⟨_,Ja,by simp only[av,ae.upto,zt,zu,ax],ao ?_⟩;simp -dsimp only[simprocAttr,↓aa,zp,hd];refine ah ?_;refine aq ?_;simp -dsimp only[simprocAttr,↓aa,zp,zr,Tryz.results39]
theorem vZ{u:cu}{m:Mach}{O:List ai}(br:∀o∈O,o.upto O.length)(h0:O[2]?=some (.cells (aA u m)))(size fill:SV)(hs:SV.bk O.length size)(hf:SV.bk O.length fill)(h1:0<=m.left)(h2:m.left<=2 ^ 40)(jx:m.short=false)
  (bD:∀x,((m.bL size fill).2.1).arr≠some x) :
  bh Tryz.prog 154 O [.mp 2 0,size.enc,fill.enc] (fun r O'=>r=.cx [(m.bL size fill).2.1.enc,aI (m.bL size fill).2.2]∧O'=O.set 2 (.cells (aA u (m.bL size fill).1))):=by
 have ga:O.set 2 (.cells (aA u m))=O:=by
  obtain⟨a8,e⟩:=List.getElem?_eq_some_iff.1 h0;rw[<-e,List.set_getElem_self]
 by_cases hk:size.kind=0
 ·by_cases hn:size.n<0∨1024<size.n
  ·have hd:decide (size.kind=0)=true:=decide_eq_true hk;rcases(show size.n<0∨(¬size.n<0∧1024<size.n) by omega)with z7|⟨z7,ET⟩
   ·have ni:decide (size.n<0)=true:=decide_eq_true z7;refine zf true O.length Tryz.func154 Tryz.ntmps154 ?_;dsimp only[Tmp,TypeId,slotsOf];refine az (ah ?_);refine aG (ag ?_);refine aU ?_;simp -dsimp only[simprocAttr,↓aa,zp,hd];refine ah ?_;refine cm rfl ?_;refine aU ?_;simp -dsimp only[simprocAttr,↓aa,zp,ni];refine ah ?_;refine cY rfl ?_;refine az (ah ?_);refine aq ?_;simp -dsimp only[simprocAttr,↓aa,zp,zr,Tryz.results154,cj];refine⟨br,fu,?_⟩;simp[Mach.bL,hk,hn,ga]
   have ni:decide (size.n<0)=false:=decide_eq_false z7;have kW:decide (1024<size.n)=true:=decide_eq_true ET;refine zf true O.length Tryz.func154 Tryz.ntmps154 ?_;dsimp only[Tmp,TypeId,slotsOf];refine az (ah ?_);refine aG (ag ?_);refine aU ?_;simp -dsimp only[simprocAttr,↓aa,zp,hd];refine ah ?_;refine cm rfl ?_;refine aU ?_;simp -dsimp only[simprocAttr,↓aa,zp,ni,kW];refine ah ?_;refine cY rfl ?_;refine az (ah ?_);refine aq ?_;simp -dsimp only[simprocAttr,↓aa,zp,zr,Tryz.results154,cj];refine⟨br,fu,?_⟩;simp[Mach.bL,hk,hn,ga]
  have hd:decide (size.kind=0)=true:=decide_eq_true hk;have ni:decide (size.n<0)=false:=decide_eq_false (by omega);have kW:decide (1024<size.n)=false:=decide_eq_false (by omega);by_cases hp:m.left<size.n
  ·have k9:(m.fI size.n).short=true:=by simp[Mach.fI,hp]
   have wH:=bh.frame (vo br h0 size.n h1 h2 (by omega)) (by simp) ⟨I h0,trivial,trivial⟩ br;have Gb:=dr h0 (.cells (aA u (m.fI size.n)));have ew:=bo br h0 (ds:=aA u (m.fI size.n)) (fun h=>bU h (o7 m size.n));obtain⟨O1,dM⟩:∃O1,O1=O.set 2 (.cells (aA u (m.fI size.n))):=⟨_,rfl⟩
   have hlen:O.length=O1.length:=by rw[dM];simp
   have dZ:(m.bL size fill)=(m.fI size.n,.zero,0):=by simp[Mach.bL,hk,hn,k9]
   rw[dZ];simp only[<-dM]at wH Gb ew ⊢;have C7:∀X,(O1++X)[2]?=some (.cells (aA u (m.fI size.n))):=fun X=>bS Gb;unfold aA at C7;rw[k9]at C7;rw[hlen]at ew;refine zf true O.length Tryz.func154 Tryz.ntmps154 ?_;dsimp only[Tmp,TypeId,slotsOf];refine az (ah ?_);refine aG (ag ?_);refine aU ?_;simp -dsimp only[simprocAttr,↓aa,zp,hd];refine ah ?_;refine cm rfl ?_;refine aU ?_;simp -dsimp only[simprocAttr,↓aa,zp,ni,kW];refine ah ?_;refine cm rfl ?_;refine lX ?_;refine az ?_;refine .inr (.inl ⟨_,_,wH _,.inl (ao (zj ?_))⟩);refine ah ?_;refine cK ?_;simp -dsimp only[simprocAttr,↓aa,zp,C7];refine ah ?_;refine cY rfl ?_;refine aU ?_;simp -dsimp only[simprocAttr,↓aa,zp,hlen];refine ah ?_;refine aq ?_;simp -dsimp only[simprocAttr,↓aa,zp,zr,Tryz.results154,cj,hlen];exact⟨ew,fu⟩
  exfalso;have k9:(m.fI size.n).short=false:=by simp[Mach.fI,hp,jx]
  refine bD (m.next+8) ?_;simp[Mach.bL,hk,hn,k9,SV.arr]
 have hd:decide (size.kind=0)=false:=decide_eq_false hk;refine zf true O.length Tryz.func154 Tryz.ntmps154 ?_;dsimp only[Tmp,TypeId,slotsOf];refine az (ah ?_);refine aG (ag ?_);refine aU ?_;simp -dsimp only[simprocAttr,↓aa,zp,hd];refine ah ?_;refine cY rfl ?_;refine az (ah ?_);refine aq ?_;simp -dsimp only[simprocAttr,↓aa,zp,zr,Tryz.results154,cj];refine⟨br,fu,?_⟩;simp[Mach.bL,hk,ga]
theorem pe{O X:List ai}{k:Nat}:(O++X).take (O.length+k)=O++X.take k:=by
 rw[List.take_append,List.take_of_length_le (by omega),Nat.add_sub_cancel_left]
def tG(v:SV)(n k:Nat):List ae:=List.replicate k v.enc++List.replicate (n-k) (.agg [aI 0,aI 0,.aB 4 [] .ex,.v (.pointer none)])
theorem BH{v:SV}{n k:Nat}(h:k<=n):(tG v n k).length=n:=by
 simp[tG];omega
theorem vA{v:SV}{n k:Nat}:∀x∈tG v n k,x.cells.length=4:=fun x hx=>by
 simp only[tG,List.mem_append,List.mem_replicate]at hx;rcases hx with⟨_,rfl⟩|⟨_,rfl⟩
 ·exact v.c7
 rfl
theorem Hd(v:SV)(n:Nat):al (tG v n 0)=(List.replicate n [aI 0,aI 0,.aB 4 [] .ex,.v (.pointer none)]).flatten:=by
 simp[tG,al,List.flatMap,ae.cells]
theorem Hc{v:SV}{n k:Nat}(h:k<n):(tG v n k).set k v.enc=tG v n (k+1):=by
 obtain⟨j,hj⟩:∃j,n-k=j+1:=⟨n-k-1,by omega⟩
 unfold tG;rw[hj,show n-(k+1)=j by omega,List.set_append_right _ _ (by simp),List.replicate_succ' (n:=k)];simp[List.replicate_succ]
theorem J9(v:SV)(n:Nat):tG v n n=(List.replicate n v).map SV.enc:=by simp[tG]
theorem Ae{u:cu}{m:Mach}{O:List ai}(br:∀o∈O,o.upto O.length)(h0:O[2]?=some (.cells (aA u m)))(size fill:SV)(hs:SV.bk O.length size)(hf:SV.bk O.length fill)(h1:0<=m.left)(h2:m.left<=2 ^ 40)(jx:m.short=false)
  (hk:size.kind=0) (z7:0<=size.n) (ET:size.n<=1024) (hp:size.n<=m.left) :
  bh Tryz.prog 154 O [.mp 2 0,size.enc,fill.enc] (fun r O'=>r=.cx [.agg [aI 3,aI 0,.aB 4 [] .sh,.mp (O.length+4) 0],aI 0]∧O'=O.set 2 (.cells (aA u (m.fI size.n))) ++
   [.gone,.gone,.cells [aI 3,aI 0,.aB 4 [] .ex,.mp (O.length+4) 0],.cells (al ((List.replicate size.n.toNat fill).map SV.enc)),.cells [.ms (O.length+3) 0 size.n.toNat size.n.toNat]]):=by
 have hd:decide (size.kind=0)=true:=decide_eq_true hk;have ni:decide (size.n<0)=false:=decide_eq_false (by omega);have kW:decide (1024<size.n)=false:=decide_eq_false (by omega);have k9:(m.fI size.n).short=false:=by simp[Mach.fI,jx,show ¬m.left<size.n by omega]
 have wH:=bh.frame (vo br h0 size.n h1 h2 (by omega)) (by simp) ⟨I h0,trivial,trivial⟩ br;have Gb:=dr h0 (.cells (aA u (m.fI size.n)));have ew:=bo br h0 (ds:=aA u (m.fI size.n)) (fun h=>bU h (o7 m size.n));obtain⟨O1,dM⟩:∃O1,O1=O.set 2 (.cells (aA u (m.fI size.n))):=⟨_,rfl⟩
 have hlen:O.length=O1.length:=by rw[dM];simp
 simp only[<-dM]at wH Gb ew ⊢;have C7:∀X,(O1++X)[2]?=some (.cells (aA u (m.fI size.n))):=fun X=>bS Gb;unfold aA at C7;rw[k9]at C7;rw[hlen]at ew;obtain⟨n,hn⟩:∃n:Nat,size.n=n:=⟨size.n.toNat,by omega⟩
 refine zf true (O.length+5) Tryz.func154 Tryz.ntmps154 ?_;dsimp only[Tmp,TypeId,slotsOf];refine az (ah ?_);refine bZ 4 0 ([aI size.kind,aI size.n,.aB 4 (size.list.map SV.enc) .sh,eP size.arr]) rfl rfl (by simp only[List.map_cons,List.map_nil,cF,b9,dC,dD,dB,dz,dA,cg]) ?_;simp -dsimp only[simprocAttr,↓aa,zp];refine bZ 5 1 ([aI fill.kind,aI fill.n,.aB 4 (fill.list.map SV.enc) .sh,eP fill.arr]) rfl rfl (by simp only[List.map_cons,List.map_nil,cF,b9,dC,dD,dB,dz,dA,cg]) ?_;simp -dsimp only[simprocAttr,↓aa,zp];refine aG (ag ?_);refine aU ?_;simp -dsimp only[simprocAttr,↓aa,zp,hd];refine ah ?_;apply aP rfl<;>intro h
 ·cases h
 refine aU ?_;simp -dsimp only[simprocAttr,↓aa,zp,ni,kW];refine ah ?_;apply aP rfl<;>intro h
 ·cases h
 refine lX ?_;refine az ?_;refine .inr (.inl ⟨_,_,wH _,.inl (ao (zj ?_))⟩);refine ah ?_;refine cK ?_;simp -dsimp only[simprocAttr,↓aa,zp,C7];refine ah ?_;apply aP rfl<;>intro h
 ·cases h
 refine ct ?_;refine aU ?_;simp -dsimp only[simprocAttr,↓aa,zp,hlen,hn]
 repeat(refine⟨by omega,?_⟩)
 refine ah ?_;refine cK ?_;simp -dsimp only[simprocAttr,↓aa,zp,hlen,hn];refine ah ?_;refine ag (aM (ι:={j:Nat // j<=n}) (fun j=>⟨48,[(5,.ip none [aI fill.kind,aI fill.n,.aB 4 (fill.list.map SV.enc) .sh,eP fill.arr]),(6,.mp (O1.length+2) 0),(7,aI 0),(8,.mp (O1.length+4) 0),(38,aI n),(39,aI j.1)],O1++[.gone,.gone,.cells [aI 0,aI 0,.aB 4 [] .ex,.v (.pointer none)],.cells (al (tG fill n j.1)),.cells [.ms (O1.length+3) 0 n n]]⟩) (fun j=>n-j.1) ⟨0,by omega⟩ ?_ ?_)
 ·refine zq rfl ?_ ?_;simp -dsimp only[simprocAttr,↓aa,zp,zc];rw[Hd]
 rintro⟨j,hj⟩;refine az (ah ?_);apply ic rfl<;>intro h
 ·refine ct ?_;have a8:j<n:=by simpa using h
  have dq:=bV (vA (v:=fill) (n:=n) (k:=j));rw[BH hj]at dq;have ga:=mI (vA (v:=fill) (n:=n) (k:=j)) (k:=j) (by rw[BH hj];exact a8) fill.c7;rw[Hc a8,SV.aj]at ga;refine aG (ag ?_);refine az (ah ?_);refine jD ?_;simp -dsimp only[simprocAttr,↓aa,zp,dq,ga]
  repeat(refine⟨by omega,?_⟩)
  refine ah ?_;refine cC ?_
  repeat(refine⟨by omega,?_⟩)
  refine eX ?_;refine⟨⟨j+1,a8⟩,by simp;omega,?_⟩;refine zq rfl ?_ ?_;simp -dsimp only[simprocAttr,↓aa,zp,zc]
  ·exact Sub.int (by simp)
  rfl
 refine aF ?_;simp -dsimp only[bF,ne_eq,Nat.reduceEqDiff,reduceCtorEq];have tA:j=n:=by simp at h;omega
 subst tA;refine az (ah ?_);refine aq ?_;simp -dsimp only[simprocAttr,↓aa,zp,zr,Tryz.results154,hlen];have Wg:size.n.toNat=j:=by omega
 have iw:∀v∈List.replicate j fill,SV.bk (O1.length+5) v:=fun v hv=>by
  rw[(List.mem_replicate.1 hv).2];exact hf.mono (by omega)
 rw[pe,Wg,J9];refine⟨fun o ho=>?_,by simp[av,ae.upto],rfl⟩;rcases List.mem_append.1 ho with ho|ho
 ·exact ai.bK (by omega) (ew o ho)
 have hc:=SV.jc iw;simp only[List.take_succ_cons,List.take_zero,List.mem_cons,List.mem_nil_iff,or_false]at ho;rcases ho with rfl|rfl|rfl|rfl|rfl
 ·trivial
 ·trivial
 ·simp[ai.upto,av,ae.upto]
 ·exact hc
 simp[ai.upto,av,ae.upto]
theorem kT{O X:List ai}{k:Nat}{x y:ai}(h:O[k]?=some x):(O++X).set k y=O.set k y++X:=by
 rw[List.set_append_left _ _ (I h)]
theorem jW{O:List ai}{k:Nat}{x:ai}(h:O[k]?=some x):O.set k x=O:=by
 obtain⟨a8,e⟩:=List.getElem?_eq_some_iff.1 h;rw[<-e,List.set_getElem_self]
theorem yG{u:cu}{m:Mach}{O:List ai}(br:∀o∈O,o.upto O.length)(h0:O[2]?=some (.cells (aA u m)))(Dn:O[3]?=some (.spare m.out.length))(i:Ins)(args:List SV)(hl:∀v∈args,SV.bk O.length v)
  (jN:i.op=15) (x:SV) (hx:args[0]?=some x) (ho:m.out.length<=1000) :
  bh Tryz.prog 137 O [.mp 2 0,i.enc,.aB 4 (args.map SV.enc) .sh] (fun r O'=>r=.cx [(m.effect i args).2.1.enc,aI (m.effect i args).2.2]∧O'=(O.set 3 (.spare (m.effect i args).1.out.length)).set 2 (.cells (aA u (m.effect i args).1))):=by
 have qZ:=fD hx;have kL:decide (i.op=15)=true:=decide_eq_true jN;have eE:(O.set 3 (.spare m.out.length)).set 2 (.cells (aA u m))=O:=by rw[jW Dn,jW h0]
 have EL:∀X,(O++X)[2]?=some (.cells (aA u m)):=fun X=>bS h0;have C8:∀X,(O++X)[3]?=some (.spare m.out.length):=fun X=>bS Dn;unfold aA at EL;by_cases hk:x.kind=0
 ·have hd:decide (x.kind=0)=true:=decide_eq_true hk;by_cases hf:m.out.length=1000
  ·have Qc:decide ((m.out.length:Int)=1000)=true:=decide_eq_true (by omega);have dZ:m.effect i args=(m,.zero,6):=by simp[Mach.effect,jN,qZ,hk,hf]
   rw[dZ];refine zf true O.length Tryz.func137 Tryz.ntmps137 ?_;dsimp only[Tmp,TypeId,slotsOf];refine az (ah ?_);refine bZ 4 0 ([aI i.to,aI i.op,aI i.n,a7 i.args]) rfl rfl (by rfl) ?_;simp -dsimp only[simprocAttr,↓aa,zp];refine cK ?_;simp -dsimp only[simprocAttr,↓aa,zp,kL];refine ah ?_;refine ag ?_;refine aU ?_;simp -dsimp only[simprocAttr,↓aa,zp,kL];refine ah ?_;refine cY rfl ?_;refine cK ?_;simp -dsimp only[simprocAttr,↓aa,zp,hx,hd];refine ah ?_;refine cm rfl ?_;refine ct ?_;refine cK ?_;simp -dsimp only[simprocAttr,↓aa,zp,EL,Qc];refine ah ?_;refine cY rfl ?_;refine az (ah ?_);refine aq ?_;simp -dsimp only[simprocAttr,↓aa,zp,zr,Tryz.results137,cj,eE];exact⟨br,fu⟩
  have Qc:decide ((m.out.length:Int)=1000)=false:=decide_eq_false (by omega);have dZ:m.effect i args=({ m with out:=m.out++[x.n] },.word 0,0):=by simp[Mach.effect,jN,qZ,hk,hf]
  rw[dZ];obtain⟨m',fa⟩:∃m',m' = { m with out:=m.out++[x.n] }:=⟨_,rfl⟩
  have Dl:=aW (k:=2) (j:=3) (y:=.spare (m.out.length+1)) h0 (by omega);have hp:[b8 u.fns,aI u.main,.os m.sid m.frames.length 1,aI m.left,.v (.bool m.short),.v (.bool m.over),.aB 1 (m.out.map aI++[aI x.n]) (.tok 3),aI m.fin,aI m.val]=aA u m':=by
   rw[fa];simp[aA]
  obtain⟨O2,tM⟩:∃O2,O2=(O.set 3 (.spare (m.out.length+1))).set 2 (.cells (aA u m')):=⟨_,rfl⟩
  have hlen:O.length=O2.length:=by rw[tM];simp
  have fg:∀o∈O2,o.upto O2.length:=by
   rw[<-hlen,tM];exact bo (bg br trivial) Dl (fun h=>bU h (by rw[fa]))
  have e1:∀X,(O++X).set 3 (.spare (m.out.length+1))=O.set 3 (.spare (m.out.length+1))++X:=fun X=>kT Dn;have e2:∀X y,(O.set 3 (.spare (m.out.length+1))++X).set 2 y=(O.set 3 (.spare (m.out.length+1))).set 2 y++X:=fun X y=>kT Dl;have e3:∀X,(O.set 3 (.spare (m.out.length+1))++X)[2]?=some (.cells (aA u m)):=fun X=>bS Dl;unfold aA at e3;have Jh:m'.out.length=m.out.length+1:=by rw[fa];simp
  rw[<-fa];simp only[Jh,<-tM];refine zf true O.length Tryz.func137 Tryz.ntmps137 ?_;dsimp only[Tmp,TypeId,slotsOf];refine az (ah ?_);refine bZ 4 0 ([aI i.to,aI i.op,aI i.n,a7 i.args]) rfl rfl (by rfl) ?_;simp -dsimp only[simprocAttr,↓aa,zp];refine cK ?_;simp -dsimp only[simprocAttr,↓aa,zp,kL];refine ah ?_;refine ag ?_;refine aU ?_;simp -dsimp only[simprocAttr,↓aa,zp,kL];refine ah ?_;refine cY rfl ?_;refine cK ?_;simp -dsimp only[simprocAttr,↓aa,zp,hx,hd];refine ah ?_;refine cm rfl ?_;refine ct ?_;refine cK ?_;simp -dsimp only[simprocAttr,↓aa,zp,EL,Qc];refine ah ?_;refine cm rfl ?_;refine ct ?_;refine aU ?_;simp -dsimp only[simprocAttr,↓aa,zp,EL,hx,C8,e1,e2,e3,hp,<-tM]
  repeat(refine⟨by omega,?_⟩)
  refine⟨ob (by kernel_rfl),?_⟩;refine ah ?_;refine aU ?_;simp -dsimp only[simprocAttr,↓aa,zp,hlen];refine .inl ⟨_,cR 0,by simp only[av,ae.upto,zt,zu,ax],ao ?_⟩;simp -dsimp only[simprocAttr,↓aa,zp,di];refine ah ?_;refine aq ?_;simp -dsimp only[simprocAttr,↓aa,zp,zr,Tryz.results137,eW,hlen];exact⟨fg,lE⟩
 have hd:decide (x.kind=0)=false:=decide_eq_false hk;have dZ:m.effect i args=(m,.zero,5):=by simp[Mach.effect,jN,qZ,hk]
 rw[dZ];refine zf true O.length Tryz.func137 Tryz.ntmps137 ?_;dsimp only[Tmp,TypeId,slotsOf];refine az (ah ?_);refine bZ 4 0 ([aI i.to,aI i.op,aI i.n,a7 i.args]) rfl rfl (by rfl) ?_;simp -dsimp only[simprocAttr,↓aa,zp];refine cK ?_;simp -dsimp only[simprocAttr,↓aa,zp,kL];refine ah ?_;refine ag ?_;refine aU ?_;simp -dsimp only[simprocAttr,↓aa,zp,kL];refine ah ?_;refine cY rfl ?_;refine cK ?_;simp -dsimp only[simprocAttr,↓aa,zp,hx,hd];refine ah ?_;refine cY rfl ?_;refine az (ah ?_);refine aq ?_;simp -dsimp only[simprocAttr,↓aa,zp,zr,Tryz.results137,cj,eE];exact⟨br,fu⟩
theorem AI{u:cu}{m:Mach}{O:List ai}(br:∀o∈O,o.upto O.length)(h0:O[2]?=some (.cells (aA u m)))(i:Ins)(size fill:SV)(hs:SV.bk O.length size)(hf:SV.bk O.length fill)
  (jN:i.op=16) (h1:0<=m.left) (h2:m.left<=2 ^ 40) (jx:m.short=false) (bD:∀x,((m.bL size fill).2.1).arr≠some x) :
  bh Tryz.prog 137 O [.mp 2 0,i.enc,.aB 4 [size.enc,fill.enc] .sh] (fun r O'=>r=.cx [(m.bL size fill).2.1.enc,aI (m.bL size fill).2.2]∧O'=O.set 2 (.cells (aA u (m.bL size fill).1))):=by
 have kL:decide (i.op=15)=false:=decide_eq_false (by omega);have pn:decide (i.op=16)=true:=decide_eq_true (by omega);have eC:=bh.frame (vZ br h0 size fill hs hf h1 h2 jx bD) (by simp) ⟨I h0,hs.aL,hf.aL,trivial⟩ br;have WU:(m.bL size fill).1.sid=m.sid:=by
  unfold Mach.bL
  repeat' split
  all_goals first|rfl|exact o7 _ _
 have ew:=bo br h0 (ds:=aA u (m.bL size fill).1) (fun h=>bU h WU);have nw:SV.bk O.length (m.bL size fill).2.1:=by
  have:∀r:Mach×SV×Int,r=m.bL size fill->r.2.1=SV.zero∨∃x,r.2.1.arr=some x:=fun r hr=>by
   subst hr;unfold Mach.bL
   repeat' split
   all_goals first|exact .inl rfl|exact .inr ⟨_,rfl⟩
  rcases this _ rfl with e|⟨x,e⟩
  ·rw[e];exact qo _
  exact absurd e (bD x)
 generalize m.bL size fill=R at *;obtain⟨O1,dM⟩:∃O1,O1=O.set 2 (.cells (aA u R.1)):=⟨_,rfl⟩
 have hlen:O.length=O1.length:=by rw[dM];simp
 simp only[<-dM]at eC ew ⊢;rw[hlen]at ew nw;refine zf true O.length Tryz.func137 Tryz.ntmps137 ?_;dsimp only[Tmp,TypeId,slotsOf];refine az (ah ?_);refine bZ 4 0 ([aI i.to,aI i.op,aI i.n,a7 i.args]) rfl rfl (by rfl) ?_;simp -dsimp only[simprocAttr,↓aa,zp];refine ck (ah ?_);refine ag ?_;refine aU ?_;simp -dsimp only[simprocAttr,↓aa,zp,kL];refine ah ?_;refine cm rfl ?_;refine aU ?_;simp -dsimp only[simprocAttr,↓aa,zp,pn];refine ah ?_;refine cY rfl ?_;refine az ?_;refine .inr (.inl ⟨_,_,eC _,.inl (ao ?_)⟩);simp -dsimp only[simprocAttr,↓aa,zp,hlen];refine⟨ob (by kernel_rfl),?_⟩;refine ah ?_;refine aq ?_;simp -dsimp only[simprocAttr,↓aa,zp,zr,Tryz.results137,hlen];exact⟨ew,vz nw⟩
theorem F4{u:cu}{m:Mach}{O:List ai}(br:∀o∈O,o.upto O.length)(h0:O[2]?=some (.cells (aA u m)))(i:Ins)(size fill:SV)(hs:SV.bk O.length size)(hf:SV.bk O.length fill)
  (jN:i.op=16) (h1:0<=m.left) (h2:m.left<=2 ^ 40) (jx:m.short=false) (hk:size.kind=0) (z7:0<=size.n) (ET:size.n<=1024) (hp:size.n<=m.left) :
  bh Tryz.prog 137 O [.mp 2 0,i.enc,.aB 4 [size.enc,fill.enc] .sh] (fun r O'=>r=.cx [.agg [aI 3,aI 0,.aB 4 [] .sh,.mp (O.length+6) 0],aI 0]∧O'=O.set 2 (.cells (aA u (m.fI size.n))) ++
   [.gone,.cells [aI 3,aI 0,.aB 4 [] .sh,.mp (O.length+6) 0],.gone,.gone,.cells [aI 3,aI 0,.aB 4 [] .ex,.mp (O.length+6) 0],.cells (al ((List.replicate size.n.toNat fill).map SV.enc)),.cells [.ms (O.length+5) 0 size.n.toNat size.n.toNat]]):=by
 have kL:decide (i.op=15)=false:=decide_eq_false (by omega);have pn:decide (i.op=16)=true:=decide_eq_true (by omega);have Gy:∀o∈O++[.gone,.cells [aI 0,aI 0,.aB 4 [] .ex,.v (.pointer none)]],o.upto (O++[ai.gone,.cells [aI 0,aI 0,.aB 4 [] .ex,.v (.pointer none)]]).length:=fun o ho=>by
  rcases List.mem_append.1 ho with ho|ho
  ·exact ai.bK (by simp) (br o ho)
  simp only[List.mem_cons,List.mem_nil_iff,or_false]at ho;rcases ho with rfl|rfl
  ·trivial
  simp[ai.upto,av,ae.upto]
 have Wn:(O++[ai.gone,.cells [aI 0,aI 0,.aB 4 [] .ex,.v (.pointer none)]]).length=O.length+2:=by simp
 have eC:=Ae Gy (bS h0) size fill (hs.mono (by simp)) (hf.mono (by simp)) h1 h2 jx hk z7 ET hp;have Gb:=dr h0 (.cells (aA u (m.fI size.n)));have ew:=bo br h0 (ds:=aA u (m.fI size.n)) (fun h=>bU h (o7 m size.n));rw[kT h0,Wn]at eC;obtain⟨O1,dM⟩:∃O1,O1=O.set 2 (.cells (aA u (m.fI size.n))):=⟨_,rfl⟩
 have hlen:O.length=O1.length:=by rw[dM];simp
 simp only[<-dM]at eC ew ⊢;rw[hlen]at ew;have iw:∀v∈List.replicate size.n.toNat fill,SV.bk (O1.length+7) v:=fun v hv=>by
  rw[(List.mem_replicate.1 hv).2];exact hf.mono (by omega)
 have hc:=SV.jc iw;generalize dq:al ((List.replicate size.n.toNat fill).map SV.enc)=row at *;refine zf true (O.length+7) Tryz.func137 Tryz.ntmps137 ?_;dsimp only[Tmp,TypeId,slotsOf];refine az (ah ?_);refine bZ 4 0 ([aI i.to,aI i.op,aI i.n,a7 i.args]) rfl rfl (by rfl) ?_;simp -dsimp only[simprocAttr,↓aa,zp];refine ck (ah ?_);refine ag ?_;refine aU ?_;simp -dsimp only[simprocAttr,↓aa,zp,kL];refine ah ?_;refine cm rfl ?_;refine aU ?_;simp -dsimp only[simprocAttr,↓aa,zp,pn];refine ah ?_;refine cY rfl ?_;refine az ?_;refine .inr (.inl ⟨_,_,eC,.inl (ao ?_)⟩);simp -dsimp only[simprocAttr,↓aa,zp,hlen];refine⟨ob (by kernel_rfl),?_⟩;refine ah ?_;refine aq ?_;simp -dsimp only[simprocAttr,↓aa,zp,zr,Tryz.results137,hlen];rw[pe];refine⟨fun o ho=>?_,by simp[av,ae.upto],rfl⟩;rcases List.mem_append.1 ho with ho|ho
 ·exact ai.bK (by omega) (ew o ho)
 simp only[List.take_succ_cons,List.take_zero,List.mem_cons,List.mem_nil_iff,or_false]at ho;rcases ho with rfl|rfl|rfl|rfl|rfl|rfl|rfl
 ·trivial
 ·simp[ai.upto,av,ae.upto]
 ·trivial
 ·trivial
 ·simp[ai.upto,av,ae.upto]
 ·exact hc
 simp[ai.upto,av,ae.upto]
theorem yF{u:cu}{m:Mach}{O:List ai}(br:∀o∈O,o.upto O.length)(i:Ins)(x y:SV)(hx:SV.bk O.length x)(hy:SV.bk O.length y)(mg:2<O.length)
  (jN:i.op=18):bh Tryz.prog 137 O [.mp 2 0,i.enc,.aB 4 [x.enc,y.enc] .sh] (fun r O'=>r=.cx [(m.effect i [x,y]).2.1.enc,aI (m.effect i [x,y]).2.2]∧O'=O):=by
 have hl:∀v∈[x,y],SV.bk O.length v:=fun v hv=>by
  simp only[List.mem_cons,List.mem_nil_iff,or_false]at hv;rcases hv with rfl|rfl
  ·exact hx
  exact hy
 have kL:decide (i.op=15)=false:=decide_eq_false (by omega);have pn:decide (i.op=16)=false:=decide_eq_false (by omega);have tx:decide (i.op=18)=true:=decide_eq_true (by omega);have cB:=yl br [x,y] hl 0;have ha:cw [x,y] 0=x∧cw [x,y] 1=y:=⟨rfl,rfl⟩
 cases hk:kC [x,y] 0 with
 | false =>
  simp only[hk,List.map_cons,List.map_nil]at cB;refine zf true O.length Tryz.func137 Tryz.ntmps137 ?_;dsimp only[Tmp,TypeId,slotsOf];refine az (ah ?_);refine bZ 4 0 ([aI i.to,aI i.op,aI i.n,a7 i.args]) rfl rfl (by rfl) ?_;simp -dsimp only[simprocAttr,↓aa,zp];refine ck (ah ?_);refine ag ?_;refine aU ?_;simp -dsimp only[simprocAttr,↓aa,zp,kL];refine ah ?_;refine cm rfl ?_;refine aU ?_;simp -dsimp only[simprocAttr,↓aa,zp,pn];refine ah ?_;refine cm rfl ?_;refine aU ?_;simp -dsimp only[simprocAttr,↓aa,zp,tx];refine ah ?_;refine cY rfl ?_;refine ck ?_;refine .inr (.inr ⟨_,cB _,ao (zj ?_)⟩);refine ah ?_;refine cY rfl ?_;refine az (ah ?_);refine aq ?_;simp -dsimp only[simprocAttr,↓aa,zp,zr,Tryz.results137,cj];refine⟨br,fu,?_⟩;simp[Mach.effect,jN,hk]
 | true =>
  simp only[hk,List.map_cons,List.map_nil]at cB;by_cases hb:x.n<0∨y.n<=x.n
  ·have vT:decide (x.n<0)=true∨(decide (x.n<0)=false∧decide (y.n<=x.n)=true):=by
    by_cases h1:x.n<0
    ·exact .inl (decide_eq_true h1)
    exact .inr ⟨decide_eq_false h1,decide_eq_true (by omega)⟩
   rcases vT with vT|⟨vT,AV⟩
   ·refine zf true O.length Tryz.func137 Tryz.ntmps137 ?_;dsimp only[Tmp,TypeId,slotsOf];refine az (ah ?_);refine bZ 4 0 ([aI i.to,aI i.op,aI i.n,a7 i.args]) rfl rfl (by rfl) ?_;simp -dsimp only[simprocAttr,↓aa,zp];refine ck (ah ?_);refine ag ?_;refine aU ?_;simp -dsimp only[simprocAttr,↓aa,zp,kL];refine ah ?_;refine cm rfl ?_;refine aU ?_;simp -dsimp only[simprocAttr,↓aa,zp,pn];refine ah ?_;refine cm rfl ?_;refine aU ?_;simp -dsimp only[simprocAttr,↓aa,zp,tx];refine ah ?_;refine cY rfl ?_;refine ck ?_;refine .inr (.inr ⟨_,cB _,ao (zj ?_)⟩);refine ah ?_;refine cm rfl ?_;refine ct ?_;refine cK ?_;simp -dsimp only[simprocAttr,↓aa,zp,vT];refine⟨ob (by kernel_rfl),?_⟩;refine ah ?_;refine cY rfl ?_;refine az (ah ?_);refine aq ?_;simp -dsimp only[simprocAttr,↓aa,zp,zr,Tryz.results137,cj];refine⟨br,fu,?_⟩;simp[Mach.effect,jN,hk,ha,hb]
   refine zf true O.length Tryz.func137 Tryz.ntmps137 ?_;dsimp only[Tmp,TypeId,slotsOf];refine az (ah ?_);refine bZ 4 0 ([aI i.to,aI i.op,aI i.n,a7 i.args]) rfl rfl (by rfl) ?_;simp -dsimp only[simprocAttr,↓aa,zp];refine ck (ah ?_);refine ag ?_;refine aU ?_;simp -dsimp only[simprocAttr,↓aa,zp,kL];refine ah ?_;refine cm rfl ?_;refine aU ?_;simp -dsimp only[simprocAttr,↓aa,zp,pn];refine ah ?_;refine cm rfl ?_;refine aU ?_;simp -dsimp only[simprocAttr,↓aa,zp,tx];refine ah ?_;refine cY rfl ?_;refine ck ?_;refine .inr (.inr ⟨_,cB _,ao (zj ?_)⟩);refine ah ?_;refine cm rfl ?_;refine ct ?_;refine cK ?_;simp -dsimp only[simprocAttr,↓aa,zp,vT,AV];refine⟨ob (by kernel_rfl),?_⟩;refine ah ?_;refine cY rfl ?_;refine az (ah ?_);refine aq ?_;simp -dsimp only[simprocAttr,↓aa,zp,zr,Tryz.results137,cj];refine⟨br,fu,?_⟩;simp[Mach.effect,jN,hk,ha,hb]
  have vT:decide (x.n<0)=false:=decide_eq_false (by omega);have AV:decide (y.n<=x.n)=false:=decide_eq_false (by omega);refine zf true O.length Tryz.func137 Tryz.ntmps137 ?_;dsimp only[Tmp,TypeId,slotsOf];refine az (ah ?_);refine bZ 4 0 ([aI i.to,aI i.op,aI i.n,a7 i.args]) rfl rfl (by rfl) ?_;simp -dsimp only[simprocAttr,↓aa,zp];refine ck (ah ?_);refine ag ?_;refine aU ?_;simp -dsimp only[simprocAttr,↓aa,zp,kL];refine ah ?_;refine cm rfl ?_;refine aU ?_;simp -dsimp only[simprocAttr,↓aa,zp,pn];refine ah ?_;refine cm rfl ?_;refine aU ?_;simp -dsimp only[simprocAttr,↓aa,zp,tx];refine ah ?_;refine cY rfl ?_;refine ck ?_;refine .inr (.inr ⟨_,cB _,ao (zj ?_)⟩);refine ah ?_;refine cm rfl ?_;refine ct ?_;refine cK ?_;simp -dsimp only[simprocAttr,↓aa,zp,vT,AV];refine⟨ob (by kernel_rfl),?_⟩;refine ah ?_;refine cm rfl ?_;refine ct ?_;refine az ?_;refine .inl ⟨_,cR 0,by simp only[av,ae.upto,zt,zu,ax],ao ?_⟩;simp -dsimp only[simprocAttr,↓aa,zp,di];refine ah ?_;refine aq ?_;simp -dsimp only[simprocAttr,↓aa,zp,zr,Tryz.results137,eW];refine⟨br,lE,?_⟩;simp[Mach.effect,jN,hk,ha,hb]
def Lu(m m':Mach)(a:Option Nat)(O O':List ai):Prop :=
 (O'=O∧m'=m)∨∃(lD dF k:Nat) (z:SV) (l:List SV),a=some lD∧O[lD]?=some (.cells [.ms dF 0 l.length l.length])∧O[dF]?=some (.cells (al (l.map SV.enc)))∧k<l.length∧l=Mach.jG m.heap a∧SV.bk O.length z ∧
  O'=O.set dF (.cells (al ((l.set k z).map SV.enc)))∧m' = { m with heap:=Mach.ke m.heap a (l.set k z) }
theorem CY{m:Mach}{O:List ai}(br:∀o∈O,o.upto O.length)(i:Ins)(args:List SV)(hl:∀v∈args,SV.bk O.length v)(x:SV)(hx:args[0]?=some x)
  (OB:i.op≠15) (Me:i.op≠16) (OC:i.op≠18) (h1:i.op≠17->∃y,args[1]?=some y) (h2:i.op≠17->i.op≠19->∃z,args[2]?=some z)
  (hu:∀v∈Mach.jG m.heap x.arr,SV.bk O.length v) (ha:x.kind=3->∃lD dF,x.arr=some lD∧O[lD]?=some (.cells [.ms dF 0 (Mach.jG m.heap x.arr).length (Mach.jG m.heap x.arr).length])∧O[dF]?=some (.cells (al ((Mach.jG m.heap x.arr).map SV.enc)))) :
  ∃O',bh Tryz.prog 137 O [.mp 2 0,i.enc,.aB 4 (args.map SV.enc) .sh] (fun r O1=>r=.cx [(m.effect i args).2.1.enc,aI (m.effect i args).2.2]∧O1=O')∧Lu m (m.effect i args).1 x.arr O O':=by
 have qZ:=fD hx;have kL:decide (i.op=15)=false:=decide_eq_false (by omega);have pn:decide (i.op=16)=false:=decide_eq_false (by omega);have tx:decide (i.op=18)=false:=decide_eq_false (by omega);by_cases hk:x.kind=3
 ·have OP:decide (x.kind=3)=true:=decide_eq_true hk;obtain⟨lD,dF,e1,e2,e3⟩:=ha hk;have Te:eP x.arr=.mp lD 0:=by rw[e1];rfl
  have XM:=hu;generalize hL:Mach.jG m.heap x.arr=L at *;have SC:∀X,(O++X)[lD]?=some (.cells [.ms dF 0 L.length L.length]):=fun X=>bS e2;have XB:∀X,(O++X)[dF]?=some (.cells (al (L.map SV.enc))):=fun X=>bS e3;by_cases Mf:i.op=17
  ·have tw:decide (i.op=17)=true:=decide_eq_true Mf;have dZ:m.effect i args=(m,.word L.length,0):=by simp[Mach.effect,Mf,qZ,hk,hL]
   rw[dZ];refine⟨O,?_,.inl ⟨rfl,rfl⟩⟩;refine zf true O.length Tryz.func137 Tryz.ntmps137 ?_;dsimp only[Tmp,TypeId,slotsOf];refine az (ah ?_);refine bZ 4 0 ([aI i.to,aI i.op,aI i.n,a7 i.args]) rfl rfl (by rfl) ?_;simp -dsimp only[simprocAttr,↓aa,zp];refine ck (ah ?_);refine ag ?_;refine aU ?_;simp -dsimp only[simprocAttr,↓aa,zp,kL];refine ah ?_;refine cm rfl ?_;refine aU ?_;simp -dsimp only[simprocAttr,↓aa,zp,pn];refine ah ?_;refine cm rfl ?_;refine aU ?_;simp -dsimp only[simprocAttr,↓aa,zp,tx];refine ah ?_;refine cm rfl ?_;refine lX ?_;refine cK ?_;simp -dsimp only[simprocAttr,↓aa,zp,hx,OP,tw];refine ah ?_;refine cm rfl ?_;refine ct ?_;refine aU ?_;simp -dsimp only[simprocAttr,↓aa,zp,hx,Te,SC];refine ah ?_;refine cK ?_;simp -dsimp only[simprocAttr,↓aa,zp,tw];refine ah ?_;refine cY rfl ?_;refine az ?_;refine .inl ⟨_,cR L.length,by simp only[av,ae.upto,zt,zu,ax],ao ?_⟩;simp -dsimp only[simprocAttr,↓aa,zp,di];refine ah ?_;refine aq ?_;simp -dsimp only[simprocAttr,↓aa,zp,zr,Tryz.results137,eW];exact⟨br,lE⟩
  have tw:decide (i.op=17)=false:=decide_eq_false Mf;obtain⟨y,hy⟩:=h1 Mf;have RP:=fD hy;by_cases GC:y.kind=0
  ·have Sd:decide (y.kind=0)=true:=decide_eq_true GC;by_cases hb:y.n<0∨(L.length:Int)<=y.n
   ·have dZ:m.effect i args=(m,.zero,2):=by simp[Mach.effect,OB,Me,OC,Mf,qZ,RP,hk,GC,hL,hb]
    rw[dZ];refine⟨O,?_,.inl ⟨rfl,rfl⟩⟩;rcases(show y.n<0∨(¬y.n<0∧(L.length:Int)<=y.n) by omega)with UR|⟨UR,EN⟩
    ·have vT:decide (y.n<0)=true:=decide_eq_true UR;refine zf true O.length Tryz.func137 Tryz.ntmps137 ?_;dsimp only[Tmp,TypeId,slotsOf];refine az (ah ?_);refine bZ 4 0 ([aI i.to,aI i.op,aI i.n,a7 i.args]) rfl rfl (by rfl) ?_;simp -dsimp only[simprocAttr,↓aa,zp];refine ck (ah ?_);refine ag ?_;refine aU ?_;simp -dsimp only[simprocAttr,↓aa,zp,kL];refine ah ?_;refine cm rfl ?_;refine aU ?_;simp -dsimp only[simprocAttr,↓aa,zp,pn];refine ah ?_;refine cm rfl ?_;refine aU ?_;simp -dsimp only[simprocAttr,↓aa,zp,tx];refine ah ?_;refine cm rfl ?_;refine lX ?_;refine cK ?_;simp -dsimp only[simprocAttr,↓aa,zp,hx,hy,OP,tw,Sd];refine ah ?_;refine cm rfl ?_;refine ct ?_;refine aU ?_;simp -dsimp only[simprocAttr,↓aa,zp,hx,Te,SC];refine ah ?_;refine cK ?_;simp -dsimp only[simprocAttr,↓aa,zp,tw];refine ah ?_;refine cm rfl ?_;refine ct ?_;refine aU ?_;simp -dsimp only[simprocAttr,↓aa,zp,hy];refine ah ?_;refine cK ?_;simp -dsimp only[simprocAttr,↓aa,zp,vT];refine ah ?_;refine cY rfl ?_;refine az (ah ?_);refine aq ?_;simp -dsimp only[simprocAttr,↓aa,zp,zr,Tryz.results137,cj];exact⟨br,fu⟩
    have vT:decide (y.n<0)=false:=decide_eq_false UR;have AV:decide ((L.length:Int)<=y.n)=true:=decide_eq_true EN;refine zf true O.length Tryz.func137 Tryz.ntmps137 ?_;dsimp only[Tmp,TypeId,slotsOf];refine az (ah ?_);refine bZ 4 0 ([aI i.to,aI i.op,aI i.n,a7 i.args]) rfl rfl (by rfl) ?_;simp -dsimp only[simprocAttr,↓aa,zp];refine ck (ah ?_);refine ag ?_;refine aU ?_;simp -dsimp only[simprocAttr,↓aa,zp,kL];refine ah ?_;refine cm rfl ?_;refine aU ?_;simp -dsimp only[simprocAttr,↓aa,zp,pn];refine ah ?_;refine cm rfl ?_;refine aU ?_;simp -dsimp only[simprocAttr,↓aa,zp,tx];refine ah ?_;refine cm rfl ?_;refine lX ?_;refine cK ?_;simp -dsimp only[simprocAttr,↓aa,zp,hx,hy,OP,tw,Sd];refine ah ?_;refine cm rfl ?_;refine ct ?_;refine aU ?_;simp -dsimp only[simprocAttr,↓aa,zp,hx,Te,SC];refine ah ?_;refine cK ?_;simp -dsimp only[simprocAttr,↓aa,zp,tw];refine ah ?_;refine cm rfl ?_;refine ct ?_;refine aU ?_;simp -dsimp only[simprocAttr,↓aa,zp,hy];refine ah ?_;refine cK ?_;simp -dsimp only[simprocAttr,↓aa,zp,vT,AV];refine ah ?_;refine cY rfl ?_;refine az (ah ?_);refine aq ?_;simp -dsimp only[simprocAttr,↓aa,zp,zr,Tryz.results137,cj];exact⟨br,fu⟩
   have vT:decide (y.n<0)=false:=decide_eq_false (by omega);have AV:decide ((L.length:Int)<=y.n)=false:=decide_eq_false (by omega);obtain⟨k,nF⟩:∃k:Nat,y.n=k:=⟨y.n.toNat,by omega⟩
   have A4:k<L.length:=by omega
   have dq:=SV.M9 L;by_cases SG:i.op=19
   ·have Qa:decide (i.op=19)=true:=decide_eq_true SG;obtain⟨z,hz⟩:∃z,L[k]?=some z:=⟨L[k],by simp[A4]⟩
    have SY:=fD hz;have e9:=SV.Fx hz;have MN:SV.bk O.length z:=XM z (List.mem_of_getElem? hz);have dZ:m.effect i args=(m,z,0):=by simp[Mach.effect,Mf,SG,qZ,RP,hk,GC,hL,hb,nF,SY,A4]
    rw[dZ];refine⟨O,?_,.inl ⟨rfl,rfl⟩⟩;refine zf true O.length Tryz.func137 Tryz.ntmps137 ?_;dsimp only[Tmp,TypeId,slotsOf];refine az (ah ?_);refine bZ 4 0 ([aI i.to,aI i.op,aI i.n,a7 i.args]) rfl rfl (by rfl) ?_;simp -dsimp only[simprocAttr,↓aa,zp];refine ck (ah ?_);refine ag ?_;refine aU ?_;simp -dsimp only[simprocAttr,↓aa,zp,kL];refine ah ?_;refine cm rfl ?_;refine aU ?_;simp -dsimp only[simprocAttr,↓aa,zp,pn];refine ah ?_;refine cm rfl ?_;refine aU ?_;simp -dsimp only[simprocAttr,↓aa,zp,tx];refine ah ?_;refine cm rfl ?_;refine lX ?_;refine cK ?_;simp -dsimp only[simprocAttr,↓aa,zp,hx,hy,OP,tw,Sd];refine ah ?_;refine cm rfl ?_;refine ct ?_;refine aU ?_;simp -dsimp only[simprocAttr,↓aa,zp,hx,Te,SC];refine ah ?_;refine cK ?_;simp -dsimp only[simprocAttr,↓aa,zp,tw];refine ah ?_;refine cm rfl ?_;refine ct ?_;refine aU ?_;simp -dsimp only[simprocAttr,↓aa,zp,hy];refine ah ?_;refine cK ?_;simp -dsimp only[simprocAttr,↓aa,zp,vT,AV];refine ah ?_;refine cm rfl ?_;refine ct ?_;refine cK ?_;simp -dsimp only[simprocAttr,↓aa,zp,Qa];refine ah ?_;refine cY rfl ?_;refine aU ?_;simp -dsimp only[simprocAttr,↓aa,zp,nF,XB,dq,e9]
    repeat(refine⟨by omega,?_⟩)
    refine ah ?_;refine aq ?_;simp -dsimp only[simprocAttr,↓aa,zp,zr,Tryz.results137];exact⟨br,vz MN⟩
   have Qa:decide (i.op=19)=false:=decide_eq_false SG;obtain⟨z,hz⟩:=h2 Mf SG;have SY:=fD hz;have ga:=SV.M' A4 z;rw[SV.aj]at ga;have MN:SV.bk O.length z:=hl z (List.mem_of_getElem? hz);have dZ:m.effect i args=({ m with heap:=Mach.ke m.heap x.arr (L.set k z) },.word 0,0):=by simp[Mach.effect,OB,Me,OC,Mf,SG,qZ,RP,hk,GC,hL,hb,nF,SY,A4]
   rw[dZ];obtain⟨O1,dM⟩:∃O1,O1=O.set dF (.cells (al ((L.set k z).map SV.enc))):=⟨_,rfl⟩
   have hlen:O.length=O1.length:=by rw[dM];simp
   have ew:∀o∈O1,o.upto O1.length:=by
    rw[<-hlen,dM];refine bg br (SV.jc fun v hv=>?_);rcases List.mem_or_eq_of_mem_set hv with q|q
    ·exact XM v q
    exact q ▸ MN
   have Dn:∀X y,(O++X).set dF y=O.set dF y++X:=fun X y=>kT e3;refine⟨O1,?_,.inr ⟨lD,dF,k,z,L,e1,e2,e3,A4,hL.symm,MN,dM,rfl⟩⟩;refine zf true O.length Tryz.func137 Tryz.ntmps137 ?_;dsimp only[Tmp,TypeId,slotsOf];refine az (ah ?_);refine bZ 4 0 ([aI i.to,aI i.op,aI i.n,a7 i.args]) rfl rfl (by rfl) ?_;simp -dsimp only[simprocAttr,↓aa,zp];refine ck (ah ?_);refine ag ?_;refine aU ?_;simp -dsimp only[simprocAttr,↓aa,zp,kL];refine ah ?_;refine cm rfl ?_;refine aU ?_;simp -dsimp only[simprocAttr,↓aa,zp,pn];refine ah ?_;refine cm rfl ?_;refine aU ?_;simp -dsimp only[simprocAttr,↓aa,zp,tx];refine ah ?_;refine cm rfl ?_;refine lX ?_;refine cK ?_;simp -dsimp only[simprocAttr,↓aa,zp,hx,hy,OP,tw,Sd];refine ah ?_;refine cm rfl ?_;refine ct ?_;refine aU ?_;simp -dsimp only[simprocAttr,↓aa,zp,hx,Te,SC];refine ah ?_;refine cK ?_;simp -dsimp only[simprocAttr,↓aa,zp,tw];refine ah ?_;refine cm rfl ?_;refine ct ?_;refine aU ?_;simp -dsimp only[simprocAttr,↓aa,zp,hy];refine ah ?_;refine cK ?_;simp -dsimp only[simprocAttr,↓aa,zp,vT,AV];refine ah ?_;refine cm rfl ?_;refine ct ?_;refine cK ?_;simp -dsimp only[simprocAttr,↓aa,zp,Qa];refine ah ?_;refine cm rfl ?_;refine ct ?_;refine aU ?_;simp -dsimp only[simprocAttr,↓aa,zp,nF,hz,XB,dq,SV.c7,ga,Dn,<-dM]
   repeat(refine⟨by omega,?_⟩)
   refine ah ?_;refine aU ?_;simp -dsimp only[simprocAttr,↓aa,zp,hlen];refine .inl ⟨_,cR 0,by simp only[av,ae.upto,zt,zu,ax],ao ?_⟩;simp -dsimp only[simprocAttr,↓aa,zp,di];refine ah ?_;refine aq ?_;simp -dsimp only[simprocAttr,↓aa,zp,zr,Tryz.results137,eW,hlen];exact⟨ew,lE⟩
  have Sd:decide (y.kind=0)=false:=decide_eq_false GC;have dZ:m.effect i args=(m,.zero,5):=by simp[Mach.effect,OB,Me,OC,Mf,qZ,RP,hk,GC]
  rw[dZ];refine⟨O,?_,.inl ⟨rfl,rfl⟩⟩;refine zf true O.length Tryz.func137 Tryz.ntmps137 ?_;dsimp only[Tmp,TypeId,slotsOf];refine az (ah ?_);refine bZ 4 0 ([aI i.to,aI i.op,aI i.n,a7 i.args]) rfl rfl (by rfl) ?_;simp -dsimp only[simprocAttr,↓aa,zp];refine ck (ah ?_);refine ag ?_;refine aU ?_;simp -dsimp only[simprocAttr,↓aa,zp,kL];refine ah ?_;refine cm rfl ?_;refine aU ?_;simp -dsimp only[simprocAttr,↓aa,zp,pn];refine ah ?_;refine cm rfl ?_;refine aU ?_;simp -dsimp only[simprocAttr,↓aa,zp,tx];refine ah ?_;refine cm rfl ?_;refine lX ?_;refine cK ?_;simp -dsimp only[simprocAttr,↓aa,zp,hx,hy,OP,tw,Sd];refine ah ?_;refine cY rfl ?_;refine az (ah ?_);refine aq ?_;simp -dsimp only[simprocAttr,↓aa,zp,zr,Tryz.results137,cj];exact⟨br,fu⟩
 have OP:decide (x.kind=3)=false:=decide_eq_false hk;have dZ:m.effect i args=(m,.zero,5):=by simp[Mach.effect,OB,Me,OC,qZ,hk]
 rw[dZ];refine⟨O,?_,.inl ⟨rfl,rfl⟩⟩;refine zf true O.length Tryz.func137 Tryz.ntmps137 ?_;dsimp only[Tmp,TypeId,slotsOf];refine az (ah ?_);refine bZ 4 0 ([aI i.to,aI i.op,aI i.n,a7 i.args]) rfl rfl (by rfl) ?_;simp -dsimp only[simprocAttr,↓aa,zp];refine ck (ah ?_);refine ag ?_;refine aU ?_;simp -dsimp only[simprocAttr,↓aa,zp,kL];refine ah ?_;refine cm rfl ?_;refine aU ?_;simp -dsimp only[simprocAttr,↓aa,zp,pn];refine ah ?_;refine cm rfl ?_;refine aU ?_;simp -dsimp only[simprocAttr,↓aa,zp,tx];refine ah ?_;refine cm rfl ?_;refine lX ?_;refine cK ?_;simp -dsimp only[simprocAttr,↓aa,zp,hx,OP];refine ah ?_;refine cY rfl ?_;refine az (ah ?_);refine aq ?_;simp -dsimp only[simprocAttr,↓aa,zp,zr,Tryz.results137,cj];exact⟨br,fu⟩
theorem IK{u:cu}{m:Mach}{O:List ai}(br:∀o∈O,o.upto O.length)(i:Ins)(args:List SV)(hl:∀v∈args,SV.bk O.length v)(jN:i.op=0):bh Tryz.prog 115 O [.mp 2 0,i.enc,.aB 4 (args.map SV.enc) .sh] (fun r O'=>r=.cx [(m.exec i args).2.1.enc,aI (m.exec i args).2.2]∧O'=O):=by
 refine zf true O.length Tryz.func115 Tryz.ntmps115 ?_;dsimp only[Tmp,TypeId,slotsOf];refine az (ah ?_);refine bZ 4 0 ([aI i.to,aI i.op,aI i.n,a7 i.args]) rfl rfl (by rfl) ?_;simp -dsimp only[simprocAttr,↓aa,zp];refine ck (ah ?_);refine ag ?_;refine az (ah ?_);apply aP rfl<;>intro h
 ·refine az ?_;refine .inl ⟨_,cR i.n,by simp only[av,ae.upto,zt,zu,ax],ao ?_⟩;simp -dsimp only[simprocAttr,↓aa,zp,di];refine ah ?_;refine aq ?_;simp -dsimp only[simprocAttr,↓aa,zp,zr,Tryz.results115,eW];refine⟨br,lE,?_⟩;simp[Mach.exec,jN]
 exact af h (by omega)
theorem C2{u:cu}{m:Mach}{O:List ai}(br:∀o∈O,o.upto O.length)(i:Ins)(args:List SV)(hl:∀v∈args,SV.bk O.length v)(jN:1<=i.op∧i.op<=7)(x y:SV)(hx:args[0]?=some x)(hy:args[1]?=some y)(QN:x.kind=0->fA x.n)(W9:y.kind=0->fA y.n):bh Tryz.prog 115 O [.mp 2 0,i.enc,.aB 4 (args.map SV.enc) .sh] (fun r O'=>r=.cx [(m.exec i args).2.1.enc,aI (m.exec i args).2.2]∧O'=O):=by
 have qZ:=fD hx;have RP:=fD hy;have cB:=yl br args hl 0;have h0:i.op≠0:=by omega
 cases hk:kC args 0 with
 | false =>
  rw[hk]at cB;refine zf true O.length Tryz.func115 Tryz.ntmps115 ?_;dsimp only[Tmp,TypeId,slotsOf];refine az (ah ?_);refine bZ 4 0 ([aI i.to,aI i.op,aI i.n,a7 i.args]) rfl rfl (by rfl) ?_;simp -dsimp only[simprocAttr,↓aa,zp];refine ck (ah ?_);refine ag ?_;refine az (ah ?_);apply aP rfl<;>intro h
  ·exact ab h (by omega)
  refine ck (ah ?_);refine iz (⟨82,[(0,.mp 2 0),(2,.aB 4 (args.map SV.enc) .sh),(4,.ip none [aI i.to,aI i.op,aI i.n,a7 i.args]),(6,.mp (O.length+1) 0),(7,aI 0),(9,aI i.op),(15,.v (.bool true))],O++[.gone,.cells [aI 0,aI 0,.aB 4 [] .ex,.v (.pointer none)]]⟩) ?_ ?_
  ·apply aP rfl<;>intro h
   ·refine ba ?_;show bj _ _;refine zq rfl ?_ ?_;simp -dsimp only[simprocAttr,↓aa,zp,zc]
    ·exact Sub.of_eq (by rw[h])
    rfl
   refine az (ah ?_);apply aP rfl<;>intro h
   ·refine ba ?_;show bj _ _;refine zq rfl ?_ ?_;simp -dsimp only[simprocAttr,↓aa,zp,zc]
    ·exact Sub.of_eq (by rw[h])
    rfl
   refine az (ah ?_);apply aP rfl<;>intro h
   ·refine ba ?_;show bj _ _;refine zq rfl ?_ ?_;simp -dsimp only[simprocAttr,↓aa,zp,zc]
    ·exact Sub.of_eq (by rw[h])
    rfl
   refine az (ah ?_);apply aP rfl<;>intro h
   ·refine ba ?_;show bj _ _;refine zq rfl ?_ ?_;simp -dsimp only[simprocAttr,↓aa,zp,zc]
    ·exact Sub.of_eq (by rw[h])
    rfl
   refine az (ah ?_);apply aP rfl<;>intro h
   ·refine ba ?_;show bj _ _;refine zq rfl ?_ ?_;simp -dsimp only[simprocAttr,↓aa,zp,zc]
    ·exact Sub.of_eq (by rw[h])
    rfl
   refine az (ah ?_);apply aP rfl<;>intro h
   ·refine ba ?_;show bj _ _;refine zq rfl ?_ ?_;simp -dsimp only[simprocAttr,↓aa,zp,zc]
    ·exact Sub.of_eq (by rw[h])
    rfl
   refine cC ?_;refine aV ?_;show bj _ _;refine zq rfl ?_ ?_;simp -dsimp only[simprocAttr,↓aa,zp,zc]
   ·exact Sub.of_eq (by rw[decide_eq_true (show i.op=7 by simp only[decide_eq_false_iff_not]at *;omega)])
   rfl
  refine cY rfl ?_;refine ck ?_;refine .inr (.inr ⟨_,cB _,ao (zj ?_)⟩);refine ah ?_;refine cY rfl ?_;refine az (ah ?_);refine aq ?_;simp -dsimp only[simprocAttr,↓aa,zp,zr,Tryz.results115,cj];refine⟨br,fu,?_⟩;simp[Mach.exec,jN,h0,hk]
 | true =>
  rw[hk]at cB;have Z4:x.kind=0:=by
   simp only[kC,List.all_eq_true,decide_eq_true_eq]at hk;exact hk x (List.mem_of_getElem? hx)
  have Z5:y.kind=0:=by
   simp only[kC,List.all_eq_true,decide_eq_true_eq]at hk;exact hk y (List.mem_of_getElem? hy)
  have VM:=sG i.op x.n y.n (QN Z4) (W9 Z5);have S4:=px O.length i.op x.n y.n;have dZ:m.exec i args=(m,db i.op x.n y.n):=by simp[Mach.exec,jN,h0,hk,qZ,RP]
  rw[dZ];generalize db i.op x.n y.n=B at *;refine zf true O.length Tryz.func115 Tryz.ntmps115 ?_;dsimp only[Tmp,TypeId,slotsOf];refine az (ah ?_);refine bZ 4 0 ([aI i.to,aI i.op,aI i.n,a7 i.args]) rfl rfl (by rfl) ?_;simp -dsimp only[simprocAttr,↓aa,zp];refine ck (ah ?_);refine ag ?_;refine az (ah ?_);apply aP rfl<;>intro h
  ·exact ab h (by omega)
  refine ck (ah ?_);refine iz (⟨82,[(0,.mp 2 0),(2,.aB 4 (args.map SV.enc) .sh),(4,.ip none [aI i.to,aI i.op,aI i.n,a7 i.args]),(6,.mp (O.length+1) 0),(7,aI 0),(9,aI i.op),(15,.v (.bool true))],O++[.gone,.cells [aI 0,aI 0,.aB 4 [] .ex,.v (.pointer none)]]⟩) ?_ ?_
  ·apply aP rfl<;>intro h
   ·refine ba ?_;show bj _ _;refine zq rfl ?_ ?_;simp -dsimp only[simprocAttr,↓aa,zp,zc]
    ·exact Sub.of_eq (by rw[h])
    rfl
   refine az (ah ?_);apply aP rfl<;>intro h
   ·refine ba ?_;show bj _ _;refine zq rfl ?_ ?_;simp -dsimp only[simprocAttr,↓aa,zp,zc]
    ·exact Sub.of_eq (by rw[h])
    rfl
   refine az (ah ?_);apply aP rfl<;>intro h
   ·refine ba ?_;show bj _ _;refine zq rfl ?_ ?_;simp -dsimp only[simprocAttr,↓aa,zp,zc]
    ·exact Sub.of_eq (by rw[h])
    rfl
   refine az (ah ?_);apply aP rfl<;>intro h
   ·refine ba ?_;show bj _ _;refine zq rfl ?_ ?_;simp -dsimp only[simprocAttr,↓aa,zp,zc]
    ·exact Sub.of_eq (by rw[h])
    rfl
   refine az (ah ?_);apply aP rfl<;>intro h
   ·refine ba ?_;show bj _ _;refine zq rfl ?_ ?_;simp -dsimp only[simprocAttr,↓aa,zp,zc]
    ·exact Sub.of_eq (by rw[h])
    rfl
   refine az (ah ?_);apply aP rfl<;>intro h
   ·refine ba ?_;show bj _ _;refine zq rfl ?_ ?_;simp -dsimp only[simprocAttr,↓aa,zp,zc]
    ·exact Sub.of_eq (by rw[h])
    rfl
   refine cC ?_;refine aV ?_;show bj _ _;refine zq rfl ?_ ?_;simp -dsimp only[simprocAttr,↓aa,zp,zc]
   ·exact Sub.of_eq (by rw[decide_eq_true (show i.op=7 by simp only[decide_eq_false_iff_not]at *;omega)])
   rfl
  refine cY rfl ?_;refine ck ?_;refine .inr (.inr ⟨_,cB _,ao (zj ?_)⟩);refine ah ?_;refine cm rfl ?_;refine ct ?_;refine aU ?_;simp -dsimp only[simprocAttr,↓aa,zp,hx,hy];refine zi VM ?_;refine⟨ob (by kernel_rfl),?_⟩;refine ah ?_;refine aq ?_;simp -dsimp only[simprocAttr,↓aa,zp,zr,Tryz.results115];exact⟨br,vz S4⟩
theorem IJ{u:cu}{m:Mach}{O:List ai}(br:∀o∈O,o.upto O.length)(i:Ins)(args:List SV)(hl:∀v∈args,SV.bk O.length v)(jN:i.op=8):bh Tryz.prog 115 O [.mp 2 0,i.enc,.aB 4 (args.map SV.enc) .sh] (fun r O'=>r=.cx [(m.exec i args).2.1.enc,aI (m.exec i args).2.2]∧O'=O):=by
 have hz:=(SV.bk.mk (k:=1) (m:=i.n) (a:=none) (by simp) hl).aL;rw[SV.jd]at hz;refine zf true O.length Tryz.func115 Tryz.ntmps115 ?_;dsimp only[Tmp,TypeId,slotsOf];refine az (ah ?_);refine bZ 4 0 ([aI i.to,aI i.op,aI i.n,a7 i.args]) rfl rfl (by rfl) ?_;simp -dsimp only[simprocAttr,↓aa,zp];refine ck (ah ?_);refine ag ?_;refine az (ah ?_);apply aP rfl<;>intro h
 ·exact ab h (by omega)
 refine ck (ah ?_);apply aP rfl<;>intro h
 ·exact ab h (by omega)
 refine az (ah ?_);apply aP rfl<;>intro h
 ·exact ab h (by omega)
 refine az (ah ?_);apply aP rfl<;>intro h
 ·exact ab h (by omega)
 refine az (ah ?_);apply aP rfl<;>intro h
 ·exact ab h (by omega)
 refine az (ah ?_);apply aP rfl<;>intro h
 ·exact ab h (by omega)
 refine az (ah ?_);apply aP rfl<;>intro h
 ·exact ab h (by omega)
 refine cC (ah ?_);apply aP rfl<;>intro h
 ·exact ab h (by omega)
 refine az (ah ?_);apply aP rfl<;>intro h
 ·refine az (ah ?_);refine aq ?_;simp -dsimp only[simprocAttr,↓aa,zp,zr,Tryz.results115];refine⟨br,⟨hz,trivial,trivial⟩,?_⟩;simp[Mach.exec,jN,SV.jd,eP]
 exact af h (by omega)
theorem F6{u:cu}{m:Mach}{O:List ai}(br:∀o∈O,o.upto O.length)(i:Ins)(args:List SV)(hl:∀v∈args,SV.bk O.length v)(jN:i.op=9):bh Tryz.prog 115 O [.mp 2 0,i.enc,.aB 4 (args.map SV.enc) .sh] (fun r O'=>r=.cx [(m.exec i args).2.1.enc,aI (m.exec i args).2.2]∧O'=O):=by
 have hz:=(SV.bk.mk (k:=2) (m:=i.n) (a:=none) (by simp) hl).aL;rw[SV.jd]at hz;refine zf true O.length Tryz.func115 Tryz.ntmps115 ?_;dsimp only[Tmp,TypeId,slotsOf];refine az (ah ?_);refine bZ 4 0 ([aI i.to,aI i.op,aI i.n,a7 i.args]) rfl rfl (by rfl) ?_;simp -dsimp only[simprocAttr,↓aa,zp];refine ck (ah ?_);refine ag ?_;refine az (ah ?_);apply aP rfl<;>intro h
 ·exact ab h (by omega)
 refine ck (ah ?_);apply aP rfl<;>intro h
 ·exact ab h (by omega)
 refine az (ah ?_);apply aP rfl<;>intro h
 ·exact ab h (by omega)
 refine az (ah ?_);apply aP rfl<;>intro h
 ·exact ab h (by omega)
 refine az (ah ?_);apply aP rfl<;>intro h
 ·exact ab h (by omega)
 refine az (ah ?_);apply aP rfl<;>intro h
 ·exact ab h (by omega)
 refine az (ah ?_);apply aP rfl<;>intro h
 ·exact ab h (by omega)
 refine cC (ah ?_);apply aP rfl<;>intro h
 ·exact ab h (by omega)
 refine az (ah ?_);apply aP rfl<;>intro h
 ·exact ab h (by omega)
 refine az (ah ?_);apply aP rfl<;>intro h
 ·refine az (ah ?_);refine aq ?_;simp -dsimp only[simprocAttr,↓aa,zp,zr,Tryz.results115];refine⟨br,⟨hz,trivial,trivial⟩,?_⟩;simp[Mach.exec,jN,SV.jd,eP]
 exact af h (by omega)
theorem IL{u:cu}{m:Mach}{O:List ai}(br:∀o∈O,o.upto O.length)(i:Ins)(args:List SV)(hl:∀v∈args,SV.bk O.length v)(jN:i.op=10∨i.op=11∨i.op=12∨i.op=21)(hC:bh Tryz.prog 135 O [i.enc,.aB 4 (args.map SV.enc) .sh] (fun r O'=>r=.cx [(cO i args).1.enc,aI (cO i args).2]∧O'=O))(hR:SV.bk O.length (cO i args).1):bh Tryz.prog 115 O [.mp 2 0,i.enc,.aB 4 (args.map SV.enc) .sh] (fun r O'=>r=.cx [(m.exec i args).2.1.enc,aI (m.exec i args).2.2]∧O'=O):=by
 have eC:=bh.frame hC rfl ⟨i.aL _,⟨SV.ak hl,trivial⟩,trivial⟩ br;have dZ:m.exec i args=(m,cO i args):=by
  unfold Mach.exec;rw[if_neg (by omega),if_neg (by omega),if_neg (by omega),if_neg (by omega),if_pos jN]
 rw[dZ];generalize cO i args=B at *;refine zf true O.length Tryz.func115 Tryz.ntmps115 ?_;dsimp only[Tmp,TypeId,slotsOf];refine az (ah ?_);refine bZ 4 0 ([aI i.to,aI i.op,aI i.n,a7 i.args]) rfl rfl (by rfl) ?_;simp -dsimp only[simprocAttr,↓aa,zp];refine ck (ah ?_);refine ag ?_;refine az (ah ?_);apply aP rfl<;>intro h
 ·exact ab h (by omega)
 refine ck (ah ?_);apply aP rfl<;>intro h
 ·exact ab h (by omega)
 refine az (ah ?_);apply aP rfl<;>intro h
 ·exact ab h (by omega)
 refine az (ah ?_);apply aP rfl<;>intro h
 ·exact ab h (by omega)
 refine az (ah ?_);apply aP rfl<;>intro h
 ·exact ab h (by omega)
 refine az (ah ?_);apply aP rfl<;>intro h
 ·exact ab h (by omega)
 refine az (ah ?_);apply aP rfl<;>intro h
 ·exact ab h (by omega)
 refine cC (ah ?_);apply aP rfl<;>intro h
 ·exact ab h (by omega)
 refine az (ah ?_);apply aP rfl<;>intro h
 ·exact ab h (by omega)
 refine az (ah ?_);apply aP rfl<;>intro h
 ·exact ab h (by omega)
 refine ck (ah ?_);refine iz (⟨82,[(0,.mp 2 0),(2,.aB 4 (args.map SV.enc) .sh),(4,.ip none [aI i.to,aI i.op,aI i.n,a7 i.args]),(6,.mp (O.length+1) 0),(7,aI 0),(9,aI i.op),(52,.v (.bool true))],O++[.gone,.cells [aI 0,aI 0,.aB 4 [] .ex,.v (.pointer none)]]⟩) ?_ ?_
 ·apply aP rfl<;>intro h
  ·refine ba ?_;show bj _ _;refine zq rfl ?_ ?_;simp -dsimp only[simprocAttr,↓aa,zp,zc]
   ·exact Sub.of_eq (by rw[h])
   rfl
  refine az (ah ?_);apply aP rfl<;>intro h
  ·refine ba ?_;show bj _ _;refine zq rfl ?_ ?_;simp -dsimp only[simprocAttr,↓aa,zp,zc]
   ·exact Sub.of_eq (by rw[h])
   rfl
  refine az (ah ?_);apply aP rfl<;>intro h
  ·refine ba ?_;show bj _ _;refine zq rfl ?_ ?_;simp -dsimp only[simprocAttr,↓aa,zp,zc]
   ·exact Sub.of_eq (by rw[h])
   rfl
  refine cC ?_;refine aV ?_;show bj _ _;refine zq rfl ?_ ?_;simp -dsimp only[simprocAttr,↓aa,zp,zc]
  ·exact Sub.of_eq (by rw[decide_eq_true (show i.op=21 by simp only[decide_eq_false_iff_not]at *;omega)])
  rfl
 refine cY rfl ?_;refine az ?_;refine .inr (.inr ⟨_,eC _,ao (zj ?_)⟩);refine ah ?_;refine aq ?_;simp -dsimp only[simprocAttr,↓aa,zp,zr,Tryz.results115];exact⟨br,vz hR⟩
theorem IM{u:cu}{m:Mach}{O:List ai}(br:∀o∈O,o.upto O.length)(i:Ins)(args:List SV)(hl:∀v∈args,SV.bk O.length v)(jN:i.op=22∨i.op=23∨i.op=24)(hC:bh Tryz.prog 136 O [i.enc,.aB 4 (args.map SV.enc) .sh] (fun r O'=>r=.cx [(dc i args).1.enc,aI (dc i args).2]∧O'=O))(hR:SV.bk O.length (dc i args).1):bh Tryz.prog 115 O [.mp 2 0,i.enc,.aB 4 (args.map SV.enc) .sh] (fun r O'=>r=.cx [(m.exec i args).2.1.enc,aI (m.exec i args).2.2]∧O'=O):=by
 have eC:=bh.frame hC rfl ⟨i.aL _,⟨SV.ak hl,trivial⟩,trivial⟩ br;have dZ:m.exec i args=(m,dc i args):=by
  unfold Mach.exec;rw[if_neg (by omega),if_neg (by omega),if_neg (by omega),if_neg (by omega),if_neg (by omega),if_pos jN]
 rw[dZ];generalize dc i args=B at *;refine zf true O.length Tryz.func115 Tryz.ntmps115 ?_;dsimp only[Tmp,TypeId,slotsOf];refine az (ah ?_);refine bZ 4 0 ([aI i.to,aI i.op,aI i.n,a7 i.args]) rfl rfl (by rfl) ?_;simp -dsimp only[simprocAttr,↓aa,zp];refine ck (ah ?_);refine ag ?_;refine az (ah ?_);apply aP rfl<;>intro h
 ·exact ab h (by omega)
 refine ck (ah ?_);apply aP rfl<;>intro h
 ·exact ab h (by omega)
 refine az (ah ?_);apply aP rfl<;>intro h
 ·exact ab h (by omega)
 refine az (ah ?_);apply aP rfl<;>intro h
 ·exact ab h (by omega)
 refine az (ah ?_);apply aP rfl<;>intro h
 ·exact ab h (by omega)
 refine az (ah ?_);apply aP rfl<;>intro h
 ·exact ab h (by omega)
 refine az (ah ?_);apply aP rfl<;>intro h
 ·exact ab h (by omega)
 refine cC (ah ?_);apply aP rfl<;>intro h
 ·exact ab h (by omega)
 refine az (ah ?_);apply aP rfl<;>intro h
 ·exact ab h (by omega)
 refine az (ah ?_);apply aP rfl<;>intro h
 ·exact ab h (by omega)
 refine ck (ah ?_);apply aP rfl<;>intro h
 ·exact ab h (by omega)
 refine az (ah ?_);apply aP rfl<;>intro h
 ·exact ab h (by omega)
 refine az (ah ?_);apply aP rfl<;>intro h
 ·exact ab h (by omega)
 refine cC (ah ?_);apply aP rfl<;>intro h
 ·exact ab h (by omega)
 refine ck (ah ?_);refine iz (⟨82,[(0,.mp 2 0),(2,.aB 4 (args.map SV.enc) .sh),(4,.ip none [aI i.to,aI i.op,aI i.n,a7 i.args]),(6,.mp (O.length+1) 0),(7,aI 0),(9,aI i.op),(62,.v (.bool true))],O++[.gone,.cells [aI 0,aI 0,.aB 4 [] .ex,.v (.pointer none)]]⟩) ?_ ?_
 ·apply aP rfl<;>intro h
  ·refine ba ?_;show bj _ _;refine zq rfl ?_ ?_;simp -dsimp only[simprocAttr,↓aa,zp,zc]
   ·exact Sub.of_eq (by rw[h])
   rfl
  refine az (ah ?_);apply aP rfl<;>intro h
  ·refine ba ?_;show bj _ _;refine zq rfl ?_ ?_;simp -dsimp only[simprocAttr,↓aa,zp,zc]
   ·exact Sub.of_eq (by rw[h])
   rfl
  refine cC ?_;refine aV ?_;show bj _ _;refine zq rfl ?_ ?_;simp -dsimp only[simprocAttr,↓aa,zp,zc]
  ·exact Sub.of_eq (by rw[decide_eq_true (show i.op=24 by simp only[decide_eq_false_iff_not]at *;omega)])
  rfl
 refine cY rfl ?_;refine az ?_;refine .inr (.inr ⟨_,eC _,ao (zj ?_)⟩);refine ah ?_;refine aq ?_;simp -dsimp only[simprocAttr,↓aa,zp,zr,Tryz.results115];exact⟨br,vz hR⟩
theorem F7{u:cu}{m:Mach}{O:List ai}(br:∀o∈O,o.upto O.length)(i:Ins)(args:List SV)(hl:∀v∈args,SV.bk O.length v)(jN:i.op=100)(x:SV)(hx:args[0]?=some x):bh Tryz.prog 115 O [.mp 2 0,i.enc,.aB 4 (args.map SV.enc) .sh] (fun r O'=>r=.cx [(m.exec i args).2.1.enc,aI (m.exec i args).2.2]∧O'=O):=by
 have qZ:=fD hx;have E1:=hl x (List.mem_of_getElem? hx);refine zf true O.length Tryz.func115 Tryz.ntmps115 ?_;dsimp only[Tmp,TypeId,slotsOf];refine az (ah ?_);refine bZ 4 0 ([aI i.to,aI i.op,aI i.n,a7 i.args]) rfl rfl (by rfl) ?_;simp -dsimp only[simprocAttr,↓aa,zp];refine ck (ah ?_);refine ag ?_;refine az (ah ?_);apply aP rfl<;>intro h
 ·exact ab h (by omega)
 refine ck (ah ?_);apply aP rfl<;>intro h
 ·exact ab h (by omega)
 refine az (ah ?_);apply aP rfl<;>intro h
 ·exact ab h (by omega)
 refine az (ah ?_);apply aP rfl<;>intro h
 ·exact ab h (by omega)
 refine az (ah ?_);apply aP rfl<;>intro h
 ·exact ab h (by omega)
 refine az (ah ?_);apply aP rfl<;>intro h
 ·exact ab h (by omega)
 refine az (ah ?_);apply aP rfl<;>intro h
 ·exact ab h (by omega)
 refine cC (ah ?_);apply aP rfl<;>intro h
 ·exact ab h (by omega)
 refine az (ah ?_);apply aP rfl<;>intro h
 ·exact ab h (by omega)
 refine az (ah ?_);apply aP rfl<;>intro h
 ·exact ab h (by omega)
 refine ck (ah ?_);apply aP rfl<;>intro h
 ·exact ab h (by omega)
 refine az (ah ?_);apply aP rfl<;>intro h
 ·exact ab h (by omega)
 refine az (ah ?_);apply aP rfl<;>intro h
 ·exact ab h (by omega)
 refine cC (ah ?_);apply aP rfl<;>intro h
 ·exact ab h (by omega)
 refine ck (ah ?_);apply aP rfl<;>intro h
 ·exact ab h (by omega)
 refine az (ah ?_);apply aP rfl<;>intro h
 ·exact ab h (by omega)
 refine cC (ah ?_);apply aP rfl<;>intro h
 ·exact ab h (by omega)
 refine az (ah ?_);apply aP rfl<;>intro h
 ·refine aU ?_;simp -dsimp only[simprocAttr,↓aa,zp,hx];refine ah ?_;refine aq ?_;simp -dsimp only[simprocAttr,↓aa,zp,zr,Tryz.results115];refine⟨br,vz E1,?_⟩;simp[Mach.exec,jN,qZ]
 exact af h (by omega)
theorem AN(m:Mach)(i:Ins)(args:List SV)(h0:i.op≠0)(h1:¬(1<=i.op∧i.op<=7))(h8:i.op≠8)(h9:i.op≠9)(Mc:i.op≠10∧i.op≠11∧i.op≠12∧i.op≠21)(UM:i.op≠22∧i.op≠23∧i.op≠24)(uT:i.op≠100):m.exec i args=m.effect i args:=by
 unfold Mach.exec;rw[if_neg h0,if_neg h1,if_neg h8,if_neg h9,if_neg (by omega),if_neg (by omega),if_neg uT]
theorem nN{O O':List ai}(br:∀o∈O,o.upto O.length)(i:Ins)(args:List SV)(hl:∀v∈args,SV.bk O.length v)(h0:i.op≠0)(h1:¬(1<=i.op∧i.op<=7))(h8:i.op≠8)(h9:i.op≠9)(Mc:i.op≠10∧i.op≠11∧i.op≠12∧i.op≠21)(UM:i.op≠22∧i.op≠23∧i.op≠24)(uT:i.op≠100)(mg:2<O.length)(v:SV)(t:Int)(hv:SV.bk O.length v)
  (hC:bh Tryz.prog 137 O [.mp 2 0,i.enc,.aB 4 (args.map SV.enc) .sh] (fun r O1=>r=.cx [v.enc,aI t]∧O1=O')) (hlen:O.length=O'.length) (mj:∀o∈O',o.upto O'.length) :
  bh Tryz.prog 115 O [.mp 2 0,i.enc,.aB 4 (args.map SV.enc) .sh] (fun r O1=>r=.cx [v.enc,aI t]∧O1=O'):=by
 have eC:=bh.frame hC hlen.symm ⟨mg,i.aL _,⟨SV.ak hl,trivial⟩,trivial⟩ br;rw[hlen]at hv;refine zf true O.length Tryz.func115 Tryz.ntmps115 ?_;dsimp only[Tmp,TypeId,slotsOf];refine az (ah ?_);refine bZ 4 0 ([aI i.to,aI i.op,aI i.n,a7 i.args]) rfl rfl (by rfl) ?_;simp -dsimp only[simprocAttr,↓aa,zp];refine ck (ah ?_);refine ag ?_;refine az (ah ?_);apply aP rfl<;>intro h
 ·exact ab h (by omega)
 refine ck (ah ?_);apply aP rfl<;>intro h
 ·exact ab h (by omega)
 refine az (ah ?_);apply aP rfl<;>intro h
 ·exact ab h (by omega)
 refine az (ah ?_);apply aP rfl<;>intro h
 ·exact ab h (by omega)
 refine az (ah ?_);apply aP rfl<;>intro h
 ·exact ab h (by omega)
 refine az (ah ?_);apply aP rfl<;>intro h
 ·exact ab h (by omega)
 refine az (ah ?_);apply aP rfl<;>intro h
 ·exact ab h (by omega)
 refine cC (ah ?_);apply aP rfl<;>intro h
 ·exact ab h (by omega)
 refine az (ah ?_);apply aP rfl<;>intro h
 ·exact ab h (by omega)
 refine az (ah ?_);apply aP rfl<;>intro h
 ·exact ab h (by omega)
 refine ck (ah ?_);apply aP rfl<;>intro h
 ·exact ab h (by omega)
 refine az (ah ?_);apply aP rfl<;>intro h
 ·exact ab h (by omega)
 refine az (ah ?_);apply aP rfl<;>intro h
 ·exact ab h (by omega)
 refine cC (ah ?_);apply aP rfl<;>intro h
 ·exact ab h (by omega)
 refine ck (ah ?_);apply aP rfl<;>intro h
 ·exact ab h (by omega)
 refine az (ah ?_);apply aP rfl<;>intro h
 ·exact ab h (by omega)
 refine cC (ah ?_);apply aP rfl<;>intro h
 ·exact ab h (by omega)
 refine az (ah ?_);apply aP rfl<;>intro h
 ·exact ab h (by omega)
 refine lX ?_;refine az ?_;refine .inr (.inl ⟨_,_,eC _,.inl (ao ?_)⟩);simp -dsimp only[simprocAttr,↓aa,zp,hlen];refine ah ?_;refine aq ?_;simp -dsimp only[simprocAttr,↓aa,zp,zr,Tryz.results115,hlen];exact⟨mj,vz hv⟩
theorem L0{u:cu}{m:Mach}{O:List ai}(br:∀o∈O,o.upto O.length)(EL:O[2]?=some (.cells (aA u m)))(i:Ins)(size fill:SV)(hs:SV.bk O.length size)(hf:SV.bk O.length fill)
  (jN:i.op=16) (C8:0<=m.left) (h2:m.left<=2 ^ 40) (jx:m.short=false) (hk:size.kind=0) (z7:0<=size.n) (ET:size.n<=1024) (hp:size.n<=m.left) :
  bh Tryz.prog 115 O [.mp 2 0,i.enc,.aB 4 [size.enc,fill.enc] .sh] (fun r O'=>r=.cx [.agg [aI 3,aI 0,.aB 4 [] .sh,.mp (O.length+8) 0],aI 0]∧O'=O.set 2 (.cells (aA u (m.fI size.n))) ++
   [.gone,.cells [aI 3,aI 0,.aB 4 [] .sh,.mp (O.length+8) 0],.gone,.cells [aI 3,aI 0,.aB 4 [] .sh,.mp (O.length+8) 0],.gone,.gone,.cells [aI 3,aI 0,.aB 4 [] .ex,.mp (O.length+8) 0],.cells (al ((List.replicate size.n.toNat fill).map SV.enc)),.cells [.ms (O.length+7) 0 size.n.toNat size.n.toNat]]):=by
 have Gy:∀o∈O++[.gone,.cells [aI 0,aI 0,.aB 4 [] .ex,.v (.pointer none)]],o.upto (O++[ai.gone,.cells [aI 0,aI 0,.aB 4 [] .ex,.v (.pointer none)]]).length:=fun o ho=>by
  rcases List.mem_append.1 ho with ho|ho
  ·exact ai.bK (by simp) (br o ho)
  simp only[List.mem_cons,List.mem_nil_iff,or_false]at ho;rcases ho with rfl|rfl
  ·trivial
  simp[ai.upto,av,ae.upto]
 have Wn:(O++[ai.gone,.cells [aI 0,aI 0,.aB 4 [] .ex,.v (.pointer none)]]).length=O.length+2:=by simp
 have eC:=F4 Gy (bS EL) i size fill (hs.mono (by simp)) (hf.mono (by simp)) jN C8 h2 jx hk z7 ET hp;have ew:=bo br EL (ds:=aA u (m.fI size.n)) (fun h=>bU h (o7 m size.n));rw[kT EL,Wn]at eC;obtain⟨O1,dM⟩:∃O1,O1=O.set 2 (.cells (aA u (m.fI size.n))):=⟨_,rfl⟩
 have hlen:O.length=O1.length:=by rw[dM];simp
 simp only[<-dM]at eC ew ⊢;rw[hlen]at ew;have iw:∀v∈List.replicate size.n.toNat fill,SV.bk (O1.length+9) v:=fun v hv=>by
  rw[(List.mem_replicate.1 hv).2];exact hf.mono (by omega)
 have hc:=SV.jc iw;have h0:i.op≠0:=by omega
 generalize dq:al ((List.replicate size.n.toNat fill).map SV.enc)=row at *;refine zf true (O.length+9) Tryz.func115 Tryz.ntmps115 ?_;dsimp only[Tmp,TypeId,slotsOf];refine az (ah ?_);refine bZ 4 0 ([aI i.to,aI i.op,aI i.n,a7 i.args]) rfl rfl (by rfl) ?_;simp -dsimp only[simprocAttr,↓aa,zp];refine ck (ah ?_);refine ag ?_;refine az (ah ?_);apply aP rfl<;>intro h
 ·exact ab h (by omega)
 refine ck (ah ?_);apply aP rfl<;>intro h
 ·exact ab h (by omega)
 refine az (ah ?_);apply aP rfl<;>intro h
 ·exact ab h (by omega)
 refine az (ah ?_);apply aP rfl<;>intro h
 ·exact ab h (by omega)
 refine az (ah ?_);apply aP rfl<;>intro h
 ·exact ab h (by omega)
 refine az (ah ?_);apply aP rfl<;>intro h
 ·exact ab h (by omega)
 refine az (ah ?_);apply aP rfl<;>intro h
 ·exact ab h (by omega)
 refine cC (ah ?_);apply aP rfl<;>intro h
 ·exact ab h (by omega)
 refine az (ah ?_);apply aP rfl<;>intro h
 ·exact ab h (by omega)
 refine az (ah ?_);apply aP rfl<;>intro h
 ·exact ab h (by omega)
 refine ck (ah ?_);apply aP rfl<;>intro h
 ·exact ab h (by omega)
 refine az (ah ?_);apply aP rfl<;>intro h
 ·exact ab h (by omega)
 refine az (ah ?_);apply aP rfl<;>intro h
 ·exact ab h (by omega)
 refine cC (ah ?_);apply aP rfl<;>intro h
 ·exact ab h (by omega)
 refine ck (ah ?_);apply aP rfl<;>intro h
 ·exact ab h (by omega)
 refine az (ah ?_);apply aP rfl<;>intro h
 ·exact ab h (by omega)
 refine cC (ah ?_);apply aP rfl<;>intro h
 ·exact ab h (by omega)
 refine az (ah ?_);apply aP rfl<;>intro h
 ·exact ab h (by omega)
 refine lX ?_;refine az ?_;refine .inr (.inl ⟨_,_,eC,.inl (ao ?_)⟩);simp -dsimp only[simprocAttr,↓aa,zp,hlen];refine ah ?_;refine aq ?_;simp -dsimp only[simprocAttr,↓aa,zp,zr,Tryz.results115,hlen];rw[pe];refine⟨fun o ho=>?_,by simp[av,ae.upto],rfl⟩;rcases List.mem_append.1 ho with ho|ho
 ·exact ai.bK (by omega) (ew o ho)
 simp only[List.take_succ_cons,List.take_zero,List.mem_cons,List.mem_nil_iff,or_false]at ho;rcases ho with rfl|rfl|rfl|rfl|rfl|rfl|rfl|rfl|rfl
 ·trivial
 ·simp[ai.upto,av,ae.upto]
 ·trivial
 ·simp[ai.upto,av,ae.upto]
 ·trivial
 ·trivial
 ·simp[ai.upto,av,ae.upto]
 ·exact hc
 simp[ai.upto,av,ae.upto]
theorem pK:∀{es:List (Int×SV)} {ps:List Int} {l:List SV} {j:Nat} {p:Int} {a:SV},ps[j]?=some p->l[j]?=some a->gh es (ps.take (j+1)) (l.take (j+1))=eT (gh es (ps.take j) (l.take j)) p a
 | es,q::ps,b::l,0,p,a,h1,h2=>by
  simp only[List.getElem?_cons_zero,Option.some.injEq]at h1 h2;subst h1;subst h2;simp[gh]
 | es,q::ps,b::l,j+1,p,a,h1,h2=>by
  have ih:=pK (es:=eT es q b) (ps:=ps) (l:=l) (j:=j) (by simpa using h1) (by simpa using h2);simp only[List.take_succ_cons,gh];exact ih
 | _,[],_,_,_,_,h1,_=>by simp at h1
 | _,_::_,[],_,_,_,_,h2=>by simp at h2
theorem uj(es:List (Int×SV))(ps:List Int)(l:List SV):gh es (ps.take 0) (l.take 0)=es:=by simp[gh]
theorem ky:∀{es:List (Int×SV)} {ps:List Int} {l:List SV} {e:Int×SV},e∈gh es ps l->e∈es∨e.2∈l
 | es,[],_,e,h=>.inl (by simpa[gh]using h)
 | es,_::_,[],e,h=>.inl (by simpa[gh]using h)
 | es,p::ps,a::l,e,h=>by
  simp only[gh]at h;rcases ky h with h|h
  ·rcases jk h with h|h
   ·exact .inl h
   exact .inr (by simp[h])
  exact .inr (by simp[h])
theorem lr{u:cu}{k:Int}(h0:0<=k)(h1:k<u.fns.length):u.fns[k.toNat]?=some (cS u k):=by
 have a8:k.toNat<u.fns.length:=by omega
 simp[cS,a8]
theorem eK{f:Func}{k:Int}(h0:0<=k)(h1:k<f.blocks.length):f.blocks[k.toNat]?=some (aY f k):=by
 have a8:k.toNat<f.blocks.length:=by omega
 simp[aY,a8]
theorem AK{es:List (Int×SV)}{n:Nat}(h:∀e∈es,SV.bk n e.2):lC n (es.map gv):=by
 induction es with
 | nil=>trivial
 | cons e r ih=>exact⟨(h e (by simp)).aL,ih fun x hx=>h x (by simp[hx])⟩
theorem AQ{u:cu}{m:Mach}{O:List ai}(br:∀o∈O,o.upto O.length)(h0:O[2]?=some (.cells (aA u m)))(f:Fr)(hf:O[f.bT]?=some (.cells (aS f)))(hv:O[f.dt]?=some (.map (.int .i64) (f.vals.map gv)))
  (hu:∀e∈f.vals,SV.bk O.length e.2) (n0f:2≠f.bT) (n0m:2≠f.dt) (tT:f.bT≠f.dt) (rf:0<=f.fn∧f.fn<u.fns.length) (e:Edge) (he:yh (cS u f.fn) e) (f':Fr)
  (fi:f' = { f with blk:=e.block,pos:=0,vals:=gh f.vals (aY (cS u f.fn) e.block).params (fY f.vals e.args) }) :
  bh Tryz.prog 129 O [.mp 2 0,.mp f.bT 0,e.enc] (fun r O'=>r=.cx []∧O'=(O.set f.bT (.cells (aS f'))).set f.dt (.map (.int .i64) (f'.vals.map gv))):=by
 have gD:=jq br hf hv hu e.args he.len;have hF:=lr rf.1 rf.2;have hB:=eK he.lo he.hi;have lN:=he.args;have iJ:=he.lo;have XU:=he.len;have gG:=I hf;have Jh:=I hv;have eo:=I h0;have YB:=oy hu e.args;have lx:(fY f.vals e.args).length=e.args.length:=by simp[fY]
 generalize hTk:fY f.vals e.args=T at *;generalize aY (cS u f.fn) e.block=B at *;generalize cS u f.fn=F at *;have hTm:=SV.ak YB;have hc:[aI f.fn,aI e.block,aI 0,aI f.to,.mm f.dt]=aS f':=by
  rw[fi];rfl
 obtain⟨O1,dM⟩:∃O1,O1=O.set f.bT (.cells (aS f')):=⟨_,rfl⟩
 have hlen:O.length=O1.length:=by rw[dM];simp
 have hs:=dr hf;have rh:O1[2]?=some (.cells (aA u m)):=by rw[dM];exact aW h0 n0f.symm
 have nD:O1[f.bT]?=some (.cells (aS f')):=by rw[dM];exact hs _
 have vW:O1[f.dt]?=some (.map (.int .i64) (f.vals.map gv)):=by rw[dM];exact aW hv tT
 have ew:∀o∈O1,o.upto O1.length:=by
  rw[<-hlen,dM];refine bo br hf fun h=>?_;simp only[aS,av,ae.upto,true_and,and_true]at h ⊢;rw[fi];exact h
 rw[<-dM];have OW:∀x,(O1.set f.dt x)[2]?=some (.cells (aA u m)):=fun x=>aW rh n0m.symm;have I4:∀x,(O1.set f.dt x)[f.bT]?=some (.cells (aS f')):=fun x=>aW nD tT.symm;have Ph:∀x,(O1.set f.dt x)[f.dt]?=some x:=dr vW;unfold aA at rh OW;have ef:=hf;unfold aS at ef;have Tt:aS f'=[aI f.fn,aI e.block,aI 0,aI f.to,.mm f.dt]:=hc.symm;have Tn:=nD;have Tp:=I4;rw[Tt]at Tn Tp;have Dn:O1.set f.dt (.map (.int .i64) (f.vals.map gv))=O1:=jW vW;have jf:∀x,(O1.set f.dt x).take O1.length=O1.set f.dt x:=fun x=>b6;refine zf true O.length Tryz.func129 Tryz.ntmps129 ?_;dsimp only[Tmp,TypeId,slotsOf];refine az (ah ?_);refine aK 5 ([aI e.block,a7 e.args]) [(0,.mp 2 0),(1,.mp f.bT 0),(5,.ip none [aI e.block,a7 e.args])] rfl (by rfl) (by omega) (by simp[bt,bc,Go.Av.look]) ?_ ?_ ?_
 ·exact br
 ·simp[av,ae.upto,ax,gG,eo]
 refine az ?_;refine .inr (.inr ⟨_,gD,ao (zj ?_)⟩);refine ah ?_;refine aU ?_;simp -dsimp only[simprocAttr,↓aa,zp,ef,hs,List.set_set,hc,<-dM];refine ah ?_;refine aU ?_;simp -dsimp only[simprocAttr,↓aa,zp,rh,Tn,hF,hB]
 repeat(refine⟨by omega,?_⟩)
 refine⟨ob (by kernel_rfl),?_⟩;refine ah ?_;refine ag (aM (ι:={j:Nat // j<=B.params.length}) (fun j=>⟨54,[(0,.mp 2 0),(1,.mp f.bT 0),(5,.ip none [aI e.block,a7 e.args]),(6,.aB 4 (T.map SV.enc) .sh),(37,a7 B.params),(38,aI B.params.length),(39,aI j.1)],O1.set f.dt (.map (.int .i64) ((gh f.vals (B.params.take j.1) (T.take j.1)).map gv))⟩) (fun j=>B.params.length-j.1) ⟨0,by omega⟩ ?_ ?_)
 ·refine zq rfl ?_ ?_;simp -dsimp only[simprocAttr,↓aa,zp,zc];rw[uj,Dn]
 rintro⟨j,hj⟩;refine az (ah ?_);apply ic rfl<;>intro h
 ·refine ct ?_;have a8:j<B.params.length:=by simpa using h
  obtain⟨p,hp⟩:∃p,B.params[j]?=some p:=⟨B.params[j],by simp[a8]⟩
  obtain⟨a,ha⟩:∃a,T[j]?=some a:=⟨T[j]'(by omega),List.getElem?_eq_getElem _⟩
  refine aG (ag ?_);refine aU ?_;simp -dsimp only[simprocAttr,↓aa,zp,hp];refine ah ?_;refine jD ?_;simp -dsimp only[simprocAttr,↓aa,zp,Tp,ha,Ph,rm,<-pK hp ha,List.set_set]
  repeat(refine⟨by omega,?_⟩)
  refine⟨ob (by kernel_rfl),?_⟩;refine ah ?_;refine cC ?_
  repeat(refine⟨by omega,?_⟩)
  refine eX ?_;refine⟨⟨j+1,a8⟩,by simp;omega,?_⟩;refine zq rfl ?_ ?_;simp -dsimp only[simprocAttr,↓aa,zp,zc]
  ·exact Sub.int (by simp)
  rfl
 refine aF ?_;simp -dsimp only[bF,ne_eq,Nat.reduceEqDiff,reduceCtorEq];have tA:j=B.params.length:=by simp at h;omega
 subst tA;have zV:T.take B.params.length=T:=List.take_of_length_le (by omega)
 skip
 simp -dsimp only[simprocAttr,↓aa,zp,zr,Tryz.results129,hlen,zV,List.take_length,jf,List.length_set];refine⟨bg ew (AK fun x hx=>?_),trivial,by rw[fi]⟩;rw[<-hlen];rcases ky hx with q|q
 ·exact hu x q
 exact YB _ q
def kH(l:List Int):Nat->Int
 | 0=>0
 | k+1 =>
  match l[l.length-(k+1)]? with
  | none=>0
  | some c=>if !decide (fA c)then 4 else if gj (l.take (l.length-(k+1))) c then 7 else kH l k
def nM(f:Func):List Edge->Int
 | []=>0
 | e::r=>if !within e.block 1 ((f.blocks.length:Int)-1)then 4 else if e.args.length≠(aY f e.block).params.length then 3 else nM f r
def pj(f:Func)(t:Term):Int :=
 if !eg t then 3
 else if 256<t.cases.length then 2
 else if t.kind=4∧within t.n 1 6=false then 4
 else if kH t.cases t.cases.length≠0 then kH t.cases t.cases.length
 else nM f t.to
theorem Ap{l:List Int}{j:Nat}{c:Int}(h:l[j]?=some c):kH l (l.length-j)=if !decide (fA c)then 4 else if gj (l.take j) c then 7 else kH l (l.length-(j+1)):=by
 have a8:=I h;obtain⟨k,hk⟩:∃k,l.length-j=k+1:=⟨l.length-j-1,by omega⟩
 have hj:l.length-(k+1)=j:=by omega
 rw[hk];simp only[kH,hj,h];rw[show l.length-(j+1)=k by omega]
theorem AH{f:Func}{l:List Edge}{j:Nat}{e:Edge}(h:l[j]?=some e):nM f (l.drop j)=if !within e.block 1 ((f.blocks.length:Int)-1)then 4 else if e.args.length≠(aY f e.block).params.length then 3 else nM f (l.drop (j+1)):=by
 have a8:=I h;rw[List.getElem?_eq_getElem a8]at h;simp only[Option.some.injEq]at h;rw[List.drop_eq_getElem_cons a8,h];rfl
theorem within_iff{n lo hi:Int}:within n lo hi=true↔lo<=n∧n<=hi:=by
 simp[within]
theorem IE(f:Func)(t:Term)(hZ:t.cases.length<=2 ^ 60)(q8:f.blocks.length<=2 ^ 60):bq Tryz.prog 80 [f.enc,t.enc] (aI (pj f t)):=by
 have k9:=D9 t hZ;have hw:=dJ t.n 1 6;obtain⟨R,hR⟩:∃R,R=pj f t:=⟨_,rfl⟩
 rw[<-hR];unfold pj at hR;generalize eg t=sh at *;have Tf:∀e:Edge,bq Tryz.prog 30 [aI e.block,aI 1,aI ((f.blocks.length:Int)-1)] (.v (.bool (within e.block 1 ((f.blocks.length:Int)-1)))):=fun e=>dJ _ _ _;have Qi:(t.kind=4∧within t.n 1 6=false)∨(¬(t.kind=4∧within t.n 1 6=false)∧((decide (t.kind=4)=false)∨(decide (t.kind=4)=true∧within t.n 1 6=true))):=by
  by_cases h4:t.kind=4
  ·cases Vb:within t.n 1 6
   ·exact .inl ⟨h4,rfl⟩
   exact .inr ⟨by simp,.inr ⟨decide_eq_true h4,rfl⟩⟩
  exact .inr ⟨fun q=>h4 q.1,.inl (decide_eq_false h4)⟩
 refine zf true 0 Tryz.func80 Tryz.ntmps80 ?_;dsimp only[Tmp,TypeId,slotsOf];refine az (ah ?_);refine aC 2 0 (.ip none [aI f.name,aw f.blocks]) rfl (by simp[ai.aD]) trivial rfl ?_ ?_;rotate_left;simp -dsimp only[simprocAttr,↓aa,zp]
 ·refine aC 3 1 (.ip none [aI t.kind,aI t.arg,aI t.n,a7 t.cases,aH t.to]) rfl (by simp[ai.aD]) trivial rfl ?_ ?_;rotate_left;simp -dsimp only[simprocAttr,↓aa,zp]
  ·by_cases yP:sh=false∨256<t.cases.length∨(t.kind=4∧within t.n 1 6=false)
   ·refine aG (ag ?_);refine az ?_;refine zi k9 ?_;refine ah ?_;cases sh with
    | false =>
     refine cY rfl ?_;refine az (ah ?_);refine aq ?_;simp -dsimp only[simprocAttr,↓aa,zp,zr,Tryz.results80];simp[hR]
    | true =>
     refine cm rfl ?_;by_cases hc:256<t.cases.length
     ·have hd:decide ((256:Int)<t.cases.length)=true:=decide_eq_true (by omega);refine aU ?_;simp -dsimp only[simprocAttr,↓aa,zp,hd];refine ah ?_;refine cY rfl ?_;refine az (ah ?_);refine aq ?_;simp -dsimp only[simprocAttr,↓aa,zp,zr,Tryz.results80];simp[hR,hc]
     have hd:decide ((256:Int)<t.cases.length)=false:=decide_eq_false (by omega);have hk:t.kind=4∧within t.n 1 6=false:=by
      rcases yP with q|q|q
      ·cases q
      ·exact absurd q hc
      exact q
     have Mr:decide (t.kind=4)=true:=decide_eq_true hk.1;rw[hk.2]at hw;refine aU ?_;simp -dsimp only[simprocAttr,↓aa,zp,hd];refine ah ?_;refine cm rfl ?_;refine aU ?_;simp -dsimp only[simprocAttr,↓aa,zp,Mr];refine zi hw ?_;refine ah ?_;refine cY rfl ?_;refine az (ah ?_);refine aq ?_;simp -dsimp only[simprocAttr,↓aa,zp,zr,Tryz.results80];simp[hR,hc,hk]
   have WS:sh=true:=by
    cases sh
    ·exact absurd (.inl rfl) yP
    rfl
   subst WS;have hc:¬256<t.cases.length:=fun q=>yP (.inr (.inl q));have hk:¬(t.kind=4∧within t.n 1 6=false):=fun q=>yP (.inr (.inr q));have hd:decide ((256:Int)<t.cases.length)=false:=decide_eq_false (by omega);rw[if_neg (by simp),if_neg hc,if_neg hk]at hR;have Wj:=Qi.resolve_left hk;refine km (⟨78,[(2,.ip none [aI f.name,aw f.blocks]),(3,.ip none [aI t.kind,aI t.arg,aI t.n,a7 t.cases,aH t.to]),(4,aI 0)],[.gone,.gone]⟩) ?_ ?_
   ·refine ag ?_;refine az ?_;refine zi k9 ?_;refine ah ?_;refine cm rfl ?_;refine aU ?_;simp -dsimp only[simprocAttr,↓aa,zp,hd];refine ah ?_;refine cm rfl ?_;rcases Wj.2 with Mr|⟨Mr,tF⟩
    ·refine aU ?_;simp -dsimp only[simprocAttr,↓aa,zp,Mr];refine ah ?_;refine cm rfl ?_;refine ba ?_;show bj _ _;refine zq rfl ?_ ?_;simp -dsimp only[simprocAttr,↓aa,zp,zc];rfl
    rw[tF]at hw;refine aU ?_;simp -dsimp only[simprocAttr,↓aa,zp,Mr];refine zi hw ?_;refine ah ?_;refine cm rfl ?_;refine ba ?_;show bj _ _;refine zq rfl ?_ ?_;simp -dsimp only[simprocAttr,↓aa,zp,zc];rfl
   refine ck (ah ?_);refine ag (aM (ι:={j:Nat // j<=t.cases.length∧kH t.cases t.cases.length=kH t.cases (t.cases.length-j)}) (fun j=>⟨78,[(2,.ip none [aI f.name,aw f.blocks]),(3,.ip none [aI t.kind,aI t.arg,aI t.n,a7 t.cases,aH t.to]),(4,aI 0),(29,a7 t.cases),(30,aI t.cases.length),(31,aI j.1)],[.gone,.gone]⟩) (fun j=>t.cases.length-j.1) ⟨0,by omega,rfl⟩ ?_ ?_)
   ·refine zq rfl ?_ ?_;simp -dsimp only[simprocAttr,↓aa,zp,zc];rfl
   rintro⟨j,hj,jw⟩;refine az (ah ?_);apply ic rfl<;>intro h
   ·refine ct ?_;have a8:j<t.cases.length:=by simpa using h
    obtain⟨c,P6⟩:∃c,t.cases[j]?=some c:=⟨t.cases[j],by simp[a8]⟩
    have bG:=Ap P6;rw[<-jw]at bG;have We:=sS c;have VV:=ju (t.cases.take j) c;refine aG (ag ?_);refine aU ?_;simp -dsimp only[simprocAttr,↓aa,zp,P6];refine ah ?_;refine ag ?_;refine az ?_;refine zi We ?_;refine ah ?_;cases hw:decide (fA c)with
    | false =>
     rw[hw]at bG;refine cY rfl ?_;refine az (ah ?_);refine aq ?_;simp -dsimp only[simprocAttr,↓aa,zp,zr,Tryz.results80];simp[hR,bG]
    | true =>
     rw[hw]at bG;refine cm rfl ?_;refine aU ?_;simp -dsimp only[simprocAttr,↓aa,zp,Int.toNat_natCast,List.drop_zero,<-List.map_take]
     repeat(refine⟨by omega,?_⟩)
     refine zi VV ?_;refine ah ?_;cases hh:gj (t.cases.take j) c with
     | true =>
      rw[hh]at bG;refine cY rfl ?_;refine az (ah ?_);refine aq ?_;simp -dsimp only[simprocAttr,↓aa,zp,zr,Tryz.results80];simp[hR,bG]
     | false =>
      rw[hh]at bG;refine cm rfl ?_;refine YO ?_;refine cC ?_
      repeat(refine⟨by omega,?_⟩)
      refine eX ?_;refine⟨⟨j+1,a8,by rw[bG];simp⟩,by simp;omega,?_⟩;refine zq rfl ?_ ?_;simp -dsimp only[simprocAttr,↓aa,zp,zc]
      ·exact Sub.int (by simp)
      rfl
   refine aF ?_;simp -dsimp only[bF,ne_eq,Nat.reduceEqDiff,reduceCtorEq];have tA:j=t.cases.length:=by simp at h;omega
   subst tA;have hz:kH t.cases t.cases.length=0:=by rw[jw,Nat.sub_self];rfl
   rw[hz,if_neg (by simp)]at hR;refine ck (ah ?_);refine fh 49 rfl (fun lx=>?_);simp only[List.length_map]at lx;refine ag (aM (ι:={j:Nat // j<=t.to.length∧R=nM f (t.to.drop j)}) (fun j=>⟨78,[(2,.ip none [aI f.name,aw f.blocks]),(4,aI 0),(49,aH t.to),(50,aI t.to.length),(51,aI j.1)],[.gone,.gone]⟩) (fun j=>t.to.length-j.1) ⟨0,by omega,hR⟩ ?_ ?_)
   ·refine zq rfl ?_ ?_;simp -dsimp only[simprocAttr,↓aa,zp,zc];rfl
   rintro⟨j,hj,jw⟩;refine az (ah ?_);apply ic rfl<;>intro h
   ·refine ct ?_;have a8:j<t.to.length:=by simpa using h
    obtain⟨e,Lj⟩:∃e,t.to[j]?=some e:=⟨t.to[j],by simp[a8]⟩
    have bG:=AH (f:=f) Lj;rw[<-jw]at bG;have tR:=Tf e;refine aG (ag ?_);refine aU ?_;simp -dsimp only[simprocAttr,↓aa,zp,Lj];refine ah ?_;refine aC 8 2 (.ip none [aI e.block,a7 e.args]) rfl (by simp[ai.aD]) trivial rfl ?_ ?_;rotate_left;simp -dsimp only[simprocAttr,↓aa,zp]
    ·refine cb 2 [(2,.ip none [aI f.name,aw f.blocks]),(4,aI 0),(8,.ip none [aI e.block,a7 e.args]),(49,aH t.to),(50,aI t.to.length),(51,aI j)] (by simp) (by omega) [.gone,.gone] ?_ ?_ ?_ ?_ ?_
     ·rfl
     ·simp[ai.upto]
     ·simp[iv,St.get,bt,bc,Go.Av.look,Sub.refl]
     ·simp[av,ae.upto,ax,Block.ak,Edge.ak]
     cases hw:within e.block 1 ((f.blocks.length:Int)-1)with
     | false =>
      rw[hw]at bG tR;refine ag ?_;refine az ?_
      repeat(refine⟨by omega,?_⟩)
      refine zi tR ?_;refine ah ?_;refine cY rfl ?_;refine az (ah ?_);refine aq ?_;simp -dsimp only[simprocAttr,↓aa,zp,zr,Tryz.results80];simp[bG]
     | true =>
      rw[hw]at bG tR;have Js:=within_iff.1 hw;have hB:=eK (f:=f) (k:=e.block) (by omega) (by omega);generalize aY f e.block=B at *;by_cases hl:e.args.length=B.params.length
      ·have mN:decide ((e.args.length:Int)=B.params.length)=true:=decide_eq_true (by omega);refine ag ?_;refine az ?_
       repeat(refine⟨by omega,?_⟩)
       refine zi tR ?_;refine ah ?_;refine cm rfl ?_;refine aU ?_;simp -dsimp only[simprocAttr,↓aa,zp,hB,mN]
       repeat(refine⟨by omega,?_⟩)
       refine⟨ob (by kernel_rfl),?_⟩;refine ah ?_;refine cm rfl ?_;refine YO ?_;refine cC ?_
       repeat(refine⟨by omega,?_⟩)
       refine eX ?_;refine⟨⟨j+1,a8,by rw[bG];simp[hl]⟩,by simp;omega,?_⟩;refine zq rfl ?_ ?_;simp -dsimp only[simprocAttr,↓aa,zp,zc]
       ·exact Sub.int (by simp)
       rfl
      have mN:decide ((e.args.length:Int)=B.params.length)=false:=decide_eq_false (by omega);refine ag ?_;refine az ?_
      repeat(refine⟨by omega,?_⟩)
      refine zi tR ?_;refine ah ?_;refine cm rfl ?_;refine aU ?_;simp -dsimp only[simprocAttr,↓aa,zp,hB,mN]
      repeat(refine⟨by omega,?_⟩)
      refine⟨ob (by kernel_rfl),?_⟩;refine ah ?_;refine cY rfl ?_;refine az (ah ?_);refine aq ?_;simp -dsimp only[simprocAttr,↓aa,zp,zr,Tryz.results80];simp[bG,hl]
    exact bY.mp rfl rfl
   refine aF ?_;simp -dsimp only[bF,ne_eq,Nat.reduceEqDiff,reduceCtorEq];have tA:j=t.to.length:=by simp at h;omega
   subst tA;rw[List.drop_length]at jw;refine az (ah ?_);refine aq ?_;simp -dsimp only[simprocAttr,↓aa,zp,zr,Tryz.results80];simp[jw,nM]
  exact bY.mp rfl rfl
 exact bY.mp rfl rfl
abbrev Defs:=List (Int×Int×Int)
def eD(p:Int×Int):ae:=.agg [aI p.1,aI p.2]
def ff(e:Int×Int×Int):Value×ae:=(.int .i64 e.1,eD e.2)
def fB:Defs->Int->Option (Int×Int)
 | [],_=>none
 | (k,p)::r,key=>if k=key then some p else fB r key
theorem jj(es:Defs)(k:Int):kh (es.map ff) (.int .i64 k)=(fB es k).map eD:=by
 induction es with
 | nil=>rfl
 | cons p r ih =>
  obtain⟨a,v⟩:=p;simp only[List.map_cons,ff,kh,fB,oO,decide_eq_true_eq];split
  ·rfl
  exact ih
theorem J7{es:Defs}{k:Int}(p:Int×Int)(h:fB es k=none):mX (es.map ff) (.int .i64 k) (.agg [aI p.1,aI p.2])=(es++[(k,p)]).map ff:=by
 induction es with
 | nil=>rfl
 | cons q r ih =>
  obtain⟨a,v⟩:=q;simp only[fB]at h;split at h
  ·cases h
  rename_i bD;simp only[List.map_cons,ff,mX,oO,decide_eq_true_eq,if_neg bD,List.cons_append];rw[<-ih h]
theorem fm(n:Nat)(es:Defs):lC n (es.map ff):=by
 induction es with
 | nil=>trivial
 | cons p r ih=>exact⟨⟨trivial,trivial,trivial⟩,ih⟩
def df(ds:Defs)(v:Int)(p:Int×Int):Int×Defs :=
 if !within v 0 4095 then(4,ds)else if(fB ds v).isSome then(7,ds)else(0,ds++[(v,p)])
theorem AB{O:List ai}(br:∀o∈O,o.upto O.length){c d:Nat}{f:Func}{ds:Defs}(hc:O[c]?=some (.cells [aI f.name,aw f.blocks,.mm d]))(hd:O[d]?=some (.map (.int .i64) (ds.map ff)))(v:Int)(p:Int×Int) :
  bh Tryz.prog 86 O [.mp c 0,aI v,.agg [aI p.1,aI p.2]] (fun r O'=>r=aI (df ds v p).1∧O'=O.set d (.map (.int .i64) ((df ds v p).2.map ff))):=by
 have hw:=dJ v 0 4095;have hZ:=I hc;have eE:O.set d (.map (.int .i64) (ds.map ff))=O:=jW hd;unfold df;cases hv:within v 0 4095 with
 | false =>
  rw[hv]at hw;refine zf true O.length Tryz.func86 Tryz.ntmps86 ?_;dsimp only[Tmp,TypeId,slotsOf];refine az (ah ?_);refine aK 5 ([aI p.1,aI p.2]) [(0,.mp c 0),(1,aI v),(5,.ip none [aI p.1,aI p.2]),(6,aI 0)] rfl (by rfl) (by omega) (by simp[bt,bc,Go.Av.look]) ?_ ?_ ?_
  ·exact br
  ·simp[ae.upto,av,hZ]
  refine ck ?_;refine zi hw ?_;refine ah ?_;refine cY rfl ?_;refine az (ah ?_);refine aq ?_;simp -dsimp only[simprocAttr,↓aa,zp,zr,Tryz.results86];exact⟨br,eE.symm⟩
 | true =>
  rw[hv]at hw;cases hl:fB ds v with
  | some q =>
   have hq:eD q=.agg [aI q.1,aI q.2]:=rfl;refine zf true O.length Tryz.func86 Tryz.ntmps86 ?_;dsimp only[Tmp,TypeId,slotsOf];refine az (ah ?_);refine aK 5 ([aI p.1,aI p.2]) [(0,.mp c 0),(1,aI v),(5,.ip none [aI p.1,aI p.2]),(6,aI 0)] rfl (by rfl) (by omega) (by simp[bt,bc,Go.Av.look]) ?_ ?_ ?_
   ·exact br
   ·simp[ae.upto,av,hZ]
   refine ck ?_;refine zi hw ?_;refine ah ?_;refine cm rfl ?_;refine ct ?_;refine cK ?_;simp -dsimp only[simprocAttr,↓aa,zp,hc,hd,jj,hl,hq,Option.map_some,Option.getD_some,Option.isSome_some];refine ah ?_;refine az (ah ?_);refine cY rfl ?_;refine az (ah ?_);refine aq ?_;simp -dsimp only[simprocAttr,↓aa,zp,zr,Tryz.results86];exact⟨br,eE.symm⟩
  | none =>
   have lP:=J7 p hl;have fg:=bg (k:=d) (x:=.map (.int .i64) ((ds++[(v,p)]).map ff)) br (fm _ _);have jf:=b6 (O:=O) (k:=d) (x:=.map (.int .i64) ((ds++[(v,p)]).map ff));refine zf true O.length Tryz.func86 Tryz.ntmps86 ?_;dsimp only[Tmp,TypeId,slotsOf];refine az (ah ?_);refine aK 5 ([aI p.1,aI p.2]) [(0,.mp c 0),(1,aI v),(5,.ip none [aI p.1,aI p.2]),(6,aI 0)] rfl (by rfl) (by omega) (by simp[bt,bc,Go.Av.look]) ?_ ?_ ?_
   ·exact br
   ·simp[ae.upto,av,hZ]
   refine ck ?_;refine zi hw ?_;refine ah ?_;refine cm rfl ?_;refine ct ?_;refine cK ?_;simp -dsimp only[simprocAttr,↓aa,zp,hc,hd,jj,hl,Option.map_none,Option.getD_none,Option.isSome_none];refine ah ?_;refine aK 7 ([aI 0,aI 0]) [(0,.mp c 0),(1,aI v),(5,.ip none [aI p.1,aI p.2]),(6,aI 0),(8,.v (.bool false))] rfl (by rfl) (by omega) (by simp[bt,bc,Go.Av.look]) ?_ ?_ ?_
   ·exact br
   ·simp[ae.upto,av,hZ]
   refine az (ah ?_);refine cm rfl ?_;refine ct ?_;refine aU ?_;simp -dsimp only[simprocAttr,↓aa,zp,hc,hd,lP];refine⟨ob (by kernel_rfl),?_⟩;refine ah ?_;refine az (ah ?_);refine aq ?_;simp -dsimp only[simprocAttr,↓aa,zp,zr,Tryz.results86,jf,List.length_set];exact fg
def dy(k:Int):Defs->List Int->Int×Defs
 | ds,[]=>(0,ds)
 | ds,p::r=>if(df ds p (k,0)).1≠0 then df ds p (k,0)else dy k (df ds p (k,0)).2 r
def mP(k:Int):Int->Defs->List Ins->Int×Defs
 | _,ds,[]=>(0,ds)
 | n,ds,i::r=>if(df ds i.to (k,n+1)).1≠0 then df ds i.to (k,n+1)else if lu i≠0 then(lu i,(df ds i.to (k,n+1)).2)else mP k (n+1) (df ds i.to (k,n+1)).2 r
def fF(f:Func)(ds:Defs)(k:Int):Int×Defs :=
 if(dy k ds (aY f k).params).1≠0 then dy k ds (aY f k).params
 else if(mP k 0 (dy k ds (aY f k).params).2 (aY f k).ins).1≠0 then mP k 0 (dy k ds (aY f k).params).2 (aY f k).ins
 else(pj f (aY f k).term,(mP k 0 (dy k ds (aY f k).params).2 (aY f k).ins).2)
theorem bA{α:Type}{l:List α}{j:Nat}{x:α}(h:l[j]?=some x):l.drop j=x::l.drop (j+1):=by
 have a8:=I h;rw[List.getElem?_eq_getElem a8]at h;simp only[Option.some.injEq]at h;rw[List.drop_eq_getElem_cons a8,h]
theorem Cw{O:List ai}(br:∀o∈O,o.upto O.length){c d:Nat}(ZH:c≠d){f:Func}{ds:Defs}(hc:O[c]?=some (.cells [aI f.name,aw f.blocks,.mm d]))(hd:O[d]?=some (.map (.int .i64) (ds.map ff)))(k:Int)(HD:0<=k)(Ll:k<f.blocks.length)
  (q8:f.blocks.length<=2 ^ 60) (hZ:(aY f k).term.cases.length<=2 ^ 60) :
  bh Tryz.prog 58 O [.mp c 0,aI k] (fun r O'=>r=aI (fF f ds k).1∧O'=O.set d (.map (.int .i64) ((fF f ds k).2.map ff))):=by
 have hB:=eK HD Ll;have S8:=I hc;obtain⟨R,hR⟩:∃R,R=fF f ds k:=⟨_,rfl⟩
 rw[<-hR];unfold fF at hR;have lO:=IE f (aY f k).term hZ q8;generalize aY f k=B at *;have XX:∀x,(O.set d x)[c]?=some (.cells [aI f.name,aw f.blocks,.mm d]):=fun x=>aW hc ZH.symm;have ZM:=dr hd;have Gy:∀(es:Defs),∀o∈O.set d (.map (.int .i64) (es.map ff)),o.upto (O.set d (.map (.int .i64) (es.map ff))).length:=fun es=>by
  rw[List.length_set];exact bg br (fm _ _)
 have S':∀(es:Defs) (v:Int) (p:Int×Int),bh Tryz.prog 86 (O.set d (.map (.int .i64) (es.map ff))) [.mp c 0,aI v,.agg [aI p.1,aI p.2]] (fun r O'=>r=aI (df es v p).1∧O'=O.set d (.map (.int .i64) ((df es v p).2.map ff))):=fun es v p=>by
  have h:=AB (Gy es) (XX _) (ZM (.map (.int .i64) (es.map ff))) v p;rw[List.set_set]at h;exact h
 have eE:O.set d (.map (.int .i64) (ds.map ff))=O:=jW hd;have jf:∀es:Defs,(O.set d (.map (.int .i64) (es.map ff))).take O.length=O.set d (.map (.int .i64) (es.map ff)):=fun es=>b6;have wM:∀es:Defs,∀o∈O.set d (.map (.int .i64) (es.map ff)),o.upto O.length:=fun es=>bg br (fm _ _);refine zf true O.length Tryz.func58 Tryz.ntmps58 ?_;dsimp only[Tmp,TypeId,slotsOf];refine az (ah ?_);refine aU ?_;simp -dsimp only[simprocAttr,↓aa,zp,hc,hB]
 repeat(refine⟨by omega,?_⟩)
 refine ah ?_;refine aK 5 ([a7 B.params,bW B.ins,aI B.term.kind,aI B.term.arg,aI B.term.n,a7 B.term.cases,aH B.term.to]) [(0,.mp c 0),(1,aI k),(4,aI 0),(5,.ip none [a7 B.params,bW B.ins,aI B.term.kind,aI B.term.arg,aI B.term.n,a7 B.term.cases,aH B.term.to])] rfl (by rfl) (by omega) (by simp[bt,bc,Go.Av.look]) ?_ ?_ ?_
 ·exact br
 ·simp[ae.upto,av,S8,ax,Edge.ak,Ins.ak]
 refine ck (ah ?_);refine fh 22 rfl (fun tQ=>?_);simp only[List.length_map]at tQ;refine ag (aM (ι:={x:Nat×Defs // x.1<=B.params.length∧dy k ds B.params=dy k x.2 (B.params.drop x.1)}) (fun x=>⟨69,[(0,.mp c 0),(1,aI k),(4,aI 0),(5,.ip none [a7 B.params,bW B.ins,aI B.term.kind,aI B.term.arg,aI B.term.n,a7 B.term.cases,aH B.term.to]),(22,a7 B.params),(23,aI B.params.length),(24,aI x.1.1)],O.set d (.map (.int .i64) (x.1.2.map ff))⟩) (fun x=>B.params.length-x.1.1) ⟨(0,ds),by simp,rfl⟩ ?_ ?_)
 ·refine zq rfl ?_ ?_;simp -dsimp only[simprocAttr,↓aa,zp,zc];rw[eE]
 rintro⟨⟨j,es⟩,hj,jw⟩;simp only at hj jw;refine az (ah ?_);apply ic rfl<;>intro h
 ·refine ct ?_;have a8:j<B.params.length:=by simpa using h
  obtain⟨p,hp⟩:∃p,B.params[j]?=some p:=⟨B.params[j],by simp[a8]⟩
  have bG:=jw;rw[bA hp]at bG;simp only[dy]at bG;have Qc:=S' es p (k,0);generalize df es p (k,0)=X at *;refine aG (ag ?_);refine aU ?_;simp -dsimp only[simprocAttr,↓aa,zp,hp];refine ah ?_;refine az ?_;refine .inr (.inl ⟨_,_,Qc,.inl (ao (zj ?_))⟩);refine ah ?_;by_cases hX:X.1=0
  ·have I2:decide (X.1=0)=true:=decide_eq_true hX;rw[if_neg (by simp[hX])]at bG;refine aU ?_;simp -dsimp only[simprocAttr,↓aa,zp,I2];refine ah ?_;refine cm rfl ?_;refine lX ?_;refine cC ?_
   repeat(refine⟨by omega,?_⟩)
   refine eX ?_;refine⟨⟨(j+1,X.2),by simp only;omega,bG⟩,by simp;omega,?_⟩;refine zq rfl ?_ ?_;simp -dsimp only[simprocAttr,↓aa,zp,zc]
   ·exact Sub.int (by simp)
   rfl
  have I2:decide (X.1=0)=false:=decide_eq_false hX;rw[if_pos hX]at bG;rw[bG,if_pos hX]at hR;refine aU ?_;simp -dsimp only[simprocAttr,↓aa,zp,I2];refine ah ?_;refine cY rfl ?_;refine az (ah ?_);refine aq ?_;simp -dsimp only[simprocAttr,↓aa,zp,zr,Tryz.results58,jf,List.length_set];rw[hR];exact⟨wM X.2,rfl,rfl⟩
 refine aF ?_;simp -dsimp only[bF,ne_eq,Nat.reduceEqDiff,reduceCtorEq];have tA:j=B.params.length:=by simp at h;omega
 subst tA;rw[List.drop_length]at jw;simp only[dy]at jw;rw[jw,if_neg (by simp)]at hR;simp only at hR;refine ck (ah ?_);refine fh 38 rfl (fun Gl=>?_);simp only[List.length_map]at Gl;refine ag (aM (ι:={x:Nat×Defs // x.1<=B.ins.length∧mP k 0 es B.ins=mP k x.1 x.2 (B.ins.drop x.1)}) (fun x=>⟨69,[(0,.mp c 0),(1,aI k),(4,aI 0),(5,.ip none [a7 B.params,bW B.ins,aI B.term.kind,aI B.term.arg,aI B.term.n,a7 B.term.cases,aH B.term.to]),(38,bW B.ins),(39,aI B.ins.length),(40,aI x.1.1)],O.set d (.map (.int .i64) (x.1.2.map ff))⟩) (fun x=>B.ins.length-x.1.1) ⟨(0,es),by simp,rfl⟩ ?_ ?_)
 ·refine zq rfl ?_ ?_;simp -dsimp only[simprocAttr,↓aa,zp,zc];rfl
 rintro⟨⟨j,RK⟩,hj,jw⟩;simp only at hj jw;refine az (ah ?_);apply ic rfl<;>intro h
 ·refine ct ?_;have a8:j<B.ins.length:=by simpa using h
  obtain⟨i,hi⟩:∃i,B.ins[j]?=some i:=⟨B.ins[j],by simp[a8]⟩
  have bG:=jw;rw[bA hi]at bG;simp only[mP]at bG;have Qc:=S' RK i.to (k,(j:Int)+1);have Tq:=F9 i;generalize lu i=e at *;generalize df RK i.to (k,(j:Int)+1)=X at *;refine aG (ag ?_);refine aU ?_;simp -dsimp only[simprocAttr,↓aa,zp,hi];refine ah ?_;refine aK 10 ([aI i.to,aI i.op,aI i.n,a7 i.args]) [(0,.mp c 0),(1,aI k),(4,aI 0),(5,.ip none [a7 B.params,bW B.ins,aI B.term.kind,aI B.term.arg,aI B.term.n,a7 B.term.cases,aH B.term.to]),(38,bW B.ins),(39,aI B.ins.length),(40,aI j),(9,aI j),(10,.ip none [aI i.to,aI i.op,aI i.n,a7 i.args])] (by simp[bt,bc,Go.Av.look]) (by rfl) (by simp) (by simp[bt,bc,Go.Av.look]) ?_ ?_ ?_
  ·exact Gy RK
  ·simp[ae.upto,av,S8,ax,Edge.ak,Ins.ak]
  refine ck ?_
  repeat(refine⟨by omega,?_⟩)
  refine .inr (.inl ⟨_,_,Qc,.inl (ao (zj ?_))⟩);refine ah ?_;by_cases hX:X.1=0
  ·have I2:decide (X.1=0)=true:=decide_eq_true hX;rw[if_neg (by simp[hX])]at bG;refine aU ?_;simp -dsimp only[simprocAttr,↓aa,zp,I2];refine ah ?_;refine cm rfl ?_;refine ct ?_;refine az ?_;refine zi Tq ?_;refine ah ?_;by_cases he:e=0
   ·have oW:decide (e=0)=true:=decide_eq_true he;rw[if_neg (by simp[he])]at bG;refine aU ?_;simp -dsimp only[simprocAttr,↓aa,zp,oW];refine ah ?_;refine cm rfl ?_;refine lX ?_;refine cC ?_
    repeat(refine⟨by omega,?_⟩)
    refine eX ?_;refine⟨⟨(j+1,X.2),by simp only;omega,bG⟩,by simp;omega,?_⟩;refine zq rfl ?_ ?_;simp -dsimp only[simprocAttr,↓aa,zp,zc]
    ·exact Sub.int (by simp)
    rfl
   have oW:decide (e=0)=false:=decide_eq_false he;rw[if_pos he]at bG;rw[bG,if_pos he]at hR;refine aU ?_;simp -dsimp only[simprocAttr,↓aa,zp,oW];refine ah ?_;refine cY rfl ?_;refine az (ah ?_);refine aq ?_;simp -dsimp only[simprocAttr,↓aa,zp,zr,Tryz.results58,jf,List.length_set];rw[hR];exact⟨wM X.2,rfl,rfl⟩
  have I2:decide (X.1=0)=false:=decide_eq_false hX;rw[if_pos hX]at bG;rw[bG,if_pos hX]at hR;refine aU ?_;simp -dsimp only[simprocAttr,↓aa,zp,I2];refine ah ?_;refine cY rfl ?_;refine az (ah ?_);refine aq ?_;simp -dsimp only[simprocAttr,↓aa,zp,zr,Tryz.results58,jf,List.length_set];rw[hR];exact⟨wM X.2,rfl,rfl⟩
 refine aF ?_;simp -dsimp only[bF,ne_eq,Nat.reduceEqDiff,reduceCtorEq];have tA:j=B.ins.length:=by simp at h;omega
 subst tA;rw[List.drop_length]at jw;simp only[mP]at jw;rw[jw,if_neg (by simp)]at hR;simp only at hR;refine aU ?_;simp -dsimp only[simprocAttr,↓aa,zp,XX];refine zi lO ?_;refine⟨ob (by kernel_rfl),?_⟩;refine ah ?_;refine aq ?_;simp -dsimp only[simprocAttr,↓aa,zp,zr,Tryz.results58,jf,List.length_set];rw[hR];exact⟨wM RK,rfl,rfl⟩
theorem MT:pG Tryz.prog 142 .u64:=by
 obtain⟨⟨i,z,q1,q2,_⟩,_⟩:=hT 140 _ FB;exact y9 ⟨140,i,Tryz.underlying142,q1,q2,Tryz.underlying140,by kernel_rfl⟩
theorem PE(N V:Bs):(decide ((N.a:Int)=V.a)&&decide ((N.b:Int)=V.b))=decide (N=V):=by
 obtain⟨n1,n2⟩:=N;obtain⟨v1,v2⟩:=V;simp only[Bs.mk.injEq,Int.natCast_inj];by_cases q1:n1=v1<;>by_cases q2:n2=v2<;>simp[q1,q2]
theorem vL(N V:Bs)(K:gf):pE Tryz.prog .neq 142 N.enc V.enc K=K (.v (.bool (!decide (N=V)))) .pure:=by
 show((IntKind.u64=IntKind.u64∧IntKind.u64=IntKind.u64∧IntKind.u64=IntKind.u64∧pG Tryz.prog 142 .u64)∧on (jC .neq (decide ((N.a:Int)=V.a)&&decide ((N.b:Int)=V.b))) fun r=>K (.v (.bool r)) .pure)=_;rw[PE];simp only[MT,jC,y7,and_self,true_and]
theorem qF{sz:Nat}:∀{xs:List ae} {k:Nat} {x:ae},(∀y∈xs,y.cells.length=sz)->xs[k]?=some x->((al xs).drop (k*sz)).take sz=x.cells
 | q::r,0,x,cM,h=>by
  simp only[List.getElem?_cons_zero,Option.some.injEq]at h;subst h;have hq:=cM q (by simp);simp only[al,List.flatMap_cons,Nat.zero_mul,List.drop_zero];rw[List.take_append_of_le_length (by omega),List.take_of_length_le (by omega)]
 | q::r,k+1,x,cM,h=>by
  have ih:=qF (xs:=r) (k:=k) (x:=x) (fun y hy=>cM y (by simp[hy])) (by simpa using h);have hq:=cM q (by simp);have e1:(k+1)*sz-sz=k*sz:=by rw[Nat.succ_mul];omega
  have e3:sz<=(k+1)*sz:=by rw[Nat.succ_mul];omega
  simp only[al,List.flatMap_cons]at ih ⊢;rw[List.drop_append,List.drop_of_length_le (by omega),hq,e1,List.nil_append];exact ih
theorem Ey(l:List Bs):∀y∈l.map Bs.enc,y.cells.length=2:=fun y hy=>by
 obtain⟨s,_,rfl⟩:=List.mem_map.1 hy;rfl
theorem yq(l:List Bs):(al (l.map Bs.enc)).length=l.length*2:=by
 rw[bV (Ey l),List.length_map]
theorem HX{l:List Bs}{k:Nat}{s:Bs}(h:l[k]?=some s):((al (l.map Bs.enc)).drop (k*2)).take 2=[.v (.int .u64 s.a),.v (.int .u64 s.b)]:=qF (Ey l) (x:=s.enc) (by simp[h])
theorem Cz{l:List Bs}{k:Nat}(h:k<l.length)(s:Bs):bp (al (l.map Bs.enc)) (k*2) [.v (.int .u64 s.a),.v (.int .u64 s.b)]=al ((l.set k s).map Bs.enc):=by
 have:=mI (Ey l) (k:=k) (by simpa using h) (y:=s.enc) rfl;rw[<-List.map_set]at this;exact this
theorem gN(n:Nat)(l:List Bs):av n (l.map Bs.enc):=by
 rw[aQ];intro x hx;obtain⟨s,_,rfl⟩:=List.mem_map.1 hx;exact s.aL n
theorem iA(n:Nat)(l:List Bs):av n (al (l.map Bs.enc)):=by
 rw[aQ];intro c hc;simp only[al,List.mem_flatMap,List.mem_map]at hc;obtain⟨_,⟨p,_,rfl⟩,hc⟩:=hc;simp only[Bs.aj,List.mem_cons,List.mem_nil_iff,or_false]at hc;rcases hc with rfl|rfl<;>trivial
theorem ay(s:Bs):ae.agg [.v (.int .u64 s.a),.v (.int .u64 s.b)]=s.enc:=rfl
theorem ua:∀n,n<=128->(vY n).fit
 | 0,_=>Bs.nP
 | n+1,h=>Bs.oR (ua n (by omega)) (by omega)
theorem Ac:∀n,n<=128->∀k,k<n->(vY n).has k=true
 | n+1,h,k,hk=>by
  simp only[vY];rw[Bs.has_add _ _ _ (by omega) (by omega)];by_cases e:k=n
  ·simp[e]
  rw[Ac n (by omega) k (by omega)];rfl
theorem yB{f:Func}(h0:f.blocks≠[])(h1:f.blocks.length<=128):kY f.blocks.length (k8 f) where
 few:=h1
 len:=by simp[k8]
 fit:=fun s hs=>by
  rcases List.mem_or_eq_of_mem_set hs with q|q
  ·rw[(List.mem_replicate.1 q).2];exact ua _ h1
  rw[q];exact Bs.oR Bs.nP (by omega)
 seen:=Bs.oR Bs.nP (by omega)
 self:=fun k hk=>by
  unfold Ds.at_ k8;by_cases e:k=0
  ·subst e;rw[List.getElem?_set_self (by simpa using hk)];decide
  rw[List.getElem?_set_ne (Ne.symm e)];simp only[List.getElem?_replicate,hk,if_true,Option.getD_some];exact Ac _ h1 k hk
theorem Kq{l:List Nat}{b:Nat}(h:∀x∈l,x<=b):l.sum<=l.length*b:=by
 induction l with
 | nil=>simp
 | cons a r ih =>
  have:=h a (by simp);have:=ih fun x hx=>h x (by simp[hx]);simp only[List.sum_cons,List.length_cons,Nat.succ_mul];omega
theorem yf{n:Nat}{S:Ds}(h:kY n S):S.weight<=16512:=by
 have h1:(S.over.map Bs.size).sum<=(S.over.map Bs.size).length*128:=Kq fun x hx=>by
  obtain⟨s,_,rfl⟩:=List.mem_map.1 hx;exact s.s8
 have h2:=h.few;have h3:=h.len;simp only[List.length_map]at h1;have h4:S.over.length*128<=128*128:=Nat.mul_le_mul_right _ (by omega);simp only[Ds.weight];omega
theorem xk{f:Func}{S:Ds}(h:S.again=false)(n:Nat):iU f n S=S:=by
 cases n with
 | zero=>rfl
 | succ n=>simp[iU,h]
theorem tu(f:Func)(h0:f.blocks≠[])(h1:f.blocks.length<=128)(he:∀b∈f.blocks,∀e∈b.term.to,0<=e.block∧e.block.toNat<f.blocks.length) :
  bq Tryz.prog 88 [f.enc] (.cx [.aB 2 ((kZ f).1.map Bs.enc) .sh,(kZ f).2.enc]):=by
 have hS:=yB h0 h1;have B6:=List.length_pos_iff.2 h0;have EX:∀(s:Bs) (k:Nat),s.fit->k<128->bq Tryz.prog 119 [s.enc,aI k] (s.add k).enc:=fun s k hs hk=>Hv s hs k hk;obtain⟨R,hR⟩:∃R,R=iU f 20000 (k8 f):=⟨_,rfl⟩
 have hM:kZ f=(R.over,R.seen):=by rw[hR];rfl
 rw[hM];obtain⟨n,hn⟩:∃n,n=f.blocks.length:=⟨_,rfl⟩
 rw[<-hn]at hS B6 h1 he;have O8:ae.agg [.v (.int .u64 0),.v (.int .u64 0)]=Bs.none.enc:=rfl;refine zf true 0 Tryz.func88 Tryz.ntmps88 ?_;dsimp only[Tmp,TypeId,slotsOf];refine aU ?_;simp -dsimp only[simprocAttr,↓aa,zp,Bs.aj,Bs.au,Bs.an,ay];refine ah ?_;refine aC 1 0 (.ip none [aI f.name,aw f.blocks]) rfl (by simp[ai.aD]) trivial rfl ?_ ?_;rotate_left;simp -dsimp only[simprocAttr,↓aa,zp,Bs.aj,Bs.au,Bs.an,ay]
 ·refine aU ?_;simp -dsimp only[simprocAttr,↓aa,zp,Bs.aj,Bs.au,Bs.an,ay];refine ah ?_;refine cK ?_;simp -dsimp only[simprocAttr,↓aa,zp,Bs.aj,Bs.au,Bs.an,ay,<-hn];refine ah ?_;refine ag (aM (ι:={j:Nat // j<=n}) (fun j=>⟨106,[(1,.ip none [aI f.name,aw f.blocks]),(3,.mp 1 0),(4,.mp 2 0),(17,aI n),(18,aI j.1)],[.gone,.cells [.v (.int .u64 0),.v (.int .u64 0)],.cells (vY j.1).enc.cells]⟩) (fun j=>n-j.1) ⟨0,by omega⟩ ?_ ?_)
  ·refine zq rfl ?_ ?_;simp -dsimp only[simprocAttr,↓aa,zp,Bs.aj,Bs.au,Bs.an,ay,zc]
   all_goals rfl
  rintro⟨j,hj⟩;have hwj:=fun h=>EX (vY j) j (ua j (by omega)) h;refine aU ?_;simp -dsimp only[simprocAttr,↓aa,zp,Bs.aj,Bs.au,Bs.an,ay];refine ah ?_;apply ic rfl<;>intro h
  ·refine ct ?_;have a8:j<n:=by simpa using h
   refine aG (ag ?_);refine aU ?_;simp -dsimp only[simprocAttr,↓aa,zp,Bs.aj,Bs.au,Bs.an,ay];refine ah ?_;refine jD ?_;simp -dsimp only[simprocAttr,↓aa,zp,Bs.aj,Bs.au,Bs.an,ay];refine .inl ⟨_,(hwj (by omega)),by simp only[av,ae.upto,zt,zu,ax,Bs.aL,Bs.an],ao ?_⟩;simp -dsimp only[simprocAttr,↓aa,zp,Bs.aj,Bs.au,Bs.an,ay];refine ah ?_;refine jD ?_;simp -dsimp only[simprocAttr,↓aa,zp,Bs.aj,Bs.au,Bs.an,ay]
   repeat(refine⟨by omega,?_⟩)
   refine eX ?_;refine⟨⟨j+1,a8⟩,by simp;omega,?_⟩;refine zq rfl ?_ ?_;simp -dsimp only[simprocAttr,↓aa,zp,Bs.aj,Bs.au,Bs.an,ay,zc]
   all_goals first|rfl|exact Sub.refl _
  refine aF ?_;simp -dsimp only[bF,ne_eq,Nat.reduceEqDiff,reduceCtorEq];have tA:j=n:=by simp at h;omega
  subst tA;refine aU ?_;simp -dsimp only[simprocAttr,↓aa,zp,Bs.aj,Bs.au,Bs.an,ay,<-hn]
  repeat(refine⟨by omega,?_⟩)
  refine ah ?_;refine cK ?_;simp -dsimp only[simprocAttr,↓aa,zp,Bs.aj,Bs.au,Bs.an,ay,<-hn];refine ah ?_;obtain⟨A,hA⟩:∃A,A=vY j:=⟨_,rfl⟩
  rw[<-hA];refine ag (aM (ι:={i:Nat // i<=j}) (fun i=>⟨106,[(1,.ip none [aI f.name,aw f.blocks]),(3,.mp 1 0),(4,.mp 2 0),(6,.ms 3 0 j j),(30,aI j),(31,aI i.1)],[.gone,.cells [.v (.int .u64 0),.v (.int .u64 0)],.cells A.enc.cells,.cells (al ((List.replicate i.1 A++List.replicate (j-i.1) Bs.none).map Bs.enc))]⟩) (fun i=>j-i.1) ⟨0,by omega⟩ ?_ ?_)
  ·refine zq rfl ?_ ?_;simp -dsimp only[simprocAttr,↓aa,zp,Bs.aj,Bs.au,Bs.an,ay,zc];simp[al,List.flatMap,Bs.aj,Bs.none]
  rintro⟨i,hi⟩;have dq:(List.replicate i A++List.replicate (j-i) Bs.none).length=j:=by simp;omega
  refine aU ?_;simp -dsimp only[simprocAttr,↓aa,zp,Bs.aj,Bs.au,Bs.an,ay];refine ah ?_;apply ic rfl<;>intro h
  ·refine ct ?_;have a8:i<j:=by simpa using h
   have ga:=Cz (l:=List.replicate i A++List.replicate (j-i) Bs.none) (k:=i) (by rw[dq];exact a8) A;have iY:(List.replicate i A++List.replicate (j-i) Bs.none).set i A=List.replicate (i+1) A++List.replicate (j-(i+1)) Bs.none:=by
    obtain⟨q,hq⟩:∃q,j-i=q+1:=⟨j-i-1,by omega⟩
    rw[hq,show j-(i+1)=q by omega,List.set_append_right _ _ (by simp),List.replicate_succ' (n:=i)];simp[List.replicate_succ]
   rw[iY]at ga;have hlen:=yq (List.replicate i A++List.replicate (j-i) Bs.none);rw[dq]at hlen;refine aG (ag ?_);refine aU ?_;simp -dsimp only[simprocAttr,↓aa,zp,Bs.aj,Bs.au,Bs.an,ay];refine ah ?_;refine jD ?_;simp -dsimp only[simprocAttr,↓aa,zp,Bs.aj,Bs.au,Bs.an,ay,ga,hlen]
   repeat(refine⟨by omega,?_⟩)
   refine ah ?_;refine jD ?_;simp -dsimp only[simprocAttr,↓aa,zp,Bs.aj,Bs.au,Bs.an,ay]
   repeat(refine⟨by omega,?_⟩)
   refine eX ?_;refine⟨⟨i+1,a8⟩,by simp;omega,?_⟩;refine zq rfl ?_ ?_;simp -dsimp only[simprocAttr,↓aa,zp,Bs.aj,Bs.au,Bs.an,ay,zc]
   all_goals first|rfl|exact Sub.refl _
  refine aF ?_;simp -dsimp only[bF,ne_eq,Nat.reduceEqDiff,reduceCtorEq];have tP:i=j:=by simp at h;omega
  subst tP;have Vo:=EX Bs.none 0 Bs.nP (by omega);have hlen:=yq (List.replicate i A++List.replicate (i-i) Bs.none);rw[dq]at hlen;have ga:=Cz (l:=List.replicate i A++List.replicate (i-i) Bs.none) (k:=0) (by rw[dq];exact B6) (Bs.none.add 0);have jx:(List.replicate i A++List.replicate (i-i) Bs.none).set 0 (Bs.none.add 0)=(k8 f).over:=by
   simp[k8,<-hn,hA]
  rw[jx,Nat.zero_mul]at ga;have S7:aI ((0:Nat):Int)=aI 0:=rfl;rw[S7]at Vo;refine aU ?_;simp -dsimp only[simprocAttr,↓aa,zp,Bs.aj,Bs.au,Bs.an,ay,O8];refine .inl ⟨_,Vo,by simp only[av,ae.upto,zt,zu,ax,Bs.aL,Bs.an],ao ?_⟩;simp -dsimp only[simprocAttr,↓aa,zp,Bs.aj,Bs.au,Bs.an,ay,ga,hlen];refine⟨by omega,by omega,?_⟩;refine ah ?_;refine aU ?_;simp -dsimp only[simprocAttr,↓aa,zp,Bs.aj,Bs.au,Bs.an,ay,O8];refine .inl ⟨_,Vo,by simp only[av,ae.upto,zt,zu,ax,Bs.aL,Bs.an],ao ?_⟩;simp -dsimp only[simprocAttr,↓aa,zp,Bs.aj,Bs.au,Bs.an,ay];refine ah ?_;refine cK ?_;simp -dsimp only[simprocAttr,↓aa,zp,Bs.aj,Bs.au,Bs.an,ay];refine ah ?_;have hw0:=yf hS;refine ag (aM (ι:={x:Ds×Nat // kY i x.1∧R=iU f x.2 x.1∧(x.1.again=true->x.1.weight<x.2)}) (fun x=>⟨106,[(1,.ip none [aI f.name,aw f.blocks]),(3,.mp 1 0),(6,.ms 3 0 i i),(8,.mp 4 0),(9,.v (.bool x.1.1.again))],[.gone,.cells [.v (.int .u64 0),.v (.int .u64 0)],.cells A.enc.cells,.cells (al (x.1.1.over.map Bs.enc)),.cells x.1.1.seen.enc.cells]⟩) (fun x=>x.1.1.weight+if x.1.1.again then 1 else 0) ⟨(k8 f,20000),hS,hR,fun _=>by simp only;omega⟩ ?_ ?_)
  ·refine zq rfl ?_ ?_;simp -dsimp only[simprocAttr,↓aa,zp,Bs.aj,Bs.au,Bs.an,ay,zc]
   all_goals first|rfl|exact Sub.refl _
  rintro⟨⟨S,q⟩,IY,Mi,QL⟩;simp only at IY Mi QL;refine cK ?_;simp -dsimp only[simprocAttr,↓aa,zp,Bs.aj,Bs.au,Bs.an,ay];refine ah ?_;apply aP rfl<;>intro h
  ·refine ct ?_;have nh:S.again=true:=h;have QL:=QL nh;obtain⟨q,rfl⟩:∃q',q=q'+1:=⟨q-1,by omega⟩
   have IX:R=iU f q (lI 0 ⟨S.over,S.seen,false⟩ f.blocks):=by
    rw[Mi];simp[iU,nh]
   have OG:kY i ⟨S.over,S.seen,false⟩:=⟨IY.few,IY.len,IY.fit,IY.seen,IY.self⟩
   have T7:=qQ f.blocks (k:=0) OG he;obtain⟨S1,PZ⟩:∃S1,S1=lI 0 ⟨S.over,S.seen,false⟩ f.blocks:=⟨_,rfl⟩
   rw[<-PZ]at IX T7;obtain⟨Xk,Xl,Q1⟩:=T7;have Sa:(⟨S.over,S.seen,false⟩:Ds).weight=S.weight:=rfl;rw[Sa]at Xl Q1;refine ag ?_;refine aU ?_;simp -dsimp only[simprocAttr,↓aa,zp,Bs.aj,Bs.au,Bs.an,ay];refine ah ?_;refine aU ?_;simp -dsimp only[simprocAttr,↓aa,zp,Bs.aj,Bs.au,Bs.an,ay,<-hn];refine ah ?_;refine ag (aM (ι:={y:Nat×Ds // y.1<=i∧kY i y.2∧S1=lI y.1 y.2 (f.blocks.drop y.1)}) (fun y=>⟨106,[(1,.ip none [aI f.name,aw f.blocks]),(3,.mp 1 0),(6,.ms 3 0 i i),(8,.mp 4 0),(47,aw f.blocks),(48,aI i),(9,.v (.bool y.1.2.again)),(49,aI y.1.1)],[.gone,.cells [.v (.int .u64 0),.v (.int .u64 0)],.cells A.enc.cells,.cells (al (y.1.2.over.map Bs.enc)),.cells y.1.2.seen.enc.cells]⟩) (fun y=>i-y.1.1) ⟨(0,⟨S.over,S.seen,false⟩),by simp,OG,PZ⟩ ?_ ?_)
   ·refine zq rfl ?_ ?_;simp -dsimp only[simprocAttr,↓aa,zp,Bs.aj,Bs.au,Bs.an,ay,zc]
    all_goals rfl
   rintro⟨⟨k,T⟩,hk,Gc,xv⟩;simp only at hk Gc xv;refine aU ?_;simp -dsimp only[simprocAttr,↓aa,zp,Bs.aj,Bs.au,Bs.an,ay];refine ah ?_;apply ic rfl<;>intro h
   ·refine ct ?_;have a8:k<i:=by simpa using h
    obtain⟨b,hb⟩:∃b,f.blocks[k]?=some b:=⟨f.blocks[k]'(by omega),List.getElem?_eq_getElem _⟩
    have AX:=List.mem_of_getElem? hb;rw[bA hb]at xv;simp only[lI]at xv;have X1:=EB (k:=k) Gc (he b AX);have My:=qY T.seen Gc.seen k (by omega);refine aG (ag ?_);refine aU ?_;simp -dsimp only[simprocAttr,↓aa,zp,Bs.aj,Bs.au,Bs.an,ay,hb];refine ah ?_;refine aC 11 5 (.ip none [a7 b.params,bW b.ins,aI b.term.kind,aI b.term.arg,aI b.term.n,a7 b.term.cases,aH b.term.to]) rfl (by simp[ai.aD]) trivial rfl ?_ ?_;rotate_left;simp -dsimp only[simprocAttr,↓aa,zp,Bs.aj,Bs.au,Bs.an,ay]
    ·refine cb 5 [(1,.ip none [aI f.name,aw f.blocks]),(3,.mp 1 0),(6,.ms 3 0 i i),(8,.mp 4 0),(47,aw f.blocks),(48,aI i),(9,.v (.bool T.again)),(10,aI k),(11,.ip none [a7 b.params,bW b.ins,aI b.term.kind,aI b.term.arg,aI b.term.n,a7 b.term.cases,aH b.term.to]),(49,aI k)] (by simp) (by omega) [.gone,.cells [.v (.int .u64 0),.v (.int .u64 0)],.cells A.enc.cells,.cells (al (T.over.map Bs.enc)),.cells T.seen.enc.cells] ?_ ?_ ?_ ?_ ?_
     ·rfl
     ·simp[ai.upto,av,ae.upto,ax,Block.ak,Edge.ak,Ins.ak,iA,Bs.aj]
     ·simp[iv,St.get,bt,bc,Go.Av.look,Sub.refl]
     ·simp[ai.upto,av,ae.upto,ax,Block.ak,Edge.ak,Ins.ak,iA,Bs.aj]
     cases Pc:T.seen.has k with
     | false =>
      rw[Pc]at My;have VZ:qP k T b=T:=by simp[qP,Pc]
      rw[VZ]at xv;refine cK ?_;simp -dsimp only[simprocAttr,↓aa,zp,Bs.aj,Bs.au,Bs.an,ay];refine .inl ⟨_,My,by simp only[av,ae.upto,zt,zu,ax,Bs.aL,Bs.an],ao ?_⟩;simp -dsimp only[simprocAttr,↓aa,zp,Bs.aj,Bs.au,Bs.an,ay];refine ah ?_;refine cY rfl ?_;refine aF ?_;simp -dsimp only[bF,ne_eq,Nat.reduceEqDiff,reduceCtorEq];refine jD ?_;simp -dsimp only[simprocAttr,↓aa,zp,Bs.aj,Bs.au,Bs.an,ay]
      repeat(refine⟨by omega,?_⟩)
      refine eX ?_;refine⟨⟨(k+1,T),by simp only;omega,Gc,xv⟩,by simp;omega,?_⟩;refine zq rfl ?_ ?_;simp -dsimp only[simprocAttr,↓aa,zp,Bs.aj,Bs.au,Bs.an,ay,zc]
      all_goals first|rfl|exact Sub.refl _
     | true =>
      rw[Pc]at My;have VZ:qP k T b=b.term.to.foldl (hU k) T:=by simp[qP,Pc]
      rw[VZ]at xv X1;refine cK ?_;simp -dsimp only[simprocAttr,↓aa,zp,Bs.aj,Bs.au,Bs.an,ay];refine .inl ⟨_,My,by simp only[av,ae.upto,zt,zu,ax,Bs.aL,Bs.an],ao ?_⟩;simp -dsimp only[simprocAttr,↓aa,zp,Bs.aj,Bs.au,Bs.an,ay];refine ah ?_;apply aP rfl<;>intro h
      ·cases h
      refine ct ?_;refine aU ?_;simp -dsimp only[simprocAttr,↓aa,zp,Bs.aj,Bs.au,Bs.an,ay];refine ah ?_;refine fh 60 rfl (fun lx=>?_);simp only[List.length_map]at lx;obtain⟨T1,XQ⟩:∃T1,T1=b.term.to.foldl (hU k) T:=⟨_,rfl⟩
      rw[<-XQ]at xv X1;refine ag (aM (ι:={y:Nat×Ds // y.1<=b.term.to.length∧kY i y.2∧T1=(b.term.to.drop y.1).foldl (hU k) y.2}) (fun y=>⟨106,[(1,.ip none [aI f.name,aw f.blocks]),(3,.mp 1 0),(6,.ms 3 0 i i),(8,.mp 4 0),(47,aw f.blocks),(48,aI i),(9,.v (.bool y.1.2.again)),(10,aI k),(49,aI k),(60,aH b.term.to),(61,aI b.term.to.length),(62,aI y.1.1)],[.gone,.cells [.v (.int .u64 0),.v (.int .u64 0)],.cells A.enc.cells,.cells (al (y.1.2.over.map Bs.enc)),.cells y.1.2.seen.enc.cells]⟩) (fun y=>b.term.to.length-y.1.1) ⟨(0,T),by simp,Gc,XQ⟩ ?_ ?_)
      ·refine zq rfl ?_ ?_;simp -dsimp only[simprocAttr,↓aa,zp,Bs.aj,Bs.au,Bs.an,ay,zc]
       all_goals rfl
      rintro⟨⟨z,U⟩,hz,Gd,Mj⟩;simp only at hz Gd Mj;refine aU ?_;simp -dsimp only[simprocAttr,↓aa,zp,Bs.aj,Bs.au,Bs.an,ay];refine ah ?_;apply ic rfl<;>intro h
      ·refine ct ?_;have MD:z<b.term.to.length:=by simpa using h
       obtain⟨e,Lj⟩:∃e,b.term.to[z]?=some e:=⟨b.term.to[z],by simp[MD]⟩
       obtain⟨RT,tz⟩:=he b AX e (List.mem_of_getElem? Lj);rw[bA Lj]at Mj;simp only[List.foldl_cons]at Mj;have oW:=EC (k:=k) Gd RT tz;obtain⟨ej,RU⟩:∃ej:Nat,e.block=ej:=⟨e.block.toNat,by omega⟩
       have Tg:e.block.toNat=ej:=by omega
       rw[Tg]at tz;have Lm:U.over[ej]?=some (U.at_ ej):=by
        have:ej<U.over.length:=by rw[Gd.len];exact tz
        simp[Ds.at_,this]
       have ka:U.over[k]?=some (U.at_ k):=by
        have:k<U.over.length:=by rw[Gd.len];exact a8
        simp[Ds.at_,this]
       have S2:=FN (U.at_ ej) (U.at_ k) (Gd.yo ej) (Gd.yo k);have RW:=Bs.AP (t:=U.at_ k) (Gd.yo ej);have P0:=EX ((U.at_ ej).meet (U.at_ k)) ej RW (by omega);have rf:=Bs.oR RW (k:=ej) (by omega);have nU:=qY U.seen Gd.seen ej (by omega);have Pb:=EX U.seen ej Gd.seen (by omega);have pY:=HX Lm;have Tu:=HX ka;have A9:=yq U.over;rw[Gd.len]at A9;have VY:hU k U e=if((U.at_ ej).meet (U.at_ k)).add ej≠U.at_ ej∨U.seen.has ej=false then⟨U.over.set ej (((U.at_ ej).meet (U.at_ k)).add ej),U.seen.add ej,true⟩else U:=by
        simp only[hU,Tg]
       generalize hM1:(U.at_ ej).meet (U.at_ k)=M1 at *;generalize hN:M1.add ej=N at *;generalize hV:U.at_ ej=V at *;have ga:=Cz (l:=U.over) (k:=ej) (by rw[Gd.len];exact tz) N;refine aG (ag ?_);refine aU ?_;simp -dsimp only[simprocAttr,↓aa,zp,Bs.aj,Bs.au,Bs.an,ay,Lj];refine ah ?_;refine aC 13 5 (.ip none [aI e.block,a7 e.args]) rfl (by simp[ai.aD]) trivial rfl ?_ ?_;rotate_left;simp -dsimp only[simprocAttr,↓aa,zp,Bs.aj,Bs.au,Bs.an,ay]
       ·refine cb 5 [(1,.ip none [aI f.name,aw f.blocks]),(3,.mp 1 0),(6,.ms 3 0 i i),(8,.mp 4 0),(47,aw f.blocks),(48,aI i),(9,.v (.bool U.again)),(10,aI k),(13,.ip none [aI e.block,a7 e.args]),(49,aI k),(60,aH b.term.to),(61,aI b.term.to.length),(62,aI z)] (by simp) (by omega) [.gone,.cells [.v (.int .u64 0),.v (.int .u64 0)],.cells A.enc.cells,.cells (al (U.over.map Bs.enc)),.cells U.seen.enc.cells] ?_ ?_ ?_ ?_ ?_
        ·rfl
        ·simp[ai.upto,av,ae.upto,ax,Block.ak,Edge.ak,Ins.ak,iA,Bs.aj]
        ·simp[iv,St.get,bt,bc,Go.Av.look,Sub.refl]
        ·simp[ai.upto,av,ae.upto,ax,Block.ak,Edge.ak,Ins.ak,iA,Bs.aj]
        refine aU ?_;simp -dsimp only[simprocAttr,↓aa,zp,Bs.aj,Bs.au,Bs.an,ay,RU,Int.toNat_natCast,pY,Tu,A9];refine⟨by omega,by omega,by omega,by omega,?_⟩;refine .inl ⟨_,S2,by simp only[av,ae.upto,zt,zu,ax,Bs.aL,Bs.an],ao ?_⟩;simp -dsimp only[simprocAttr,↓aa,zp,Bs.aj,Bs.au,Bs.an,ay];refine .inl ⟨_,P0,by simp only[av,ae.upto,zt,zu,ax,Bs.aL,Bs.an],ao ?_⟩;simp -dsimp only[simprocAttr,↓aa,zp,Bs.aj,Bs.au,Bs.an,ay];refine⟨ob (by kernel_rfl),?_⟩;refine ah ?_;have S4:=iA 5 (U.over.set ej N);rw[List.map_set]at S4;by_cases UO:N=V
        ·have UW:decide (N=V)=true:=decide_eq_true UO;cases Gw:U.seen.has ej with
         | true =>
          rw[Gw]at nU;have Df:hU k U e=U:=by rw[VY,if_neg (by simp[UO,Gw])]
          refine aU ?_;simp -dsimp only[simprocAttr,↓aa,zp,Bs.aj,Bs.au,Bs.an,ay,RU,Int.toNat_natCast,pY,A9,vL,UW]
          repeat(refine⟨by omega,?_⟩)
          refine .inl ⟨_,nU,by simp only[av,ae.upto,zt,zu,ax,Bs.aL,Bs.an],ao ?_⟩;simp -dsimp only[simprocAttr,↓aa,zp,Bs.aj,Bs.au,Bs.an,ay];refine⟨ob (by kernel_rfl),?_⟩;refine ah ?_;refine cm rfl ?_;refine lX ?_;refine cb 5 [(1,.ip none [aI f.name,aw f.blocks]),(3,.mp 1 0),(6,.ms 3 0 i i),(8,.mp 4 0),(47,aw f.blocks),(48,aI i),(9,.v (.bool U.again)),(10,aI k),(49,aI k),(60,aH b.term.to),(61,aI b.term.to.length),(62,aI z)] (by simp) (by omega) [.gone,.cells [.v (.int .u64 0),.v (.int .u64 0)],.cells A.enc.cells,.cells (al ((U.over).map Bs.enc)),.cells (U.seen).enc.cells] ?_ ?_ ?_ ?_ ?_
          ·rfl
          ·simp[ai.upto,av,ae.upto,ax,Block.ak,Edge.ak,Ins.ak,iA,Bs.aj]
          ·simp[iv,St.get,bt,bc,Go.Av.look,Sub.refl]
          ·simp[ai.upto,av,ae.upto,ax,Block.ak,Edge.ak,Ins.ak,iA,Bs.aj]
          refine jD ?_;simp -dsimp only[simprocAttr,↓aa,zp,Bs.aj,Bs.au,Bs.an,ay]
          repeat(refine⟨by omega,?_⟩)
          refine eX ?_;refine⟨⟨(z+1,U),by simp only;omega,Gd,by rw[Mj,Df]⟩,by simp;omega,?_⟩;refine zq rfl ?_ ?_;simp -dsimp only[simprocAttr,↓aa,zp,Bs.aj,Bs.au,Bs.an,ay,zc]
          all_goals first|rfl|exact Sub.refl _
         | false =>
          rw[Gw]at nU;have Df:hU k U e=⟨U.over.set ej N,U.seen.add ej,true⟩:=by rw[VY,if_pos (.inr Gw)]
          refine aU ?_;simp -dsimp only[simprocAttr,↓aa,zp,Bs.aj,Bs.au,Bs.an,ay,RU,Int.toNat_natCast,pY,A9,vL,UW]
          repeat(refine⟨by omega,?_⟩)
          refine .inl ⟨_,nU,by simp only[av,ae.upto,zt,zu,ax,Bs.aL,Bs.an],ao ?_⟩;simp -dsimp only[simprocAttr,↓aa,zp,Bs.aj,Bs.au,Bs.an,ay];refine⟨ob (by kernel_rfl),?_⟩;refine ah ?_;refine cY rfl ?_;refine jD ?_;simp -dsimp only[simprocAttr,↓aa,zp,Bs.aj,Bs.au,Bs.an,ay,RU,Int.toNat_natCast,ga,A9]
          repeat(refine⟨by omega,?_⟩)
          refine .inl ⟨_,Pb,by simp only[av,ae.upto,zt,zu,ax,Bs.aL,Bs.an],ao ?_⟩;simp -dsimp only[simprocAttr,↓aa,zp,Bs.aj,Bs.au,Bs.an,ay,ga,A9]
          repeat(refine⟨by omega,?_⟩)
          refine⟨ob (by kernel_rfl),?_⟩;refine ah ?_;refine cb 5 [(1,.ip none [aI f.name,aw f.blocks]),(3,.mp 1 0),(6,.ms 3 0 i i),(8,.mp 4 0),(47,aw f.blocks),(48,aI i),(9,.v (.bool true)),(10,aI k),(49,aI k),(60,aH b.term.to),(61,aI b.term.to.length),(62,aI z)] (by simp) (by omega) [.gone,.cells [.v (.int .u64 0),.v (.int .u64 0)],.cells A.enc.cells,.cells (al ((U.over.set ej N).map Bs.enc)),.cells (U.seen.add ej).enc.cells] ?_ ?_ ?_ ?_ ?_
          ·rfl
          ·simp[ai.upto,av,ae.upto,ax,Block.ak,Edge.ak,Ins.ak,iA,Bs.aj,S4]
          ·simp[iv,St.get,bt,bc,Go.Av.look,Sub.refl]
          ·simp[ai.upto,av,ae.upto,ax,Block.ak,Edge.ak,Ins.ak,iA,Bs.aj]
          refine jD ?_;simp -dsimp only[simprocAttr,↓aa,zp,Bs.aj,Bs.au,Bs.an,ay]
          repeat(refine⟨by omega,?_⟩)
          refine eX ?_;refine⟨⟨(z+1,⟨U.over.set ej N,U.seen.add ej,true⟩),by simp only;omega,by rw[<-Df];exact oW.1,by rw[Mj,Df]⟩,by simp;omega,?_⟩;refine zq rfl ?_ ?_;simp -dsimp only[simprocAttr,↓aa,zp,Bs.aj,Bs.au,Bs.an,ay,zc]
          all_goals first|rfl|exact Sub.refl _
        have UW:decide (N=V)=false:=decide_eq_false UO;have Df:hU k U e=⟨U.over.set ej N,U.seen.add ej,true⟩:=by rw[VY,if_pos (.inl UO)]
        refine aU ?_;simp -dsimp only[simprocAttr,↓aa,zp,Bs.aj,Bs.au,Bs.an,ay,RU,Int.toNat_natCast,pY,A9,vL,UW]
        repeat(refine⟨by omega,?_⟩)
        refine⟨ob (by kernel_rfl),?_⟩;refine ah ?_;refine cY rfl ?_;refine jD ?_;simp -dsimp only[simprocAttr,↓aa,zp,Bs.aj,Bs.au,Bs.an,ay,RU,Int.toNat_natCast,ga,A9]
        repeat(refine⟨by omega,?_⟩)
        refine .inl ⟨_,Pb,by simp only[av,ae.upto,zt,zu,ax,Bs.aL,Bs.an],ao ?_⟩;simp -dsimp only[simprocAttr,↓aa,zp,Bs.aj,Bs.au,Bs.an,ay,ga,A9]
        repeat(refine⟨by omega,?_⟩)
        refine⟨ob (by kernel_rfl),?_⟩;refine ah ?_;refine cb 5 [(1,.ip none [aI f.name,aw f.blocks]),(3,.mp 1 0),(6,.ms 3 0 i i),(8,.mp 4 0),(47,aw f.blocks),(48,aI i),(9,.v (.bool true)),(10,aI k),(49,aI k),(60,aH b.term.to),(61,aI b.term.to.length),(62,aI z)] (by simp) (by omega) [.gone,.cells [.v (.int .u64 0),.v (.int .u64 0)],.cells A.enc.cells,.cells (al ((U.over.set ej N).map Bs.enc)),.cells (U.seen.add ej).enc.cells] ?_ ?_ ?_ ?_ ?_
        ·rfl
        ·simp[ai.upto,av,ae.upto,ax,Block.ak,Edge.ak,Ins.ak,iA,Bs.aj,S4]
        ·simp[iv,St.get,bt,bc,Go.Av.look,Sub.refl]
        ·simp[ai.upto,av,ae.upto,ax,Block.ak,Edge.ak,Ins.ak,iA,Bs.aj]
        refine jD ?_;simp -dsimp only[simprocAttr,↓aa,zp,Bs.aj,Bs.au,Bs.an,ay]
        repeat(refine⟨by omega,?_⟩)
        refine eX ?_;refine⟨⟨(z+1,⟨U.over.set ej N,U.seen.add ej,true⟩),by simp only;omega,by rw[<-Df];exact oW.1,by rw[Mj,Df]⟩,by simp;omega,?_⟩;refine zq rfl ?_ ?_;simp -dsimp only[simprocAttr,↓aa,zp,Bs.aj,Bs.au,Bs.an,ay,zc]
        all_goals first|rfl|exact Sub.refl _
       exact bY.mp rfl rfl
      refine aF ?_;simp -dsimp only[bF,ne_eq,Nat.reduceEqDiff,reduceCtorEq];have qx:z=b.term.to.length:=by simp at h;omega
      subst qx;rw[List.drop_length]at Mj;simp only[List.foldl_nil]at Mj;refine jD ?_;simp -dsimp only[simprocAttr,↓aa,zp,Bs.aj,Bs.au,Bs.an,ay]
      repeat(refine⟨by omega,?_⟩)
      refine eX ?_;refine⟨⟨(k+1,U),by simp only;omega,Gd,by rw[xv,Mj]⟩,by simp;omega,?_⟩;refine zq rfl ?_ ?_;simp -dsimp only[simprocAttr,↓aa,zp,Bs.aj,Bs.au,Bs.an,ay,zc]
      all_goals first|rfl|exact Sub.refl _
    exact bY.mp rfl rfl
   refine aF ?_;simp -dsimp only[bF,ne_eq,Nat.reduceEqDiff,reduceCtorEq];have OQ:k=i:=by simp at h;omega
   subst OQ;rw[hn,List.drop_length]at xv;simp only[lI]at xv;subst xv;have A6:S1.again=true->S1.weight<q:=fun hh=>by
    rcases Q1 hh with r|r
    ·cases r
    omega
   refine⟨⟨(S1,q),Xk,IX,A6⟩,?_,?_⟩
   ·simp only[nh,if_true];cases Dn:S1.again
    ·simp;omega
    rcases Q1 Dn with r|r
    ·cases r
    simp;omega
   refine zq rfl ?_ ?_;simp -dsimp only[simprocAttr,↓aa,zp,Bs.aj,Bs.au,Bs.an,ay,zc]
   all_goals rfl
  refine aF ?_;simp -dsimp only[bF,ne_eq,Nat.reduceEqDiff,reduceCtorEq];have nh:S.again=false:=h;rw[xk nh]at Mi;subst Mi;have cM:=IY.len;refine aC 6 3 (.aB 2 (R.over.map Bs.enc) .sh) rfl (by simp[ai.aD]) trivial rfl ?_ ?_;rotate_left;simp -dsimp only[simprocAttr,↓aa,zp,Bs.aj,Bs.au,Bs.an,ay]
  ·refine aU ?_;simp -dsimp only[simprocAttr,↓aa,zp,Bs.aj,Bs.au,Bs.an,ay];refine⟨ob (by kernel_rfl),?_⟩;refine ah ?_;refine aq ?_;simp -dsimp only[simprocAttr,↓aa,zp,Bs.aj,Bs.au,Bs.an,ay,zr,Tryz.results88];exact⟨⟨gN _ _,trivial⟩,Bs.aL _ _,trivial⟩
  refine bY.ms rfl (Ey R.over) (by simp[cM]) ?_;rw[List.drop_zero,List.take_of_length_le (by rw[yq,cM];exact Nat.le_refl _),<-fk];simp[List.map_map,Function.comp_def,Bs.an]
 exact bY.mp rfl rfl
abbrev H2(f:Func)(ds:Defs)(over:List Bs)(seen:Bs)(k:Nat)(A:Nat):List ae:=[.ip none [.ip none [aI f.name,aw f.blocks,.im (.int .i64) (ds.map ff)]],.ip none [aI (k:Int)],.mp A 0,.ip none [.aB 2 (over.map Bs.enc) .sh],.ip none [.v (.int .u64 seen.a),.v (.int .u64 seen.b)]]
def iX(ds:Defs)(over:List Bs)(seen:Bs)(k:Nat)(at_:Int)(v:Int):Bool :=
 match fB ds v with
 | none=>false
 | some p=>(decide (p.1=k)&&decide (p.2<=at_)) || ((!decide (p.1=k)&&(over[k]?.getD .none).has p.1.toNat) || !seen.has k)
def Cd(n:Nat)(ds:Defs):Prop:=∀v p,fB ds v=some p->0<=p.1∧p.1.toNat<n
theorem F8{O:List ai}(br:∀o∈O,o.upto O.length){f:Func}{ds:Defs}{over:List Bs}{seen:Bs}{k A:Nat}{at_:Int}(hA:O[A]?=some (.cells [aI at_]))(hn:over.length<=128)(hk:k<over.length)(bJ:∀s∈over,s.fit)(V7:seen.fit)(tO:Cd over.length ds)(v:Int) :
  bh Tryz.prog 89 O (aI v::H2 f ds over seen k A) (fun r O'=>r=.v (.bool (iX ds over seen k at_ v))∧O'=O):=by
 have C9:=I hA;have ka:over[k]?=some over[k]:=List.getElem?_eq_getElem hk;have X7:=bJ _ (List.getElem_mem hk);obtain⟨s,hs⟩:∃s,s=over[k]:=⟨_,rfl⟩
 rw[<-hs]at ka X7;have nU:=qY seen V7 k (by omega);unfold iX;have hAX:∀X,(O++X)[A]?=some (.cells [aI at_]):=fun X=>bS hA;have hdu:=fm O.length ds;rw[ka];simp only[Option.getD_some];generalize Pc:seen.has k=sk at *;cases hl:fB ds v with
 | none =>
  refine zf true O.length Tryz.func89 Tryz.ntmps89 ?_;dsimp only[Tmp,TypeId,slotsOf];refine aU ?_;simp -dsimp only[simprocAttr,↓aa,zp,Bs.aj,Bs.au,Bs.an,ay];refine ah ?_;refine aU ?_;simp -dsimp only[simprocAttr,↓aa,zp,Bs.aj,Bs.au,Bs.an,ay,jj,hl,Option.map_none,Option.getD_none,Option.isSome_none];refine ah ?_;refine aK 8 ([aI 0,aI 0]) [(9,.v (.bool false))] rfl (by rfl) (by omega) (by simp[bt,bc,Go.Av.look]) ?_ ?_ ?_
  ·exact br
  ·simp[ae.upto]
  refine aU ?_;simp -dsimp only[simprocAttr,↓aa,zp,Bs.aj,Bs.au,Bs.an,ay];refine⟨ob (by kernel_rfl),?_⟩;refine ah ?_;refine aq ?_;simp -dsimp only[simprocAttr,↓aa,zp,Bs.aj,Bs.au,Bs.an,ay,zr,Tryz.results89];exact br
 | some p =>
  have hq:eD p=.agg [aI p.1,aI p.2]:=rfl;obtain⟨b0,b1⟩:=tO v p hl;have jx:=qY s X7 p.1.toNat (by omega)
  rw[show((p.1.toNat:Nat):Int)=p.1 by omega]at jx;simp only;generalize s.has p.1.toNat=sv at *;by_cases wI:p.1=k
  ·have hd:decide (p.1=(k:Int))=true:=decide_eq_true wI;by_cases qv:p.2<=at_
   ·have kW:decide (p.2<=at_)=true:=decide_eq_true qv;rw[hd,kW];refine zf true O.length Tryz.func89 Tryz.ntmps89 ?_;dsimp only[Tmp,TypeId,slotsOf];refine aU ?_;simp -dsimp only[simprocAttr,↓aa,zp,Bs.aj,Bs.au,Bs.an,ay];refine ah ?_;refine aU ?_;simp -dsimp only[simprocAttr,↓aa,zp,Bs.aj,Bs.au,Bs.an,ay,jj,hl,hq,Option.map_some,Option.getD_some,Option.isSome_some];refine ah ?_;refine aK 8 ([aI p.1,aI p.2]) [(2,.ip none [aI k]),(3,.mp A 0),(4,.ip none [.aB 2 (over.map Bs.enc) .sh]),(5,.ip none [.v (.int .u64 seen.a),.v (.int .u64 seen.b)]),(8,.ip none [aI p.1,aI p.2]),(9,.v (.bool true))] rfl (by rfl) (by omega) (by simp[bt,bc,Go.Av.look]) ?_ ?_ ?_
    ·exact br
    ·simp[ae.upto,av,C9,gN]
    refine aU ?_;simp -dsimp only[simprocAttr,↓aa,zp,Bs.aj,Bs.au,Bs.an,ay,hA,ka,Int.toNat_natCast,hd,kW];refine⟨ob (by kernel_rfl),?_⟩;refine ah ?_;refine aq ?_;simp -dsimp only[simprocAttr,↓aa,zp,Bs.aj,Bs.au,Bs.an,ay,zr,Tryz.results89];exact⟨br,by simp⟩
   have kW:decide (p.2<=at_)=false:=decide_eq_false qv;rw[hd,kW];refine zf true O.length Tryz.func89 Tryz.ntmps89 ?_;dsimp only[Tmp,TypeId,slotsOf];refine aU ?_;simp -dsimp only[simprocAttr,↓aa,zp,Bs.aj,Bs.au,Bs.an,ay];refine ah ?_;refine aU ?_;simp -dsimp only[simprocAttr,↓aa,zp,Bs.aj,Bs.au,Bs.an,ay,jj,hl,hq,Option.map_some,Option.getD_some,Option.isSome_some];refine ah ?_;refine aK 8 ([aI p.1,aI p.2]) [(2,.ip none [aI k]),(3,.mp A 0),(4,.ip none [.aB 2 (over.map Bs.enc) .sh]),(5,.ip none [.v (.int .u64 seen.a),.v (.int .u64 seen.b)]),(8,.ip none [aI p.1,aI p.2]),(9,.v (.bool true))] rfl (by rfl) (by omega) (by simp[bt,bc,Go.Av.look]) ?_ ?_ ?_
   ·exact br
   ·simp[ae.upto,av,C9,gN]
   refine aU ?_;simp -dsimp only[simprocAttr,↓aa,zp,Bs.aj,Bs.au,Bs.an,ay,hA,ka,Int.toNat_natCast,hd,kW];refine .inl ⟨_,nU,by simp only[av,ae.upto,zt,zu,ax,Bs.aL,Bs.an],ao ?_⟩;simp -dsimp only[simprocAttr,↓aa,zp,Bs.aj,Bs.au,Bs.an,ay,hd,kW,hA,ka,Int.toNat_natCast];refine⟨ob (by kernel_rfl),?_⟩;refine ah ?_;refine aq ?_;simp -dsimp only[simprocAttr,↓aa,zp,Bs.aj,Bs.au,Bs.an,ay,zr,Tryz.results89];exact⟨br,by simp⟩
  have hd:decide (p.1=(k:Int))=false:=decide_eq_false wI;rw[hd];cases sv with
  | true =>
   refine zf true O.length Tryz.func89 Tryz.ntmps89 ?_;dsimp only[Tmp,TypeId,slotsOf];refine aU ?_;simp -dsimp only[simprocAttr,↓aa,zp,Bs.aj,Bs.au,Bs.an,ay];refine ah ?_;refine aU ?_;simp -dsimp only[simprocAttr,↓aa,zp,Bs.aj,Bs.au,Bs.an,ay,jj,hl,hq,Option.map_some,Option.getD_some,Option.isSome_some];refine ah ?_;refine aK 8 ([aI p.1,aI p.2]) [(2,.ip none [aI k]),(3,.mp A 0),(4,.ip none [.aB 2 (over.map Bs.enc) .sh]),(5,.ip none [.v (.int .u64 seen.a),.v (.int .u64 seen.b)]),(8,.ip none [aI p.1,aI p.2]),(9,.v (.bool true))] rfl (by rfl) (by omega) (by simp[bt,bc,Go.Av.look]) ?_ ?_ ?_
   ·exact br
   ·simp[ae.upto,av,C9,gN]
   refine aU ?_;simp -dsimp only[simprocAttr,↓aa,zp,Bs.aj,Bs.au,Bs.an,ay,hA,ka,Int.toNat_natCast,hd];refine .inl ⟨_,jx,by simp only[av,ae.upto,zt,zu,ax,Bs.aL,Bs.an],ao ?_⟩;simp -dsimp only[simprocAttr,↓aa,zp,Bs.aj,Bs.au,Bs.an,ay,hd,hA,ka,Int.toNat_natCast];refine⟨ob (by kernel_rfl),?_⟩;refine ah ?_;refine aq ?_;simp -dsimp only[simprocAttr,↓aa,zp,Bs.aj,Bs.au,Bs.an,ay,zr,Tryz.results89];exact⟨br,by simp⟩
  | false =>
   refine zf true O.length Tryz.func89 Tryz.ntmps89 ?_;dsimp only[Tmp,TypeId,slotsOf];refine aU ?_;simp -dsimp only[simprocAttr,↓aa,zp,Bs.aj,Bs.au,Bs.an,ay];refine ah ?_;refine aU ?_;simp -dsimp only[simprocAttr,↓aa,zp,Bs.aj,Bs.au,Bs.an,ay,jj,hl,hq,Option.map_some,Option.getD_some,Option.isSome_some];refine ah ?_;refine aK 8 ([aI p.1,aI p.2]) [(2,.ip none [aI k]),(3,.mp A 0),(4,.ip none [.aB 2 (over.map Bs.enc) .sh]),(5,.ip none [.v (.int .u64 seen.a),.v (.int .u64 seen.b)]),(8,.ip none [aI p.1,aI p.2]),(9,.v (.bool true))] rfl (by rfl) (by omega) (by simp[bt,bc,Go.Av.look]) ?_ ?_ ?_
   ·exact br
   ·simp[ae.upto,av,C9,gN]
   refine aU ?_;simp -dsimp only[simprocAttr,↓aa,zp,Bs.aj,Bs.au,Bs.an,ay,hA,ka,Int.toNat_natCast,hd];refine .inl ⟨_,jx,by simp only[av,ae.upto,zt,zu,ax,Bs.aL,Bs.an],ao ?_⟩;simp -dsimp only[simprocAttr,↓aa,zp,Bs.aj,Bs.au,Bs.an,ay,hd,hA,ka,Int.toNat_natCast];refine .inl ⟨_,nU,by simp only[av,ae.upto,zt,zu,ax,Bs.aL,Bs.an],ao ?_⟩;simp -dsimp only[simprocAttr,↓aa,zp,Bs.aj,Bs.au,Bs.an,ay,hd,hA,ka,Int.toNat_natCast];refine⟨ob (by kernel_rfl),?_⟩;refine ah ?_;refine aq ?_;simp -dsimp only[simprocAttr,↓aa,zp,Bs.aj,Bs.au,Bs.an,ay,zr,Tryz.results89];exact⟨br,by simp⟩
def oz(t:Term)(p:Int->Bool):Bool:=((decide (t.kind=1) ||decide (t.kind=4)) ||p t.arg)&&t.to.all fun e=>e.args.all p
theorem ub{α:Type}{l:List α}{p:α->Bool}{j:Nat}{x:α}(h:l[j]?=some x):(l.drop j).all p=(p x&&(l.drop (j+1)).all p):=by
 rw[bA h];rfl
theorem Ht{O:List ai}(br:∀o∈O,o.upto O.length)(id:Nat)(yt:List ae)(tN:av O.length yt)(p:Int->Bool)(hp:∀v,bh Tryz.prog id O (aI v::yt) (fun r O'=>r=.v (.bool (p v))∧O'=O))(t:Term) :
  bh Tryz.prog 91 O [t.enc,.fn (.func id) [] yt] (fun r O'=>r=.v (.bool (oz t p))∧O'=O):=by
 obtain⟨R,hR⟩:∃R,R=oz t p:=⟨_,rfl⟩
 rw[<-hR];unfold oz at hR;have Mp:ae.upto O.length (.fn (.func id) [] yt):=⟨trivial,tN⟩
 have qv:=hp t.arg;refine zf true O.length Tryz.func91 Tryz.ntmps91 ?_;dsimp only[Tmp,TypeId,slotsOf];refine aU ?_;simp -dsimp only[simprocAttr,↓aa,zp,Bs.aj,Bs.au,Bs.an,ay];refine ah ?_;refine aK 2 ([aI t.kind,aI t.arg,aI t.n,a7 t.cases,aH t.to]) [(1,.fn (.func id) [] yt),(2,.ip none [aI t.kind,aI t.arg,aI t.n,a7 t.cases,aH t.to]),(4,.v (.bool false))] rfl (by rfl) (by omega) (by simp[bt,bc,Go.Av.look]) ?_ ?_ ?_
 ·exact br
 ·simp[ae.upto,av,ax,Edge.ak,tN]
 cases hb:(decide (t.kind=1) ||decide (t.kind=4)) ||p t.arg with
 | false =>
  rw[hb]at hR;obtain⟨h1,h4,EN⟩:decide (t.kind=1)=false∧decide (t.kind=4)=false∧p t.arg=false:=by
   revert hb;cases decide (t.kind=1)<;>cases decide (t.kind=4)<;>cases p t.arg<;>simp
  rw[EN]at qv;refine cK ?_;simp -dsimp only[simprocAttr,↓aa,zp,Bs.aj,Bs.au,Bs.an,ay,h1,h4];refine .inr (.inr ⟨_,qv,ao ?_⟩);simp -dsimp only[simprocAttr,↓aa,zp,Bs.aj,Bs.au,Bs.an,ay];refine ah ?_;refine cY rfl ?_;refine aU ?_;simp -dsimp only[simprocAttr,↓aa,zp,Bs.aj,Bs.au,Bs.an,ay];refine ah ?_;refine aq ?_;simp -dsimp only[simprocAttr,↓aa,zp,Bs.aj,Bs.au,Bs.an,ay,zr,Tryz.results91];exact⟨br,by rw[hR];rfl⟩
 | true =>
  rw[hb,Bool.true_and]at hR;refine km (⟨44,[(1,.fn (.func id) [] yt),(2,.ip none [aI t.kind,aI t.arg,aI t.n,a7 t.cases,aH t.to]),(4,.v (.bool false))],O⟩) ?_ ?_
  ·cases h1:decide (t.kind=1)with
   | true =>
    refine aU ?_;simp -dsimp only[simprocAttr,↓aa,zp,Bs.aj,Bs.au,Bs.an,ay,h1];refine ah ?_;refine cm rfl ?_;refine ba ?_;show bj _ _;refine zq rfl ?_ ?_;simp -dsimp only[simprocAttr,↓aa,zp,Bs.aj,Bs.au,Bs.an,ay,zc];rfl
   | false =>
    cases h4:decide (t.kind=4)with
    | true =>
     refine aU ?_;simp -dsimp only[simprocAttr,↓aa,zp,Bs.aj,Bs.au,Bs.an,ay,h1,h4];refine ah ?_;refine cm rfl ?_;refine ba ?_;show bj _ _;refine zq rfl ?_ ?_;simp -dsimp only[simprocAttr,↓aa,zp,Bs.aj,Bs.au,Bs.an,ay,zc];rfl
    | false =>
     have EN:p t.arg=true:=by
      rw[h1,h4]at hb;simpa using hb
     rw[EN]at qv;refine aU ?_;simp -dsimp only[simprocAttr,↓aa,zp,Bs.aj,Bs.au,Bs.an,ay,h1,h4];refine .inr (.inr ⟨_,qv,ao ?_⟩);simp -dsimp only[simprocAttr,↓aa,zp,Bs.aj,Bs.au,Bs.an,ay];refine ah ?_;refine cm rfl ?_;refine ba ?_;show bj _ _;refine zq rfl ?_ ?_;simp -dsimp only[simprocAttr,↓aa,zp,Bs.aj,Bs.au,Bs.an,ay,zc];rfl
  skip
  refine cK ?_;simp -dsimp only[simprocAttr,↓aa,zp,Bs.aj,Bs.au,Bs.an,ay];refine ah ?_;refine fh 25 rfl (fun lx=>?_);simp only[List.length_map]at lx;refine ag (aM (ι:={j:Nat // j<=t.to.length∧R=(t.to.drop j).all fun e=>e.args.all p}) (fun j=>⟨44,[(1,.fn (.func id) [] yt),(4,.v (.bool false)),(25,aH t.to),(26,aI t.to.length),(27,aI j.1)],O⟩) (fun j=>t.to.length-j.1) ⟨0,by omega,hR⟩ ?_ ?_)
  ·refine zq rfl ?_ ?_;simp -dsimp only[simprocAttr,↓aa,zp,Bs.aj,Bs.au,Bs.an,ay,zc];rfl
  rintro⟨j,hj,jw⟩;refine aU ?_;simp -dsimp only[simprocAttr,↓aa,zp,Bs.aj,Bs.au,Bs.an,ay];refine ah ?_;apply ic rfl<;>intro h
  ·refine ct ?_;have a8:j<t.to.length:=by simpa using h
   obtain⟨e,Lj⟩:∃e,t.to[j]?=some e:=⟨t.to[j],by simp[a8]⟩
   rw[ub Lj]at jw;refine aG (ag ?_);refine aU ?_;simp -dsimp only[simprocAttr,↓aa,zp,Bs.aj,Bs.au,Bs.an,ay,Lj];refine ah ?_;refine aK 6 ([aI e.block,a7 e.args]) [(1,.fn (.func id) [] yt),(4,.v (.bool false)),(6,.ip none [aI e.block,a7 e.args]),(25,aH t.to),(26,aI t.to.length),(27,aI j)] rfl (by rfl) (by omega) (by simp[bt,bc,Go.Av.look]) ?_ ?_ ?_
   ·exact br
   ·simp[ae.upto,av,ax,Edge.ak,tN]
   refine aU ?_;simp -dsimp only[simprocAttr,↓aa,zp,Bs.aj,Bs.au,Bs.an,ay];refine ah ?_;refine fh 32 rfl (fun lN=>?_);simp only[List.length_map]at lN;refine ag (aM (ι:={z:Nat // z<=e.args.length∧R=((e.args.drop z).all p&&(t.to.drop (j+1)).all fun e=>e.args.all p)}) (fun z=>⟨44,[(1,.fn (.func id) [] yt),(4,.v (.bool false)),(25,aH t.to),(26,aI t.to.length),(27,aI j),(32,a7 e.args),(33,aI e.args.length),(34,aI z.1)],O⟩) (fun z=>e.args.length-z.1) ⟨0,by omega,jw⟩ ?_ ?_)
   ·refine zq rfl ?_ ?_;simp -dsimp only[simprocAttr,↓aa,zp,Bs.aj,Bs.au,Bs.an,ay,zc];rfl
   rintro⟨z,hz,qx⟩;refine aU ?_;simp -dsimp only[simprocAttr,↓aa,zp,Bs.aj,Bs.au,Bs.an,ay];refine ah ?_;apply ic rfl<;>intro h
   ·refine ct ?_;have MD:z<e.args.length:=by simpa using h
    obtain⟨v,hv⟩:∃v,e.args[z]?=some v:=⟨e.args[z],by simp[MD]⟩
    rw[ub hv]at qx;have hpv:=hp v;refine aG (ag ?_);refine aU ?_;simp -dsimp only[simprocAttr,↓aa,zp,Bs.aj,Bs.au,Bs.an,ay,hv];refine ah ?_;refine aU ?_;simp -dsimp only[simprocAttr,↓aa,zp,Bs.aj,Bs.au,Bs.an,ay];refine .inr (.inr ⟨_,hpv,ao ?_⟩);simp -dsimp only[simprocAttr,↓aa,zp,Bs.aj,Bs.au,Bs.an,ay];refine ah ?_;cases EN:p v with
    | true =>
     rw[EN,Bool.true_and]at qx;refine cm rfl ?_;refine lX ?_;refine jD ?_;simp -dsimp only[simprocAttr,↓aa,zp,Bs.aj,Bs.au,Bs.an,ay]
     repeat(refine⟨by omega,?_⟩)
     refine eX ?_;refine⟨⟨z+1,MD,qx⟩,by simp;omega,?_⟩;refine zq rfl ?_ ?_;simp -dsimp only[simprocAttr,↓aa,zp,Bs.aj,Bs.au,Bs.an,ay,zc]
     ·exact Sub.int (by simp)
     rfl
    | false =>
     rw[EN]at qx;refine cY rfl ?_;refine aU ?_;simp -dsimp only[simprocAttr,↓aa,zp,Bs.aj,Bs.au,Bs.an,ay];refine ah ?_;refine aq ?_;simp -dsimp only[simprocAttr,↓aa,zp,Bs.aj,Bs.au,Bs.an,ay,zr,Tryz.results91];exact⟨br,by rw[qx];rfl⟩
   refine aF ?_;simp -dsimp only[bF,ne_eq,Nat.reduceEqDiff,reduceCtorEq];have Jw:z=e.args.length:=by simp at h;omega
   subst Jw;rw[List.drop_length]at qx;refine jD ?_;simp -dsimp only[simprocAttr,↓aa,zp,Bs.aj,Bs.au,Bs.an,ay]
   repeat(refine⟨by omega,?_⟩)
   refine eX ?_;refine⟨⟨j+1,a8,by simpa using qx⟩,by simp;omega,?_⟩;refine zq rfl ?_ ?_;simp -dsimp only[simprocAttr,↓aa,zp,Bs.aj,Bs.au,Bs.an,ay,zc]
   ·exact Sub.int (by simp)
   rfl
  refine aF ?_;simp -dsimp only[bF,ne_eq,Nat.reduceEqDiff,reduceCtorEq];have tA:j=t.to.length:=by simp at h;omega
  subst tA;rw[List.drop_length]at jw;refine aU ?_;simp -dsimp only[simprocAttr,↓aa,zp,Bs.aj,Bs.au,Bs.an,ay];refine ah ?_;refine aq ?_;simp -dsimp only[simprocAttr,↓aa,zp,Bs.aj,Bs.au,Bs.an,ay,zr,Tryz.results91];exact⟨br,by rw[jw];rfl⟩
def jz(ds:Defs)(over:List Bs)(seen:Bs)(k:Nat):Nat->List Ins->Bool
 | _,[]=>true
 | n,i::r=>i.args.all (iX ds over seen k n)&&jz ds over seen k (n+1) r
def lh(ds:Defs)(over:List Bs)(seen:Bs)(k:Nat)(b:Block):Bool:=jz ds over seen k 0 b.ins&&oz b.term (iX ds over seen k b.ins.length)
def gU(ds:Defs)(over:List Bs)(seen:Bs):Nat->List Block->Bool
 | _,[]=>true
 | k,b::r=>lh ds over seen k b&&gU ds over seen (k+1) r
def rH(f:Func)(ds:Defs):Int:=if gU ds (kZ f).1 (kZ f).2 0 f.blocks then 0 else 6
theorem LV(f:Func)(h0:f.blocks≠[])(h1:f.blocks.length<=128)(he:∀b∈f.blocks,∀e∈b.term.to,0<=e.block∧e.block.toNat<f.blocks.length):(kZ f).1.length=f.blocks.length∧(∀s∈(kZ f).1,s.fit)∧(kZ f).2.fit:=by
 have key:∀(n:Nat) (S:Ds),kY f.blocks.length S->kY f.blocks.length (iU f n S):=fun n=>by
  induction n with
  | zero=>exact fun S h=>h
  | succ n ih =>
   intro S h;simp only[iU];split
   ·exact ih _ (qQ f.blocks (k:=0) (S:=⟨S.over,S.seen,false⟩) ⟨h.few,h.len,h.fit,h.seen,h.self⟩ he).1
   exact h
 have h:=key 20000 _ (yB h0 h1);exact⟨h.len,h.fit,h.seen⟩
theorem Hu(f:Func)(ds:Defs)(h0:f.blocks≠[])(h1:f.blocks.length<=128)(he:∀b∈f.blocks,∀e∈b.term.to,0<=e.block∧e.block.toNat<f.blocks.length)(tO:Cd f.blocks.length ds) :
  bq Tryz.prog 59 [.ip none [aI f.name,aw f.blocks,.im (.int .i64) (ds.map ff)]] (aI (rH f ds)):=by
 have Tb:=tu f h0 h1 he;obtain⟨d1,d2,d3⟩:=LV f h0 h1 he;obtain⟨R,hR⟩:∃R,R=rH f ds:=⟨_,rfl⟩
 rw[<-hR];unfold rH at hR;generalize kZ f=D at *;obtain⟨over,seen⟩:=D;simp only at Tb d1 d2 d3 hR;have I1:=fm 6 ds;have Mt:=fm 3 ds;have ZP:=fm 0 ds;have OL:∀(k:Nat) (at_:Int) (v:Int),k<f.blocks.length->bh Tryz.prog 89 [.gone,.gone,.gone,.gone,.gone,.cells [aI at_]] (aI v::H2 f ds over seen k 5) (fun r O'=>r=.v (.bool (iX ds over seen k at_ v))∧O'=[.gone,.gone,.gone,.gone,.gone,.cells [aI at_]]):=fun k at_ v hk=>by
  refine F8 (O:=[.gone,.gone,.gone,.gone,.gone,.cells [aI at_]]) ?_ rfl (by omega) (by omega) d2 d3 (by rw[d1];exact tO) v;simp[ai.upto,av,ae.upto]
 refine zf true 0 Tryz.func59 Tryz.ntmps59 ?_;dsimp only[Tmp,TypeId,slotsOf];refine aU ?_;simp -dsimp only[simprocAttr,↓aa,zp,Bs.aj,Bs.au,Bs.an,ay];refine ah ?_;refine aC 1 0 (.ip none [.ip none [aI f.name,aw f.blocks,.im (.int .i64) (ds.map ff)]]) rfl (by simp[ai.aD]) trivial rfl ?_ ?_;rotate_left;simp -dsimp only[simprocAttr,↓aa,zp,Bs.aj,Bs.au,Bs.an,ay]
 ·refine aU ?_;simp -dsimp only[simprocAttr,↓aa,zp,Bs.aj,Bs.au,Bs.an,ay];refine .inl ⟨_,Tb,by simp only[av,ae.upto,zt,zu,ax,Bs.aL,Bs.an],ao ?_⟩;simp -dsimp only[simprocAttr,↓aa,zp,Bs.aj,Bs.au,Bs.an,ay];refine ah ?_;refine aC 3 1 (.ip none [.aB 2 (over.map Bs.enc) .sh]) rfl (by simp[ai.aD]) trivial rfl ?_ ?_;rotate_left;simp -dsimp only[simprocAttr,↓aa,zp,Bs.aj,Bs.au,Bs.an,ay]
  ·refine aC 4 2 (.ip none [.v (.int .u64 seen.a),.v (.int .u64 seen.b)]) rfl (by simp[ai.aD]) trivial rfl ?_ ?_;rotate_left;simp -dsimp only[simprocAttr,↓aa,zp,Bs.aj,Bs.au,Bs.an,ay]
   ·refine cK ?_;simp -dsimp only[simprocAttr,↓aa,zp,Bs.aj,Bs.au,Bs.an,ay];refine ah ?_;refine ag (aM (ι:={k:Nat // k<=f.blocks.length∧R=if gU ds over seen k (f.blocks.drop k)then 0 else 6}) (fun k=>⟨64,[(1,.ip none [.ip none [aI f.name,aw f.blocks,.im (.int .i64) (ds.map ff)]]),(2,aI 0),(3,.ip none [.aB 2 (over.map Bs.enc) .sh]),(4,.ip none [.v (.int .u64 seen.a),.v (.int .u64 seen.b)]),(25,aw f.blocks),(26,aI f.blocks.length),(27,aI k.1)],[.gone,.gone,.gone]⟩) (fun k=>f.blocks.length-k.1) ⟨0,by omega,hR⟩ ?_ ?_)
    ·refine zq rfl ?_ ?_;simp -dsimp only[simprocAttr,↓aa,zp,Bs.aj,Bs.au,Bs.an,ay,zc];rfl
    rintro⟨k,hk,de⟩;refine aU ?_;simp -dsimp only[simprocAttr,↓aa,zp,Bs.aj,Bs.au,Bs.an,ay];refine ah ?_;apply ic rfl<;>intro h
    ·refine ct ?_;have a8:k<f.blocks.length:=by simpa using h
     obtain⟨b,hb⟩:∃b,f.blocks[k]?=some b:=⟨f.blocks[k],by simp[a8]⟩
     rw[bA hb]at de;simp only[gU,lh]at de;refine aG (ag ?_);refine aU ?_;simp -dsimp only[simprocAttr,↓aa,zp,Bs.aj,Bs.au,Bs.an,ay,hb];refine ah ?_;refine aC 5 3 (.ip none [aI k]) rfl (by simp[ai.aD]) trivial rfl ?_ ?_;rotate_left;simp -dsimp only[simprocAttr,↓aa,zp,Bs.aj,Bs.au,Bs.an,ay]
     ·refine aC 6 4 (.ip none [a7 b.params,bW b.ins,aI b.term.kind,aI b.term.arg,aI b.term.n,a7 b.term.cases,aH b.term.to]) rfl (by simp[ai.aD]) trivial rfl ?_ ?_;rotate_left;simp -dsimp only[simprocAttr,↓aa,zp,Bs.aj,Bs.au,Bs.an,ay]
      ·refine aU ?_;simp -dsimp only[simprocAttr,↓aa,zp,Bs.aj,Bs.au,Bs.an,ay];refine ah ?_;refine aU ?_;simp -dsimp only[simprocAttr,↓aa,zp,Bs.aj,Bs.au,Bs.an,ay];refine ah ?_;refine cK ?_;simp -dsimp only[simprocAttr,↓aa,zp,Bs.aj,Bs.au,Bs.an,ay];refine ah ?_;refine fh 34 rfl (fun Gl=>?_);simp only[List.length_map]at Gl;refine ag (aM (ι:={x:Nat×Int // x.1<=b.ins.length∧R=if(jz ds over seen k x.1 (b.ins.drop x.1)&&oz b.term (iX ds over seen k b.ins.length))&&gU ds over seen (k+1) (f.blocks.drop (k+1))then 0 else 6}) (fun x=>⟨64,[(1,.ip none [.ip none [aI f.name,aw f.blocks,.im (.int .i64) (ds.map ff)]]),(2,aI 0),(3,.ip none [.aB 2 (over.map Bs.enc) .sh]),(4,.ip none [.v (.int .u64 seen.a),.v (.int .u64 seen.b)]),(25,aw f.blocks),(26,aI f.blocks.length),(27,aI k),(6,.ip none [a7 b.params,bW b.ins,aI b.term.kind,aI b.term.arg,aI b.term.n,a7 b.term.cases,aH b.term.to]),(7,.mp 5 0),(8,.fn (.func 89) [] [.ip none [.ip none [aI f.name,aw f.blocks,.im (.int .i64) (ds.map ff)]],.ip none [aI k],.mp 5 0,.ip none [.aB 2 (over.map Bs.enc) .sh],.ip none [.v (.int .u64 seen.a),.v (.int .u64 seen.b)]]),(34,bW b.ins),(35,aI b.ins.length),(36,aI x.1.1)],[.gone,.gone,.gone,.gone,.gone,.cells [aI x.1.2]]⟩) (fun x=>b.ins.length-x.1.1) ⟨(0,0),by simp,de⟩ ?_ ?_)
       ·refine zq rfl ?_ ?_;simp -dsimp only[simprocAttr,↓aa,zp,Bs.aj,Bs.au,Bs.an,ay,zc];rfl
       rintro⟨⟨j,z⟩,hj,jw⟩;simp only at hj jw;refine aU ?_;simp -dsimp only[simprocAttr,↓aa,zp,Bs.aj,Bs.au,Bs.an,ay];refine ah ?_;apply ic rfl<;>intro h
       ·refine ct ?_;have Jd:j<b.ins.length:=by simpa using h
        obtain⟨i,hi⟩:∃i,b.ins[j]?=some i:=⟨b.ins[j],by simp[Jd]⟩
        rw[bA hi]at jw;simp only[jz]at jw;refine aG (ag ?_);refine aU ?_;simp -dsimp only[simprocAttr,↓aa,zp,Bs.aj,Bs.au,Bs.an,ay,hi];refine ah ?_;refine aC 10 6 (.ip none [aI i.to,aI i.op,aI i.n,a7 i.args]) rfl (by simp[ai.aD]) trivial rfl ?_ ?_;rotate_left;simp -dsimp only[simprocAttr,↓aa,zp,Bs.aj,Bs.au,Bs.an,ay]
        ·refine cb 6 [(1,.ip none [.ip none [aI f.name,aw f.blocks,.im (.int .i64) (ds.map ff)]]),(2,aI 0),(3,.ip none [.aB 2 (over.map Bs.enc) .sh]),(4,.ip none [.v (.int .u64 seen.a),.v (.int .u64 seen.b)]),(25,aw f.blocks),(26,aI f.blocks.length),(27,aI k),(6,.ip none [a7 b.params,bW b.ins,aI b.term.kind,aI b.term.arg,aI b.term.n,a7 b.term.cases,aH b.term.to]),(7,.mp 5 0),(8,.fn (.func 89) [] [.ip none [.ip none [aI f.name,aw f.blocks,.im (.int .i64) (ds.map ff)]],.ip none [aI k],.mp 5 0,.ip none [.aB 2 (over.map Bs.enc) .sh],.ip none [.v (.int .u64 seen.a),.v (.int .u64 seen.b)]]),(34,bW b.ins),(35,aI b.ins.length),(36,aI j),(9,aI j),(10,.ip none [aI i.to,aI i.op,aI i.n,a7 i.args])] (by simp) (by omega) [.gone,.gone,.gone,.gone,.gone,.cells [aI z]] ?_ ?_ ?_ ?_ ?_
         ·rfl
         ·simp[ai.upto,av,ae.upto,ax,Block.ak,Edge.ak,Ins.ak,gN,I1,Mt]
         ·simp[iv,St.get,bt,bc,Go.Av.look,Sub.refl]
         ·simp[ai.upto,av,ae.upto,ax,Block.ak,Edge.ak,Ins.ak,gN,I1,Mt]
         refine aU ?_;simp -dsimp only[simprocAttr,↓aa,zp,Bs.aj,Bs.au,Bs.an,ay];refine ah ?_;refine aU ?_;simp -dsimp only[simprocAttr,↓aa,zp,Bs.aj,Bs.au,Bs.an,ay];refine ah ?_;refine fh 43 rfl (fun lN=>?_);simp only[List.length_map]at lN;refine ag (aM (ι:={y:Nat // y<=i.args.length∧R=if(((i.args.drop y).all (iX ds over seen k j)&&jz ds over seen k (j+1) (b.ins.drop (j+1)))&&oz b.term (iX ds over seen k b.ins.length))&&gU ds over seen (k+1) (f.blocks.drop (k+1))then 0 else 6}) (fun y=>⟨64,[(1,.ip none [.ip none [aI f.name,aw f.blocks,.im (.int .i64) (ds.map ff)]]),(2,aI 0),(3,.ip none [.aB 2 (over.map Bs.enc) .sh]),(4,.ip none [.v (.int .u64 seen.a),.v (.int .u64 seen.b)]),(25,aw f.blocks),(26,aI f.blocks.length),(27,aI k),(6,.ip none [a7 b.params,bW b.ins,aI b.term.kind,aI b.term.arg,aI b.term.n,a7 b.term.cases,aH b.term.to]),(7,.mp 5 0),(8,.fn (.func 89) [] [.ip none [.ip none [aI f.name,aw f.blocks,.im (.int .i64) (ds.map ff)]],.ip none [aI k],.mp 5 0,.ip none [.aB 2 (over.map Bs.enc) .sh],.ip none [.v (.int .u64 seen.a),.v (.int .u64 seen.b)]]),(34,bW b.ins),(35,aI b.ins.length),(36,aI j),(43,a7 i.args),(44,aI i.args.length),(45,aI y.1)],[.gone,.gone,.gone,.gone,.gone,.cells [aI j]]⟩) (fun y=>i.args.length-y.1) ⟨0,by omega,jw⟩ ?_ ?_)
         ·refine zq rfl ?_ ?_;simp -dsimp only[simprocAttr,↓aa,zp,Bs.aj,Bs.au,Bs.an,ay,zc];rfl
         rintro⟨y,hy,MM⟩;refine aU ?_;simp -dsimp only[simprocAttr,↓aa,zp,Bs.aj,Bs.au,Bs.an,ay];refine ah ?_;apply ic rfl<;>intro h
         ·refine ct ?_;have Yk:y<i.args.length:=by simpa using h
          obtain⟨v,hv⟩:∃v,i.args[y]?=some v:=⟨i.args[y],by simp[Yk]⟩
          rw[ub hv]at MM;have ZT:=OL k j v a8;refine aG (ag ?_);refine aU ?_;simp -dsimp only[simprocAttr,↓aa,zp,Bs.aj,Bs.au,Bs.an,ay,hv];refine ah ?_;refine aU ?_;simp -dsimp only[simprocAttr,↓aa,zp,Bs.aj,Bs.au,Bs.an,ay];refine .inr (.inr ⟨_,ZT,ao ?_⟩);simp -dsimp only[simprocAttr,↓aa,zp,Bs.aj,Bs.au,Bs.an,ay];refine ah ?_;cases EN:iX ds over seen k j v with
          | true =>
           rw[EN,Bool.true_and]at MM;refine cm rfl ?_;refine lX ?_;refine jD ?_;simp -dsimp only[simprocAttr,↓aa,zp,Bs.aj,Bs.au,Bs.an,ay]
           repeat(refine⟨by omega,?_⟩)
           refine eX ?_;refine⟨⟨y+1,Yk,MM⟩,by simp;omega,?_⟩;refine zq rfl ?_ ?_;simp -dsimp only[simprocAttr,↓aa,zp,Bs.aj,Bs.au,Bs.an,ay,zc]
           ·exact Sub.int (by simp)
           rfl
          | false =>
           rw[EN]at MM;refine cY rfl ?_;refine aU ?_;simp -dsimp only[simprocAttr,↓aa,zp,Bs.aj,Bs.au,Bs.an,ay];refine ah ?_;refine aq ?_;simp -dsimp only[simprocAttr,↓aa,zp,Bs.aj,Bs.au,Bs.an,ay,zr,Tryz.results59];rw[MM];simp
         refine aF ?_;simp -dsimp only[bF,ne_eq,Nat.reduceEqDiff,reduceCtorEq];have Xa:y=i.args.length:=by simp at h;omega
         subst Xa;rw[List.drop_length]at MM;refine jD ?_;simp -dsimp only[simprocAttr,↓aa,zp,Bs.aj,Bs.au,Bs.an,ay]
         repeat(refine⟨by omega,?_⟩)
         refine eX ?_;refine⟨⟨(j+1,j),Jd,by simpa using MM⟩,by simp;omega,?_⟩;refine zq rfl ?_ ?_;simp -dsimp only[simprocAttr,↓aa,zp,Bs.aj,Bs.au,Bs.an,ay,zc]
         ·exact Sub.int (by simp)
         rfl
        exact bY.mp rfl rfl
       refine aF ?_;simp -dsimp only[bF,ne_eq,Nat.reduceEqDiff,reduceCtorEq];have tA:j=b.ins.length:=by simp at h;omega
       subst tA;rw[List.drop_length]at jw;simp only[jz,Bool.true_and]at jw;have U9:=Ht (O:=[.gone,.gone,.gone,.gone,.gone,.cells [aI b.ins.length]]) (by simp[ai.upto,av,ae.upto]) 89 (H2 f ds over seen k 5) (by simp[ai.upto,av,ae.upto,ax,Block.ak,gN,I1]) (iX ds over seen k b.ins.length) (fun v=>OL k b.ins.length v a8) b.term;refine aU ?_;simp -dsimp only[simprocAttr,↓aa,zp,Bs.aj,Bs.au,Bs.an,ay];refine ah ?_;refine aU ?_;simp -dsimp only[simprocAttr,↓aa,zp,Bs.aj,Bs.au,Bs.an,ay];refine .inr (.inr ⟨_,U9,ao ?_⟩);simp -dsimp only[simprocAttr,↓aa,zp,Bs.aj,Bs.au,Bs.an,ay];refine ah ?_;cases EN:oz b.term (iX ds over seen k b.ins.length)with
       | true =>
        rw[EN,Bool.true_and]at jw;refine cm rfl ?_;refine lX ?_;refine cb 3 [(1,.ip none [.ip none [aI f.name,aw f.blocks,.im (.int .i64) (ds.map ff)]]),(2,aI 0),(3,.ip none [.aB 2 (over.map Bs.enc) .sh]),(4,.ip none [.v (.int .u64 seen.a),.v (.int .u64 seen.b)]),(25,aw f.blocks),(26,aI f.blocks.length),(27,aI k)] (by simp) (by omega) [.gone,.gone,.gone] ?_ ?_ ?_ ?_ ?_
        ·rfl
        ·simp[ai.upto,av,ae.upto,ax,Block.ak,Edge.ak,Ins.ak,gN,I1,Mt]
        ·simp[iv,St.get,bt,bc,Go.Av.look,Sub.refl]
        ·simp[ai.upto,av,ae.upto,ax,Block.ak,Edge.ak,Ins.ak,gN,I1,Mt]
        refine jD ?_;simp -dsimp only[simprocAttr,↓aa,zp,Bs.aj,Bs.au,Bs.an,ay]
        repeat(refine⟨by omega,?_⟩)
        refine eX ?_;refine⟨⟨k+1,a8,jw⟩,by simp;omega,?_⟩;refine zq rfl ?_ ?_;simp -dsimp only[simprocAttr,↓aa,zp,Bs.aj,Bs.au,Bs.an,ay,zc]
        ·exact Sub.int (by simp)
        rfl
       | false =>
        rw[EN]at jw;refine cY rfl ?_;refine aU ?_;simp -dsimp only[simprocAttr,↓aa,zp,Bs.aj,Bs.au,Bs.an,ay];refine ah ?_;refine aq ?_;simp -dsimp only[simprocAttr,↓aa,zp,Bs.aj,Bs.au,Bs.an,ay,zr,Tryz.results59];rw[jw];simp
      exact bY.mp rfl rfl
     exact bY.mp rfl rfl
    refine aF ?_;simp -dsimp only[bF,ne_eq,Nat.reduceEqDiff,reduceCtorEq];have ik:k=f.blocks.length:=by simp at h;omega
    subst ik;rw[List.drop_length]at de;refine aU ?_;simp -dsimp only[simprocAttr,↓aa,zp,Bs.aj,Bs.au,Bs.an,ay];refine ah ?_;refine aq ?_;simp -dsimp only[simprocAttr,↓aa,zp,Bs.aj,Bs.au,Bs.an,ay,zr,Tryz.results59];simp[de,gU]
   exact bY.mp rfl rfl
  exact bY.mp rfl rfl
 exact bY.mp rfl rfl
end Go.Proofs.YtjdnhamngpafmaaGreat
namespace Go.Av
theorem jJ{P:Program}{ops all:Array Oper}{k:Nat}(hk:∀i o,ops[i]?=some o->all[k+i]?=some o)(hg:∀o∈all.toList,o.guard=none):∀{l:List (Nat×Kind)} {σ τ:St},eJ P ops l σ τ->eJ P all (l.map fun p=>(k+p.1,p.2)) σ τ
 | [],_,_,h=>h
 | (i,q)::r,_,_,h=>by
  obtain⟨fN,⟨o,ho,h1⟩,h2⟩:=h;refine⟨fN,⟨o,hk i o ho,?_⟩,jJ hk hg h2⟩;have iT:=hk i o ho;have zX:o.guard=none:=hg o (by
   rw[<-Array.getElem?_toList]at iT;exact List.mem_of_getElem? iT)
  have w1:∀(a:Array Oper) (σ:St),cX a o σ=some true:=fun a σ=>by simp[cX,zX]
  rcases h1 with⟨_,h1⟩|⟨h1,_⟩
  ·exact .inl ⟨w1 _ _,h1⟩
  rw[w1]at h1;cases h1
def HL(P:Program)(aT:eh)(md:Md)(o:Oper)(l2:List Oper)(Q:dR->St->Prop)(τ:St):Prop:=∃x m,Cert P o τ x m∧fq P aT md l2 0 [] ⟨τ.n,pq o.dst x τ.bn,m.post τ.objs⟩ [] fun ρ _=>At ρ (Q .norm)
theorem mF{P:Program}{kb:Nat}{aT:eh}(md:Md)(hT:b7 P aT){id:Nat}{l l1 l2:List Oper}{o:Oper}{Q:dR->St->Prop}{σ:St}(k:Nat)(h1:l.take k=l1)(h2:l[k]?=some o)(h3:l.drop (k+1)=l2)(hg:∀o∈l,o.guard=none)
  (h:fq P aT md l1 0 [] σ [] fun τ _=>HL P aT md o l2 Q τ):cn P kb (.region id l.toArray false) Q σ:=by
 have a8:=I h2;obtain⟨τ,xJ,c1,n1,x,m,hc,h⟩:=dW (all:=l1.toArray) hT l1 0 [] σ [] (fun j=>by simp) (fun j t hj=>by simp[iR]at hj) h;obtain⟨ρ,Pp,c2,n2,hQ⟩:=dW (all:=l2.toArray) hT l2 0 [] _ [] (fun j=>by simp) (fun j t hj=>by simp[iR]at hj) h;intro base a g hb hr;have zX:o.guard=none:=hg o (List.mem_of_getElem? h2);have Xg:l1.length=k:=by rw[<-h1,List.length_take];omega
 have YI:l2.length=l.length-(k+1):=by rw[<-h3,List.length_drop]
 have d1:=jJ (all:=l.toArray) (k:=0) (fun i o' hi=>by
  have ia:l1[i]?=some o':=by simpa using hi
  have:=I ia;rw[<-h1,List.getElem?_take]at ia;split at ia
  ·simpa using ia
  cases ia) (by simpa using hg) c1
 have d2:=jJ (all:=l.toArray) (k:=k+1) (fun i o' hi=>by
  have ia:l2[i]?=some o':=by simpa using hi
  rw[<-h3,List.getElem?_drop]at ia;simpa using ia) (by simpa using hg) c2
 have dm:eJ P l.toArray [(k,m.kind)] τ ⟨τ.n,pq o.dst x τ.bn,m.post τ.objs⟩:=⟨_,⟨o,by simpa using h2,.inl ⟨by simp[cX,zX],x,m,hc,rfl,rfl⟩⟩,gK.refl _⟩
 have qt:=mJ d1 (mJ dm d2);obtain⟨ks,Ye⟩:∃ks,ks=xJ++m.kind::Pp:=⟨_,rfl⟩
 have e:(List.range l.toArray.size).map (fun i=>(i,ks.getD i .write))=(List.map (fun p=>(0+p.1,p.2)) (List.map (fun p=>(p.2,p.1)) (xJ.zipIdx 0))++([(k,m.kind)]++List.map (fun p=>(k+1+p.1,p.2)) (List.map (fun p=>(p.2,p.1)) (Pp.zipIdx 0)))):=by
  have cM:l.toArray.size=ks.length:=by
   rw[Ye];simp only[List.size_toArray,List.length_append,List.length_cons];omega
  rw[cM];apply List.ext_getElem?;intro i;rw[Ye];simp only[List.getElem?_map];by_cases q1:i<xJ.length
  ·rw[List.getElem?_append_left (by simpa using q1),List.getElem?_range (by simp;omega)];simp[q1,List.getElem?_append_left]
  rw[List.getElem?_append_right (by simp;omega)];simp only[List.length_map,List.length_zipIdx];by_cases q2:i=xJ.length
  ·subst q2;rw[List.getElem?_range (by simp)];simp[n1,Xg]
  rw[List.getElem?_append_right (by simp;omega)];obtain⟨j,hj⟩:∃j,i=xJ.length+1+j:=⟨i-xJ.length-1,by omega⟩
  subst hj;simp only[List.length_cons,List.length_nil,show xJ.length+1+j-xJ.length-(0+1)=j by omega,List.getElem?_map,List.getElem?_zipIdx];by_cases q3:j<Pp.length
  ·rw[List.getElem?_range (by simp;omega)];simp only[Option.map_some,List.getElem?_eq_getElem q3,Option.some.injEq,Prod.mk.injEq];refine⟨by omega,?_⟩;rw[List.getD_eq_getElem?_getD,List.getElem?_append_right (by omega),show xJ.length+1+j-xJ.length=j+1 by omega,List.getElem?_cons_succ,List.getElem?_eq_getElem q3];rfl
  rw[List.getElem?_eq_none (l:=List.range _) (by simp;omega),List.getElem?_eq_none (l:=Pp) (by omega)];rfl
 rw[<-e]at qt;exact lW qt hr fun a g z8=>⟨g,ρ,rfl,z8,hQ⟩
theorem yu{P:Program}{o:Oper}{σ:St}{t t':TypeId}{x y:Operand}{k:IntKind}{m n:Int}
  (ho:o.op=.binOp .add t x y t') (hd:∀d,o.dst=some d->d<σ.n) (hx:σ.ev x=some (.v (.int k m))) (hy:σ.ev y=some (.v (.int k n))) :
  Cert P o σ (.v (.int k (k.wrap (m+n)))) .pure :=
 Cert.bN .pure (.inl rfl) hd fun a g _ h _=>by
  have ex:=(h x (by simp[ho,Op.operands]) _ hx).bX.1;have ey:=(h y (by simp[ho,Op.operands]) _ hy).bX.1;have hg:=cJ (P:=P) .add t x y (.int k m) (.int k n) g.w (by simp) (by simp);refine⟨.int k (k.wrap (m+n)),?_,.v (wrap_within k _)⟩;have hb:(binOp .add t (.int k m) (.int k n)).run P g.w=.ok (.int k (k.wrap (m+n))) g.w:=by
   simp[binOp,Op.intArith]
  simp[execOp,ho,ex,ey,hg,hb]
theorem GR{P:Program}{aT:eh}{md:Md}{o:Oper}{l2:List Oper}{Q:dR->St->Prop}{τ:St}{t t':TypeId}{x y:Operand}{k:IntKind}{m n:Int}{d:Nat}
  (ho:o.op=.binOp .add t x y t') (jL:o.dst=some d) (hd:d<τ.n) (hx:τ.ev x=some (.v (.int k m))) (hy:τ.ev y=some (.v (.int k n)))
  (h:fq P aT md l2 0 [] ⟨τ.n,pq o.dst (.v (.int k (k.wrap (m+n)))) τ.bn,τ.objs⟩ [] fun ρ _=>At ρ (Q .norm)):HL P aT md o l2 Q τ :=
 ⟨_,.pure,yu ho (fun d' e=>by rw[jL]at e;cases e;exact hd) hx hy,h⟩
end Go.Av
namespace Go.Proofs.YtjdnhamngpafmaaGreat
open Go.Av
theorem DD(ds:Defs)(k v:Int)(p:Int×Int):fB (ds++[(k,p)]) v=match fB ds v with|some q=>some q|none=>if k=v then some p else none:=by
 induction ds with
 | nil=>rfl
 | cons e r ih =>
  obtain⟨a,q⟩:=e;simp only[List.cons_append,fB];split
  ·rfl
  exact ih
structure kB(n:Nat)(ds:Defs):Prop where
 ok:Cd n ds
 nodup:(ds.map (·.1)).Nodup
 range:∀e∈ds,0<=e.1∧e.1<=4095
theorem DC{ds:Defs}{v:Int}(h:fB ds v=none):∀e∈ds,e.1≠v:=by
 induction ds with
 | nil=>simp
 | cons e r ih =>
  obtain⟨a,q⟩:=e;simp only[fB]at h;split at h
  ·cases h
  rename_i bD;intro e he;rcases List.mem_cons.1 he with q|q
  ·subst q;exact bD
  exact ih h e q
theorem lz:∀(n:Nat) (l:List Nat),l.Nodup->(∀x∈l,x<n)->l.length<=n
 | 0,l,_,h=>by
  cases l with
  | nil=>simp
  | cons a r=>exact absurd (h a (by simp)) (by omega)
 | n+1,l,hn,h=>by
  by_cases hm:n∈l
  ·have:=lz n (l.erase n) (hn.erase n) (fun x hx=>by
    have h1:=(List.Nodup.mem_erase_iff hn).1 hx;have h2:=h x h1.2;have h3:=h1.1;omega)
   rw[List.length_erase_of_mem hm]at this;omega
  have:=lz n l hn (fun x hx=>by
   have h2:=h x hx;have:x≠n:=fun e=>hm (e ▸ hx);omega)
  omega
theorem kB.few{n:Nat}{ds:Defs}(h:kB n ds):ds.length<=4096:=by
 have h1:(ds.map fun e=>e.1.toNat).Nodup:=by
  have h0:=h.nodup;have hr:=h.range;clear h;induction ds with
  | nil=>simp
  | cons e r ih =>
   simp only[List.map_cons,List.nodup_cons,List.mem_map,not_exists,not_and]at h0 ⊢;refine⟨fun x hx q=>h0.1 x hx ?_,ih h0.2 (fun e he=>hr e (by simp[he]))⟩;have a:=hr e (by simp);have b:=hr x (by simp[hx]);omega
 have:=lz 4096 _ h1 (fun x hx=>by
  obtain⟨e,he,rfl⟩:=List.mem_map.1 hx;have:=h.range e he;omega)
 simpa using this
theorem uJ{n:Nat}{ds:Defs}(h:kB n ds)(v:Int){p:Int×Int}(h0:0<=p.1)(h1:p.1.toNat<n):kB n (df ds v p).2∧((df ds v p).1=0->(df ds v p).2.length=ds.length+1):=by
 unfold df;split
 ·exact⟨h,fun q=>by simp at q⟩
 rename_i hw;split
 ·exact⟨h,fun q=>by simp at q⟩
 rename_i hl;have zZ:fB ds v=none:=by simpa using hl
 have xF:0<=v∧v<=4095:=by simpa[within]using hw
 refine⟨⟨fun w q hq=>?_,?_,fun e he=>?_⟩,fun _=>by simp⟩
 ·rw[DD]at hq;cases hd:fB ds w with
  | some q' =>
   rw[hd]at hq;simp only[Option.some.injEq]at hq;exact hq ▸ h.ok w q' hd
  | none =>
   rw[hd]at hq;simp only at hq;split at hq
   ·simp only[Option.some.injEq]at hq;exact hq ▸ ⟨h0,h1⟩
   cases hq
 ·rw[List.map_append,List.map_cons,List.map_nil,List.nodup_append];refine⟨h.nodup,by simp,fun a ha b hb=>?_⟩;obtain⟨e,he,rfl⟩:=List.mem_map.1 ha;simp only[List.mem_singleton]at hb;subst hb;exact DC zZ e he
 rcases List.mem_append.1 he with q|q
 ·exact h.range e q
 simp only[List.mem_singleton]at q;subst q;exact xF
theorem vn{n:Nat}{k:Int}(h0:0<=k)(h1:k.toNat<n):∀(l:List Int) (ds:Defs),kB n ds->kB n (dy k ds l).2∧((dy k ds l).1=0->(dy k ds l).2.length=ds.length+l.length)
 | [],ds,h=>⟨h,fun _=>by simp[dy]⟩
 | p::r,ds,h=>by
  have hd:=uJ h p (p:=(k,0)) h0 h1;simp only[dy];split
  ·rename_i bD;exact⟨hd.1,fun q=>absurd q bD⟩
  rename_i he;have ih:=vn h0 h1 r _ hd.1;refine⟨ih.1,fun q=>?_⟩;rw[ih.2 q,hd.2 (by simpa using he)];simp only[List.length_cons];omega
theorem E6{n:Nat}{k:Int}(h0:0<=k)(h1:k.toNat<n):∀(l:List Ins) (j:Int) (ds:Defs),kB n ds->kB n (mP k j ds l).2∧((mP k j ds l).1=0->(mP k j ds l).2.length=ds.length+l.length∧∀i∈l,lu i=0)
 | [],j,ds,h=>⟨h,fun _=>by simp[mP]⟩
 | i::r,j,ds,h=>by
  have hd:=uJ h i.to (p:=(k,j+1)) h0 h1;simp only[mP];split
  ·rename_i bD;exact⟨hd.1,fun q=>absurd q bD⟩
  rename_i he;split
  ·rename_i hf;exact⟨hd.1,fun q=>absurd q hf⟩
  rename_i hf;have ih:=E6 h0 h1 r (j+1) _ hd.1;refine⟨ih.1,fun q=>?_⟩;obtain⟨a,b⟩:=ih.2 q;refine⟨?_,fun x hx=>?_⟩
  ·rw[a,hd.2 (by simpa using he)];simp only[List.length_cons];omega
  rcases List.mem_cons.1 hx with e|e
  ·subst e;simpa using hf
  exact b x e
structure Lv(f:Func)(b:Block):Prop where
 EI:∀i∈b.ins,lu i=0
 fin:pj f b.term=0
 few:b.params.length+b.ins.length<=4096
theorem FL{f:Func}{ds:Defs}{k:Int}(h:kB f.blocks.length ds)(h0:0<=k)(h1:k.toNat<f.blocks.length):kB f.blocks.length (fF f ds k).2∧((fF f ds k).1=0->Lv f (aY f k)):=by
 have hp:=vn h0 h1 (aY f k).params ds h;have hi:=E6 h0 h1 (aY f k).ins 0 _ hp.1;unfold fF;split
 ·rename_i bD;exact⟨hp.1,fun q=>absurd q bD⟩
 rename_i Jo;split
 ·rename_i bD;exact⟨hi.1,fun q=>absurd q bD⟩
 rename_i ZZ;refine⟨hi.1,fun q=>?_⟩;have a:=hp.2 (by simpa using Jo);have b:=hi.2 (by simpa using ZZ);have c:=hi.1.few;exact⟨b.2,q,by rw[b.1,a]at c;omega⟩
theorem mL{f:Func}{t:Term}(h:pj f t=0):eg t=true∧t.cases.length<=256∧(t.kind=4->1<=t.n∧t.n<=6)∧∀e∈t.to,(1<=e.block∧e.block<=(f.blocks.length:Int)-1)∧e.args.length=(aY f e.block).params.length:=by
 unfold pj at h;split at h
 ·simp at h
 rename_i hs;split at h
 ·simp at h
 rename_i hc;split at h
 ·simp at h
 rename_i hk;split at h
 ·rename_i bD;exact absurd h bD
 refine⟨by simpa using hs,by omega,fun k4=>?_,?_⟩
 ·by_cases hw:within t.n 1 6=false
  ·exact absurd ⟨k4,hw⟩ hk
  simpa[within]using hw
 generalize t.to=l at h;induction l with
 | nil=>simp
 | cons e r ih =>
  simp only[nM]at h;split at h
  ·simp at h
  rename_i h1;split at h
  ·simp at h
  rename_i h2;intro x hx;rcases List.mem_cons.1 hx with q|q
  ·subst q;exact⟨by simpa[within]using h1,by simpa using h2⟩
  exact ih h x q
def qn:Int->List Block->Int
 | m,[]=>m
 | m,b::r=>qn (IntKind.i64.wrap (m+b.ins.length)) r
def cV(f:Func):Nat->Int->Defs->Int×Defs
 | 0,_,ds=>(0,ds)
 | n+1,k,ds=>if(fF f ds k).1≠0 then fF f ds k else cV f n (k+1) (fF f ds k).2
def aN(f:Func):Int :=
 if f.blocks.length=0 then 3
 else if 128<f.blocks.length∨1024<qn 0 f.blocks∨6<(aY f 0).params.length then 2
 else if within f.name (-1) 1048575=false then 4
 else if(cV f f.blocks.length 0 []).1≠0 then(cV f f.blocks.length 0 []).1
 else rH f (cV f f.blocks.length 0 []).2
theorem mG{f:Func}:∀(n:Nat) (k:Int) (ds:Defs),kB f.blocks.length ds->0<=k->k.toNat+n<=f.blocks.length->(cV f n k ds).1=0->kB f.blocks.length (cV f n k ds).2∧∀j:Nat,j<n->Lv f (aY f (k+j))
 | 0,k,ds,h,_,_,_=>⟨h,fun j hj=>absurd hj (by omega)⟩
 | n+1,k,ds,h,h0,h1,he=>by
  have hb:=FL (k:=k) h h0 (by omega);simp only[cV]at he ⊢;split at he
  ·rename_i bD;exact absurd he bD
  rename_i bD;rw[if_neg bD];have ih:=mG n (k+1) _ hb.1 (by omega) (by omega) he;refine⟨ih.1,fun j hj=>?_⟩;cases j with
  | zero=>simpa using hb.2 (by simpa using bD)
  | succ j =>
   have:=ih.2 j (by omega)
   rwa [show k+((j+1:Nat):Int)=k+1+(j:Int) by omega]
theorem kB.nil(n:Nat):kB n []:=⟨fun v p h=>(by cases h),by simp,by simp⟩
theorem GQ{f:Func}{b:Block}(h:b∈f.blocks):∃j:Nat,j<f.blocks.length∧b=aY f (j:Int):=by
 obtain⟨j,hj,rfl⟩:=List.getElem_of_mem h;exact⟨j,hj,by simp[aY,hj]⟩
theorem sH{f:Func}(he:(cV f f.blocks.length 0 []).1=0):∀b∈f.blocks,Lv f b:=fun b hb=>by
 obtain⟨j,hj,rfl⟩:=GQ hb;have:=(mG f.blocks.length 0 [] (.nil _) (by omega) (by simp) he).2 j hj;simpa using this
theorem iC(f:Func)(bJ:f.fit):bq Tryz.prog 31 [f.enc] (aI (aN f)):=by
 have hw:=dJ f.name (-1) 1048575;have Gj:f.blocks.length<=2 ^ 47:=bJ.2.1;obtain⟨R,hR⟩:∃R,R=aN f:=⟨_,rfl⟩
 rw[<-hR];unfold aN at hR;refine zf true 0 Tryz.func31 Tryz.ntmps31 ?_;dsimp only[Tmp,TypeId,slotsOf];refine az (ah ?_);refine aC 1 0 (.ip none [aI f.name,aw f.blocks]) rfl (by simp[ai.aD]) trivial rfl ?_ ?_;rotate_left;simp -dsimp only[simprocAttr,↓aa,zp]
 ·refine az (ah ?_);refine ck (ah ?_);refine ag (aM (ι:={x:Nat×Int // x.1<=f.blocks.length∧qn 0 f.blocks=qn x.2 (f.blocks.drop x.1)}) (fun x=>⟨69,[(1,.ip none [aI f.name,aw f.blocks]),(2,aI 0),(3,aI x.1.2),(10,aw f.blocks),(11,aI f.blocks.length),(12,aI x.1.1)],[.gone]⟩) (fun x=>f.blocks.length-x.1.1) ⟨(0,0),by simp,rfl⟩ ?_ ?_)
  ·refine zq rfl ?_ ?_;simp -dsimp only[simprocAttr,↓aa,zp,zc];rfl
  rintro⟨⟨k,m⟩,hk,de⟩;simp only at hk de;refine az (ah ?_);apply ic rfl<;>intro h
  ·refine ct ?_;have a8:k<f.blocks.length:=by simpa using h
   obtain⟨b,hb⟩:∃b,f.blocks[k]?=some b:=⟨f.blocks[k],by simp[a8]⟩
   rw[bA hb]at de;simp only[qn]at de;refine aG (ag ?_);refine aU ?_;simp -dsimp only[simprocAttr,↓aa,zp,hb];refine ah ?_;refine aC 5 1 (.ip none [a7 b.params,bW b.ins,aI b.term.kind,aI b.term.arg,aI b.term.n,a7 b.term.cases,aH b.term.to]) rfl (by simp[ai.aD]) trivial rfl ?_ ?_;rotate_left;simp -dsimp only[simprocAttr,↓aa,zp]
   ·refine mF ⟨false,false⟩ hT 4 rfl rfl rfl (by simp) ?_;simp -dsimp only[simprocAttr,↓aa,zp];refine GR rfl rfl (by simp) rfl rfl ?_;simp -dsimp only[simprocAttr,↓aa,zp];refine ah ?_;refine cb 1 [(1,.ip none [aI f.name,aw f.blocks]),(2,aI 0),(3,aI (IntKind.i64.wrap (m+b.ins.length))),(10,aw f.blocks),(11,aI f.blocks.length),(12,aI k)] (by simp) (by omega) [.gone] ?_ ?_ ?_ ?_ ?_
    ·rfl
    ·simp[ai.upto,av,ae.upto,ax,Block.ak]
    ·simp[iv,St.get,bt,bc,Go.Av.look,Sub.refl]
    ·simp[ai.upto,av,ae.upto,ax,Block.ak]
    refine cC ?_
    repeat(refine⟨by omega,?_⟩)
    refine eX ?_;refine⟨⟨(k+1,IntKind.i64.wrap (m+b.ins.length)),by simp only;omega,de⟩,by simp;omega,?_⟩;refine zq rfl ?_ ?_;simp -dsimp only[simprocAttr,↓aa,zp,zc]
    ·exact Sub.int (by simp)
    rfl
   exact bY.mp rfl rfl
  refine aF ?_;simp -dsimp only[bF,ne_eq,Nat.reduceEqDiff,reduceCtorEq];have ik:k=f.blocks.length:=by simp at h;omega
  subst ik;rw[List.drop_length]at de;simp only[qn]at de;rw[de]at hR;refine aG (ag ?_);refine az (ah ?_);apply aP rfl<;>intro h
  ·have hl:f.blocks.length=0:=by simpa using h
   rw[if_pos hl]at hR;refine az (ah ?_);refine aq ?_;simp -dsimp only[simprocAttr,↓aa,zp,zr,Tryz.results31];rw[hR]
  have hl:¬f.blocks.length=0:=by simpa using h
  rw[if_neg hl]at hR;have hB:f.blocks[0]?=some (aY f 0):=eK (f:=f) (k:=0) (by omega) (by omega);generalize aY f 0=B at *;refine km (⟨69,[(1,.ip none [aI f.name,aw f.blocks]),(2,aI 0),(27,.v (.bool (decide ((128:Int)<f.blocks.length) ||decide ((1024:Int)<m) ||decide ((6:Int)<B.params.length))))],[.gone]⟩) ?_ ?_
  ·cases hA:decide ((128:Int)<f.blocks.length)<;>cases Vv:decide ((1024:Int)<m)<;>cases hC:decide ((6:Int)<B.params.length)
   all_goals
    refine fE hT hm ?_;simp -dsimp only[simprocAttr,↓aa,zp,hA,Vv,hC,hB];refine aV ?_;show bj _ _;refine zq rfl ?_ ?_;simp -dsimp only[simprocAttr,↓aa,zp,zc]
    ·exact Sub.refl _
    rfl
  by_cases AW:128<f.blocks.length∨1024<m∨6<B.params.length
  ·rw[if_pos AW]at hR;have hd:(decide ((128:Int)<f.blocks.length) ||decide ((1024:Int)<m) ||decide ((6:Int)<B.params.length))=true:=by
    simp only[Bool.or_eq_true,decide_eq_true_eq];omega
   rw[hd];refine cY rfl ?_;refine az (ah ?_);refine aq ?_;simp -dsimp only[simprocAttr,↓aa,zp,zr,Tryz.results31];rw[hR]
  rw[if_neg AW]at hR;have hd:(decide ((128:Int)<f.blocks.length) ||decide ((1024:Int)<m) ||decide ((6:Int)<B.params.length))=false:=by
   simp only[Bool.or_eq_false_iff,decide_eq_false_iff_not];omega
  rw[hd];have To:f.blocks.length<=128:=by omega
  have bD:f.blocks≠[]:=fun e=>hl (by rw[e];rfl);cases hn:within f.name (-1) 1048575 with
  | false =>
   rw[if_pos hn]at hR;rw[hn]at hw;refine cm rfl ?_;refine az ?_;refine .inl ⟨_,hw,by simp only[av,ae.upto,zt,zu,ax,fm],ao ?_⟩;simp -dsimp only[simprocAttr,↓aa,zp];refine ah ?_;refine cY rfl ?_;refine az (ah ?_);refine aq ?_;simp -dsimp only[simprocAttr,↓aa,zp,zr,Tryz.results31];rw[hR]
  | true =>
   rw[if_neg (by simp[hn])]at hR;rw[hn]at hw;apply aP rfl<;>intro h
   ·cases h
   refine az ?_;refine .inl ⟨_,hw,by simp only[av,ae.upto,zt,zu,ax,fm],ao ?_⟩;simp -dsimp only[simprocAttr,↓aa,zp];refine ah ?_;apply aP rfl<;>intro h
   ·cases h
   refine lX ?_;refine az (ah ?_);refine ck (ah ?_);have yO:∀(ds:Defs) (k:Nat),k<f.blocks.length->bh Tryz.prog 58 [.gone,.map (.int .i64) (ds.map ff),.cells [aI f.name,aw f.blocks,.mm 1]] [.mp 2 0,aI k] (fun r O'=>r=aI (fF f ds k).1∧O'=[.gone,.map (.int .i64) ((fF f ds k).2.map ff),.cells [aI f.name,aw f.blocks,.mm 1]]):=fun ds k hk=>by
    have hZ:(aY f k).term.cases.length<=2 ^ 60:=by
     have hb:=List.mem_of_getElem? (eK (f:=f) (k:=k) (by omega) (by omega));have:=(bJ.2.2 _ hb).2.2.2.2.2.2.2.2.1;omega
    exact Cw (O:=[.gone,.map (.int .i64) (ds.map ff),.cells [aI f.name,aw f.blocks,.mm 1]]) (c:=2) (d:=1) (by simp[ai.upto,av,ae.upto,Block.ak,fm]) (by omega) rfl rfl k (by omega) (by omega) (by omega) hZ
   refine ag (aM (ι:={x:Nat×Defs // x.1<=f.blocks.length∧cV f f.blocks.length 0 []=cV f (f.blocks.length-x.1) x.1 x.2}) (fun x=>⟨69,[(1,.ip none [aI f.name,aw f.blocks]),(2,aI 0),(6,.mp 2 0),(56,aI f.blocks.length),(57,aI x.1.1)],[.gone,.map (.int .i64) (x.1.2.map ff),.cells [aI f.name,aw f.blocks,.mm 1]]⟩) (fun x=>f.blocks.length-x.1.1) ⟨(0,[]),by simp,rfl⟩ ?_ ?_)
   ·refine zq rfl ?_ ?_;simp -dsimp only[simprocAttr,↓aa,zp,zc];rfl
   rintro⟨⟨k,ds⟩,hk,de⟩;simp only at hk de;refine az (ah ?_);apply ic rfl<;>intro h
   ·refine ct ?_;have a8:k<f.blocks.length:=by simpa using h
    rw[show f.blocks.length-k=f.blocks.length-(k+1)+1 by omega]at de;simp only[cV]at de;have hb:=yO ds k a8;generalize fF f ds k=X at *;refine aG (ag ?_);refine az (ah ?_);refine az ?_;refine .inr (.inl ⟨_,_,hb,.inl (ao (zj ?_))⟩);refine ah ?_;by_cases hX:X.1=0
    ·have I2:decide (X.1=0)=true:=decide_eq_true hX;rw[if_neg (by simp[hX])]at de;refine aU ?_;simp -dsimp only[simprocAttr,↓aa,zp,I2];refine ah ?_;refine cm rfl ?_;refine lX ?_;refine cC ?_
     repeat(refine⟨by omega,?_⟩)
     refine eX ?_;refine⟨⟨(k+1,X.2),by simp only;omega,de⟩,by simp;omega,?_⟩;refine zq rfl ?_ ?_;simp -dsimp only[simprocAttr,↓aa,zp,zc]
     ·exact Sub.int (by simp)
     rfl
    have I2:decide (X.1=0)=false:=decide_eq_false hX;rw[if_pos hX]at de;rw[de,if_pos hX]at hR;refine aU ?_;simp -dsimp only[simprocAttr,↓aa,zp,I2];refine ah ?_;refine cY rfl ?_;refine az (ah ?_);refine aq ?_;simp -dsimp only[simprocAttr,↓aa,zp,zr,Tryz.results31];rw[hR]
   refine aF ?_;simp -dsimp only[bF,ne_eq,Nat.reduceEqDiff,reduceCtorEq];have ik:k=f.blocks.length:=by simp at h;omega
   subst ik;rw[Nat.sub_self]at de;simp only[cV]at de;have P4:(cV f f.blocks.length 0 []).1=0:=by rw[de]
   have cB:=sH P4;have Td:=(mG f.blocks.length 0 [] (.nil _) (by omega) (by simp) P4).1;rw[de]at Td;rw[de,if_neg (by simp)]at hR;have U9:=Hu f ds bD To (fun b hb e he=>by
    have:=(mL (cB b hb).fin).2.2.2 e he;omega) Td.ok
   simp only at hR;rw[<-hR]at U9;refine lG 1 rfl (by simp[ai.aD]) trivial [(2,aI 0),(6,.mp 2 0)] ?_ 2 (by omega) _ [aI f.name,aw f.blocks,.im (.int .i64) (ds.map ff)] rfl rfl ?_ ?_ ?_
   ·intro s y hy;simp only[Go.Av.look]at hy;split at hy
    ·cases hy;rename_i e;subst e;exact⟨_,rfl,.refl _⟩
    split at hy
    ·cases hy;rename_i e;subst e;exact⟨_,rfl,.refl _⟩
    cases hy
   ·simp[ae.scalar]
   ·intro j c d hc hd
    match j,hc,hd with
    | 0,hc,hd =>
     cases hc;cases hd;exact .refl _
    | 1,hc,hd =>
     cases hc;cases hd;exact .refl _
    | 2,hc,hd =>
     cases hc;cases hd;exact .mm rfl
   show cn Tryz.prog _ _ _ ⟨_,_,[.gone,.gone,.cells [aI f.name,aw f.blocks,.im (.int .i64) (ds.map ff)]]⟩;refine aC 6 2 (.ip none [aI f.name,aw f.blocks,.im (.int .i64) (ds.map ff)]) rfl (by simp[ai.aD]) trivial rfl ?_ ?_;rotate_left;simp -dsimp only[simprocAttr,↓aa,zp]
   ·refine az ?_;refine .inl ⟨_,U9,by simp only[av,ae.upto,zt,zu,ax,fm],ao ?_⟩;simp -dsimp only[simprocAttr,↓aa,zp];refine ah ?_;refine aq ?_;simp -dsimp only[simprocAttr,↓aa,zp,zr,Tryz.results31]
   exact bY.mp rfl rfl
 exact bY.mp rfl rfl
def kG(u:cu)(i:Ins):Int :=
 if i.op≠13∧i.op≠9 then 0
 else if(u.fns.length:Int)<=i.n then 4
 else if(i.op=13∧(aY (cS u i.n) 0).params.length≠i.args.length)∨(i.op=9∧(aY (cS u i.n) 0).params.length=0)then 3
 else 0
theorem CA(u:cu)(i:Ins)(hn:i.op=13∨i.op=9->0<=i.n)(bD:∀f∈u.fns,f.blocks≠[]):bq Tryz.prog 32 [u.enc,i.enc] (aI (kG u i)):=by
 obtain⟨R,hR⟩:∃R,R=kG u i:=⟨_,rfl⟩
 rw[<-hR];unfold kG at hR;rcases(show(i.op≠13∧i.op≠9)∨i.op=13∨i.op=9 by omega)with h|h|h
 ·rw[if_pos h]at hR;have h1:decide (i.op=13)=false:=decide_eq_false h.1;have h2:decide (i.op=9)=false:=decide_eq_false h.2;refine zf true 0 Tryz.func32 Tryz.ntmps32 ?_;dsimp only[Tmp,TypeId,slotsOf];refine az (ah ?_);refine cK ?_;simp -dsimp only[simprocAttr,↓aa,zp,h1,h2];refine ah ?_;refine cY rfl ?_;refine az (ah ?_);refine aq ?_;simp -dsimp only[simprocAttr,↓aa,zp,zr,Tryz.results32];rw[hR]
 all_goals
  have hn:=hn (by omega);rw[if_neg (by omega)]at hR;by_cases hl:(u.fns.length:Int)<=i.n
  ·rw[if_pos hl]at hR;have h3:decide ((u.fns.length:Int)<=i.n)=true:=decide_eq_true hl;have Vq:(decide (i.op=13)=true∧decide (i.op=9)=false)∨(decide (i.op=13)=false∧decide (i.op=9)=true):=by
    simp only[decide_eq_true_eq,decide_eq_false_iff_not];omega
   rcases Vq with⟨h1,h2⟩|⟨h1,h2⟩
   all_goals
    refine zf true 0 Tryz.func32 Tryz.ntmps32 ?_;dsimp only[Tmp,TypeId,slotsOf];refine az (ah ?_);refine cK ?_;simp -dsimp only[simprocAttr,↓aa,zp,h1,h2];refine ah ?_;refine cm rfl ?_;refine ct ?_;refine cK ?_;simp -dsimp only[simprocAttr,↓aa,zp,h3];refine ah ?_;refine cY rfl ?_;refine az (ah ?_);refine aq ?_;simp -dsimp only[simprocAttr,↓aa,zp,zr,Tryz.results32];rw[hR]
  rw[if_neg hl]at hR;have h3:decide ((u.fns.length:Int)<=i.n)=false:=decide_eq_false hl;have hF:=lr (u:=u) (k:=i.n) hn (by omega);have V5:=bD _ (List.mem_of_getElem? hF);have gG:0<(cS u i.n).blocks.length:=by
   cases hb:(cS u i.n).blocks with
   | nil=>exact absurd hb V5
   | cons=>simp
  have hB:(cS u i.n).blocks[0]?=some (aY (cS u i.n) 0):=eK (f:=cS u i.n) (k:=0) (by omega) (by omega);generalize aY (cS u i.n) 0=B at *;generalize cS u i.n=F at *;have Vq:(decide (i.op=13)=true∧decide (i.op=9)=false)∨(decide (i.op=13)=false∧decide (i.op=9)=true):=by
   simp only[decide_eq_true_eq,decide_eq_false_iff_not];omega
  rcases Vq with⟨h1,h2⟩|⟨h1,h2⟩
  ·have g1:=of_decide_eq_true h1;have g2:=of_decide_eq_false h2;by_cases WK:B.params.length=i.args.length
   ·rw[if_neg (by omega)]at hR;have hq:decide ((B.params.length:Int)=i.args.length)=true:=decide_eq_true (by omega);refine zf true 0 Tryz.func32 Tryz.ntmps32 ?_;dsimp only[Tmp,TypeId,slotsOf];refine az (ah ?_);refine cK ?_;simp -dsimp only[simprocAttr,↓aa,zp,h1,h2];refine ah ?_;refine cm rfl ?_;refine ct ?_;refine cK ?_;simp -dsimp only[simprocAttr,↓aa,zp,h3];refine ah ?_;refine cm rfl ?_;refine ct ?_;refine aU ?_;simp -dsimp only[simprocAttr,↓aa,zp,hF,hB]
    repeat(refine⟨by omega,?_⟩)
    refine ah ?_;refine cK ?_;simp -dsimp only[simprocAttr,↓aa,zp,h1,h2,hq];refine ah ?_;refine cm rfl ?_;refine ct ?_;refine az (ah ?_);refine aq ?_;simp -dsimp only[simprocAttr,↓aa,zp,zr,Tryz.results32];rw[hR]
   rw[if_pos (.inl ⟨g1,WK⟩)]at hR;have hq:decide ((B.params.length:Int)=i.args.length)=false:=decide_eq_false (by omega);refine zf true 0 Tryz.func32 Tryz.ntmps32 ?_;dsimp only[Tmp,TypeId,slotsOf];refine az (ah ?_);refine cK ?_;simp -dsimp only[simprocAttr,↓aa,zp,h1,h2];refine ah ?_;refine cm rfl ?_;refine ct ?_;refine cK ?_;simp -dsimp only[simprocAttr,↓aa,zp,h3];refine ah ?_;refine cm rfl ?_;refine ct ?_;refine aU ?_;simp -dsimp only[simprocAttr,↓aa,zp,hF,hB]
   repeat(refine⟨by omega,?_⟩)
   refine ah ?_;refine cK ?_;simp -dsimp only[simprocAttr,↓aa,zp,h1,h2,hq];refine ah ?_;refine cY rfl ?_;refine az (ah ?_);refine aq ?_;simp -dsimp only[simprocAttr,↓aa,zp,zr,Tryz.results32];rw[hR]
  have g1:=of_decide_eq_false h1;have g2:=of_decide_eq_true h2;by_cases WK:B.params.length=0
  ·rw[if_pos (.inr ⟨g2,WK⟩)]at hR;have hq:decide ((B.params.length:Int)=0)=true:=decide_eq_true (by omega);refine zf true 0 Tryz.func32 Tryz.ntmps32 ?_;dsimp only[Tmp,TypeId,slotsOf];refine az (ah ?_);refine cK ?_;simp -dsimp only[simprocAttr,↓aa,zp,h1,h2];refine ah ?_;refine cm rfl ?_;refine ct ?_;refine cK ?_;simp -dsimp only[simprocAttr,↓aa,zp,h3];refine ah ?_;refine cm rfl ?_;refine ct ?_;refine aU ?_;simp -dsimp only[simprocAttr,↓aa,zp,hF,hB]
   repeat(refine⟨by omega,?_⟩)
   refine ah ?_;refine cK ?_;simp -dsimp only[simprocAttr,↓aa,zp,h1,h2,hq];refine ah ?_;refine cY rfl ?_;refine az (ah ?_);refine aq ?_;simp -dsimp only[simprocAttr,↓aa,zp,zr,Tryz.results32];rw[hR]
  rw[if_neg (by omega)]at hR;have hq:decide ((B.params.length:Int)=0)=false:=decide_eq_false (by omega);refine zf true 0 Tryz.func32 Tryz.ntmps32 ?_;dsimp only[Tmp,TypeId,slotsOf];refine az (ah ?_);refine cK ?_;simp -dsimp only[simprocAttr,↓aa,zp,h1,h2];refine ah ?_;refine cm rfl ?_;refine ct ?_;refine cK ?_;simp -dsimp only[simprocAttr,↓aa,zp,h3];refine ah ?_;refine cm rfl ?_;refine ct ?_;refine aU ?_;simp -dsimp only[simprocAttr,↓aa,zp,hF,hB]
  repeat(refine⟨by omega,?_⟩)
  refine ah ?_;refine cK ?_;simp -dsimp only[simprocAttr,↓aa,zp,h1,h2,hq];refine ah ?_;refine cm rfl ?_;refine ct ?_;refine az (ah ?_);refine aq ?_;simp -dsimp only[simprocAttr,↓aa,zp,zr,Tryz.results32];rw[hR]
theorem FE:∀(l:List Block) (m:Int),0<=m->m+2 ^ 48*(l.length:Int)<=2 ^ 60->(∀b∈l,b.ins.length<=2 ^ 47)->m<=qn m l∧∀b∈l,(b.ins.length:Int)<=qn m l
 | [],m,_,_,_=>⟨by simp[qn],by simp⟩
 | b::r,m,h0,h1,h2=>by
  have hb:=h2 b (by simp);simp only[List.length_cons]at h1;have hw:IntKind.i64.wrap (m+b.ins.length)=m+b.ins.length:=nc _ _ (by simp[IntKind.min,IntKind.bits,IntKind.signed];omega) (by simp[IntKind.max,IntKind.bits,IntKind.signed];omega);have ih:=FE r (m+b.ins.length) (by omega) (by omega) (fun x hx=>h2 x (by simp[hx]));simp only[qn,hw];refine⟨by omega,fun x hx=>?_⟩;rcases List.mem_cons.1 hx with q|q
  ·subst q;omega
  exact ih.2 x q
structure Oq(f:Func):Prop where
 ne:f.blocks≠[]
 few:f.blocks.length<=128
 name:-1<=f.name∧f.name<=1048575
 args:(aY f 0).params.length<=6
 ins:∀b∈f.blocks,b.ins.length<=1024
 blk:∀b∈f.blocks,Lv f b
 K2:rH f (cV f f.blocks.length 0 []).2=0
theorem cA{f:Func}(bJ:f.fit)(h:aN f=0):Oq f:=by
 unfold aN at h;split at h
 ·simp at h
 rename_i h1;split at h
 ·simp at h
 rename_i h2;split at h
 ·simp at h
 rename_i h3;split at h
 ·rename_i h4;exact absurd h h4
 rename_i h4;have hw:=FE f.blocks 0 (by omega) (by omega) (fun b hb=>(bJ.2.2 b hb).2.2.1);refine⟨fun e=>h1 (by rw[e];rfl),by omega,by simpa[within]using h3,by omega,fun b hb=>?_,sH (by simpa using h4),h⟩;have:=hw.2 b hb;omega
structure Sl(i:Ins):Prop where
 op:0<=i.op∧i.op<=24
 len:i.args.length<=16
 c0:i.op=0->fA i.n∧i.args.length=0
 c2:(1<=i.op∧i.op<=7)∨i.op=16∨i.op=18∨i.op=19∨i.op=21∨i.op=23->i.args.length=2
 c1:i.op=10∨i.op=11∨i.op=12∨i.op=15∨i.op=17∨i.op=24->i.args.length=1
 c3:i.op=20->i.args.length=3
 UK:i.op=8->0<=i.n∧i.n<=255
 call:i.op=9∨i.op=13->0<=i.n∧i.n<=255
 app:i.op=14->1<=i.args.length
 Vd:i.op=11∨i.op=24->0<=i.n
 pack:i.op=22->(i.n=2∨i.n=4)∧(i.args.length:Int)=i.n
 vec:i.op=23->i.n=1∨i.n=2∨i.n=3
theorem yK{i:Ins}(h:lu i=0):Sl i:=by
 unfold lu at h;split at h
 ·simp at h
 rename_i hA;split at h
 ·simp at h
 rename_i Vw;split at h
 ·rename_i hN;have Y0:(bm i).2=true∧(0<=(bm i).1->(i.args.length:Int)=(bm i).1)∧(i.op=14->¬(i.args.length:Int)=0):=by
   simp only[AR,Bool.or_eq_true,Bool.not_eq_true',Bool.and_eq_true,decide_eq_true_eq,decide_eq_false_iff_not,not_or,not_and,Bool.not_eq_false,Decidable.not_not]at hA;exact⟨hA.1.1,hA.1.2,hA.2⟩
  obtain⟨a1,a2,a3⟩:=Y0;have hB:(i.op=8∨i.op=9->i.args.length<=16)∧(i.op=13∨i.op=14->i.args.length<=6):=by
   simp only[uQ,AS,Bool.or_eq_true,Bool.and_eq_true,decide_eq_true_eq,not_or,not_and]at Vw;exact⟨fun q=>by have:=Vw.1 q;omega,fun q=>by have:=Vw.2 q;omega⟩
  obtain⟨b1,b2⟩:=hB;have jN:0<=i.op∧i.op<=24:=by
   unfold bm at a1;split at a1
   ·omega
   split at a1
   ·omega
   split at a1
   ·omega
   split at a1
   ·omega
   split at a1
   ·omega
   split at a1
   ·omega
   simp at a1
  have o0:i.op=0->bm i=(0,true):=fun q=>by unfold bm;rw[if_pos q]
  have o2:(1<=i.op∧i.op<=7)∨i.op=16∨i.op=18∨i.op=19∨i.op=21∨i.op=23->bm i=(2,true):=fun q=>by unfold bm;rw[if_neg (by omega),if_pos q]
  have o3:i.op=20->bm i=(3,true):=fun q=>by unfold bm;rw[if_neg (by omega),if_neg (by omega),if_pos q]
  have o1:i.op=10∨i.op=11∨i.op=12∨i.op=15∨i.op=17∨i.op=24->bm i=(1,true):=fun q=>by unfold bm;rw[if_neg (by omega),if_neg (by omega),if_neg (by omega),if_pos q]
  have o22:i.op=22->bm i=(i.n,decide (i.n=2∨i.n=4)):=fun q=>by unfold bm;rw[if_neg (by omega),if_neg (by omega),if_neg (by omega),if_neg (by omega),if_neg (by omega),if_pos q]
  have l0:i.op=0->i.args.length=0:=fun q=>by rw[o0 q]at a2;have:=a2 (by decide);simp only at this;omega
  have l2:=fun q=>by have:=a2;rw[o2 q]at this;exact this (by decide)
  have l3:=fun q=>by have:=a2;rw[o3 q]at this;exact this (by decide)
  have l1:=fun q=>by have:=a2;rw[o1 q]at this;exact this (by decide)
  have YH:i.op=22->(i.n=2∨i.n=4)∧(i.args.length:Int)=i.n:=fun q=>by
   rw[o22 q]at a1 a2;have:i.n=2∨i.n=4:=of_decide_eq_true a1;exact⟨this,a2 (by simp only;omega)⟩
  have n0:i.op=0->fA i.n:=fun q=>by unfold cq at hN;rw[if_pos q]at hN;exact of_decide_eq_true hN
  have n8:i.op=8->0<=i.n∧i.n<=255:=fun q=>by unfold cq at hN;rw[if_neg (by omega),if_pos q]at hN;exact within_iff.1 hN
  have n11:i.op=11->0<=i.n∧i.n<=15:=fun q=>by unfold cq at hN;rw[if_neg (by omega),if_neg (by omega),if_pos q]at hN;exact within_iff.1 hN
  have n9:i.op=9∨i.op=13->0<=i.n∧i.n<=255:=fun q=>by unfold cq at hN;rw[if_neg (by omega),if_neg (by omega),if_neg (by omega),if_pos q]at hN;exact within_iff.1 hN
  have n23:i.op=23->i.n=1∨i.n=2∨i.n=3:=fun q=>by unfold cq at hN;rw[if_neg (by omega),if_neg (by omega),if_neg (by omega),if_neg (by omega),if_pos q]at hN;exact of_decide_eq_true hN
  have n24:i.op=24->0<=i.n∧i.n<=3:=fun q=>by unfold cq at hN;rw[if_neg (by omega),if_neg (by omega),if_neg (by omega),if_neg (by omega),if_neg (by omega),if_pos q]at hN;exact within_iff.1 hN
  have L2:(1<=i.op∧i.op<=7)∨i.op=16∨i.op=18∨i.op=19∨i.op=21∨i.op=23->i.args.length=2:=fun q=>by have:=l2 q;omega
  have L1:i.op=10∨i.op=11∨i.op=12∨i.op=15∨i.op=17∨i.op=24->i.args.length=1:=fun q=>by have:=l1 q;omega
  have L3:i.op=20->i.args.length=3:=fun q=>by have:=l3 q;omega
  refine⟨jN,?_,fun q=>⟨n0 q,l0 q⟩,L2,L1,L3,n8,n9,fun q=>by have:=a3 q;omega,fun q=>?_,YH,n23⟩
  ·rcases(show i.op=0∨((1<=i.op∧i.op<=7)∨i.op=16∨i.op=18∨i.op=19∨i.op=21∨i.op=23)∨i.op=20∨(i.op=10∨i.op=11∨i.op=12∨i.op=15∨i.op=17∨i.op=24)∨(i.op=8∨i.op=9)∨(i.op=13∨i.op=14)∨i.op=22 by omega)with q|q|q|q|q|q|q
   ·have:=l0 q;omega
   ·have:=L2 q;omega
   ·have:=L3 q;omega
   ·have:=L1 q;omega
   ·have:=b1 q;omega
   ·have:=b2 q;omega
   have:=YH q;omega
  rcases q with q|q
  ·exact(n11 q).1
  exact(n24 q).1
 simp at h
structure Sk(f:Func)(t:Term):Prop where
 kind:0<=t.kind∧t.kind<=4
 to:t.kind=0∨t.kind=4->t.to=[]
 jump:t.kind=1->t.to.length=1
 cond:t.kind=2->t.to.length=2
 switch:t.kind=3->t.to.length=t.cases.length+1
 cases:t.cases.length<=256
 Oh:t.kind=4->1<=t.n∧t.n<=6
 n:t.kind≠4->t.n=0
 ee:∀e∈t.to,(1<=e.block∧e.block<=(f.blocks.length:Int)-1)∧e.args.length=(aY f e.block).params.length
theorem pT{f:Func}{t:Term}(h:pj f t=0):Sk f t:=by
 obtain⟨h1,h2,h3,h4⟩:=mL h;simp only[eg,Bool.and_eq_true,Bool.or_eq_true,decide_eq_true_eq]at h1;obtain⟨hk,⟨⟨he,_⟩,hn⟩,hc⟩:=h1;refine⟨hk,fun q=>?_,fun q=>?_,fun q=>?_,fun q=>?_,h2,h3,fun q=>hn.resolve_left q,h4⟩
 ·have:eZ t=0:=by rcases q with q|q<;>simp[eZ,q]
  rw[this]at he;exact List.length_eq_zero_iff.1 (by omega)
 ·have:eZ t=1:=by simp[eZ,q]
  omega
 ·have:eZ t=2:=by simp[eZ,q]
  omega
 have:eZ t=t.cases.length+1:=by simp[eZ,q]
 omega
def Bt(a b:Int):Int:=if a≠0 then a else b
theorem jR{a b:Int}(h:a=0):Bt a b=b:=by simp[Bt,h]
theorem qc{a b:Int}(h:¬a=0):Bt a b=a:=by simp[Bt,h]
theorem xP(a b c:Int):Bt (Bt a b) c=Bt a (Bt b c):=by
 by_cases h:a=0
 ·rw[jR h,jR h]
 rw[qc h,qc h,qc h]
theorem vh{a b:Int}(h:Bt a b=0):a=0∧b=0:=by
 by_cases q:a=0
 ·exact⟨q,by rwa [jR q]at h⟩
 rw[qc q]at h;exact absurd h q
def pV:List Func->Int
 | []=>0
 | f::r=>Bt (aN f) (pV r)
def uu(u:cu):List Ins->Int
 | []=>0
 | i::r=>Bt (kG u i) (uu u r)
def rR(u:cu):List Block->Int
 | []=>0
 | b::r=>Bt (uu u b.ins) (rR u r)
def pM(u:cu):List Func->Int
 | []=>0
 | f::r=>Bt (rR u f.blocks) (pM u r)
def gF(u:cu):Int :=
 if u.fns.length=0 then 3
 else if 256<u.fns.length then 2
 else if within u.main 0 ((u.fns.length:Int)-1)=false then 4
 else Bt (pV u.fns) (if 0<(aY (cS u u.main) 0).params.length then 3 else pM u u.fns)
theorem pW:∀{l:List Func},pV l=0->∀f∈l,aN f=0
 | [],_,f,h=>by simp at h
 | g::r,h,f,hf=>by
  have:=vh h;rcases List.mem_cons.1 hf with q|q
  ·subst q;exact this.1
  exact pW this.2 f q
theorem CJ(u:cu)(bJ:u.fit):bq Tryz.prog 9 [u.enc] (aI (gF u)):=by
 obtain⟨R,hR⟩:∃R,R=gF u:=⟨_,rfl⟩
 rw[<-hR];unfold gF at hR;have hw:=dJ u.main 0 ((u.fns.length:Int)-1);have Gj:u.fns.length<=2 ^ 47:=bJ.2.1;refine zf true 0 Tryz.func9 Tryz.ntmps9 ?_;dsimp only[Tmp,TypeId,slotsOf];refine az (ah ?_);refine aC 1 0 (.ip none [b8 u.fns,aI u.main]) rfl (by simp[ai.aD]) trivial rfl ?_ ?_;rotate_left;simp -dsimp only[simprocAttr,↓aa,zp]
 ·refine aG (ag ?_);by_cases h0:u.fns.length=0
  ·rw[if_pos h0]at hR;have hd:decide ((u.fns.length:Int)=0)=true:=decide_eq_true (by omega);refine aU ?_;simp -dsimp only[simprocAttr,↓aa,zp,hd];refine ah ?_;refine cY rfl ?_;refine az (ah ?_);refine aq ?_;simp -dsimp only[simprocAttr,↓aa,zp,zr,Tryz.results9];rw[hR]
  rw[if_neg h0]at hR;have hd:decide ((u.fns.length:Int)=0)=false:=decide_eq_false (by omega);refine aU ?_;simp -dsimp only[simprocAttr,↓aa,zp,hd];refine ah ?_;apply aP rfl<;>intro h
  ·cases h
  by_cases h1:256<u.fns.length
  ·rw[if_pos h1]at hR;have hd:decide ((256:Int)<u.fns.length)=true:=decide_eq_true (by omega);refine aU ?_;simp -dsimp only[simprocAttr,↓aa,zp,hd];refine ah ?_;refine cY rfl ?_;refine az (ah ?_);refine aq ?_;simp -dsimp only[simprocAttr,↓aa,zp,zr,Tryz.results9];rw[hR]
  rw[if_neg h1]at hR;have hd:decide ((256:Int)<u.fns.length)=false:=decide_eq_false (by omega);refine aU ?_;simp -dsimp only[simprocAttr,↓aa,zp,hd];refine ah ?_;apply aP rfl<;>intro h
  ·cases h
  cases HE:within u.main 0 ((u.fns.length:Int)-1)with
  | false =>
   rw[if_pos HE]at hR;rw[HE]at hw;refine az ?_
   repeat(refine⟨by omega,?_⟩)
   refine zi hw ?_;refine ah ?_;refine cY rfl ?_;refine az (ah ?_);refine aq ?_;simp -dsimp only[simprocAttr,↓aa,zp,zr,Tryz.results9];rw[hR]
  | true =>
   have ER:=within_iff.1 HE;rw[if_neg (by simp[HE])]at hR;rw[HE]at hw;refine az ?_
   repeat(refine⟨by omega,?_⟩)
   refine zi hw ?_;refine ah ?_;apply aP rfl<;>intro h
   ·cases h
   refine lX ?_;refine ck (ah ?_);refine ag (aM (ι:={k:Nat // k<=u.fns.length∧pV u.fns=pV (u.fns.drop k)}) (fun k=>⟨87,[(1,.ip none [b8 u.fns,aI u.main]),(2,aI 0),(33,b8 u.fns),(34,aI u.fns.length),(35,aI k.1)],[.gone]⟩) (fun k=>u.fns.length-k.1) ⟨0,by omega,rfl⟩ ?_ ?_)
   ·refine zq rfl ?_ ?_;simp -dsimp only[simprocAttr,↓aa,zp,zc];rfl
   rintro⟨k,hk,de⟩;refine az (ah ?_);apply ic rfl<;>intro h
   ·refine ct ?_;have a8:k<u.fns.length:=by simpa using h
    obtain⟨f,hf⟩:∃f,u.fns[k]?=some f:=⟨u.fns[k],by simp[a8]⟩
    have XY:=iC f (bJ.2.2 f (List.mem_of_getElem? hf));rw[bA hf]at de;simp only[pV]at de;obtain⟨e,RT⟩:∃e,e=aN f:=⟨_,rfl⟩
    rw[<-RT]at de XY;refine aG (ag ?_);refine aU ?_;simp -dsimp only[simprocAttr,↓aa,zp,hf];refine ah ?_;refine aC 4 1 (.ip none [aI f.name,aw f.blocks]) rfl (by simp[ai.aD]) trivial rfl ?_ ?_;rotate_left;simp -dsimp only[simprocAttr,↓aa,zp]
    ·refine cb 1 [(1,.ip none [b8 u.fns,aI u.main]),(2,aI 0),(33,b8 u.fns),(34,aI u.fns.length),(35,aI k),(4,.ip none [aI f.name,aw f.blocks])] (by simp) (by omega) [.gone] ?_ ?_ ?_ ?_ ?_
     ·rfl
     ·simp[ai.upto,av,ae.upto,ax,Func.ak,Block.ak,Edge.ak,Ins.ak]
     ·simp[iv,St.get,bt,bc,Go.Av.look,Sub.refl]
     ·simp[ai.upto,av,ae.upto,ax,Func.ak,Block.ak,Edge.ak,Ins.ak]
     refine az ?_;refine zi XY ?_;refine ah ?_;by_cases he:e=0
     ·have oW:decide (e=0)=true:=decide_eq_true he;rw[jR he]at de;refine aU ?_;simp -dsimp only[simprocAttr,↓aa,zp,oW];refine ah ?_;refine cm rfl ?_;refine lX ?_;refine cC ?_
      repeat(refine⟨by omega,?_⟩)
      refine eX ?_;refine⟨⟨k+1,a8,de⟩,by simp;omega,?_⟩;refine zq rfl ?_ ?_;simp -dsimp only[simprocAttr,↓aa,zp,zc]
      ·exact Sub.int (by simp)
      rfl
     have oW:decide (e=0)=false:=decide_eq_false he;rw[qc he]at de;rw[de,qc he]at hR;refine aU ?_;simp -dsimp only[simprocAttr,↓aa,zp,oW];refine ah ?_;refine cY rfl ?_;refine az (ah ?_);refine aq ?_;simp -dsimp only[simprocAttr,↓aa,zp,zr,Tryz.results9];rw[hR]
    exact bY.mp rfl rfl
   refine aF ?_;simp -dsimp only[bF,ne_eq,Nat.reduceEqDiff,reduceCtorEq];have ik:k=u.fns.length:=by simp at h;omega
   subst ik;rw[List.drop_length]at de;have X4:pV u.fns=0:=by rw[de];rfl
   rw[jR X4]at hR;have cB:∀f∈u.fns,Oq f:=fun f hf=>cA (bJ.2.2 f hf) (pW X4 f hf);have hM:=lr (u:=u) (k:=u.main) ER.1 (by omega);have Zn:0<(cS u u.main).blocks.length:=by
    have:=(cB _ (List.mem_of_getElem? hM)).ne;cases hb:(cS u u.main).blocks with
    | nil=>exact absurd hb this
    | cons=>simp
   have hB:(cS u u.main).blocks[0]?=some (aY (cS u u.main) 0):=eK (f:=cS u u.main) (k:=0) (by omega) (by omega);generalize aY (cS u u.main) 0=B at *;generalize cS u u.main=F at *;by_cases hp:0<B.params.length
   ·rw[if_pos hp]at hR;have xA:decide ((0:Int)<B.params.length)=true:=decide_eq_true (by omega);refine cK ?_;simp -dsimp only[simprocAttr,↓aa,zp,hM,hB,xA]
    repeat(refine⟨by omega,?_⟩)
    refine ah ?_;refine cY rfl ?_;refine az (ah ?_);refine aq ?_;simp -dsimp only[simprocAttr,↓aa,zp,zr,Tryz.results9];rw[hR]
   rw[if_neg hp]at hR;have xA:decide ((0:Int)<B.params.length)=false:=decide_eq_false (by omega);refine cK ?_;simp -dsimp only[simprocAttr,↓aa,zp,hM,hB,xA]
   repeat(refine⟨by omega,?_⟩)
   refine ah ?_;apply aP rfl<;>intro h
   ·cases h
   refine ct ?_;refine ck (ah ?_);refine ag (aM (ι:={k:Nat // k<=u.fns.length∧R=pM u (u.fns.drop k)}) (fun k=>⟨87,[(1,.ip none [b8 u.fns,aI u.main]),(2,aI 0),(58,b8 u.fns),(59,aI u.fns.length),(60,aI k.1)],[.gone]⟩) (fun k=>u.fns.length-k.1) ⟨0,by omega,hR⟩ ?_ ?_)
   ·refine zq rfl ?_ ?_;simp -dsimp only[simprocAttr,↓aa,zp,zc];rfl
   rintro⟨k,hk,de⟩;refine az (ah ?_);apply ic rfl<;>intro h
   ·refine ct ?_;have a8:k<u.fns.length:=by simpa using h
    obtain⟨f,hf⟩:∃f,u.fns[k]?=some f:=⟨u.fns[k],by simp[a8]⟩
    have RW:=List.mem_of_getElem? hf;have q8:=(cB f RW).few;rw[bA hf]at de;simp only[pM]at de;refine aG (ag ?_);refine aU ?_;simp -dsimp only[simprocAttr,↓aa,zp,hf];refine ah ?_;refine aC 7 1 (.ip none [aI f.name,aw f.blocks]) rfl (by simp[ai.aD]) trivial rfl ?_ ?_;rotate_left;simp -dsimp only[simprocAttr,↓aa,zp]
    ·refine cb 1 [(1,.ip none [b8 u.fns,aI u.main]),(2,aI 0),(58,b8 u.fns),(59,aI u.fns.length),(60,aI k),(7,.ip none [aI f.name,aw f.blocks])] (by simp) (by omega) [.gone] ?_ ?_ ?_ ?_ ?_
     ·rfl
     ·simp[ai.upto,av,ae.upto,ax,Func.ak,Block.ak,Edge.ak,Ins.ak]
     ·simp[iv,St.get,bt,bc,Go.Av.look,Sub.refl]
     ·simp[ai.upto,av,ae.upto,ax,Func.ak,Block.ak,Edge.ak,Ins.ak]
     refine az (ah ?_);refine ag (aM (ι:={j:Nat // j<=f.blocks.length∧R=Bt (rR u (f.blocks.drop j)) (pM u (u.fns.drop (k+1)))}) (fun j=>⟨87,[(1,.ip none [b8 u.fns,aI u.main]),(2,aI 0),(58,b8 u.fns),(59,aI u.fns.length),(60,aI k),(65,aw f.blocks),(66,aI f.blocks.length),(67,aI j.1)],[.gone]⟩) (fun j=>f.blocks.length-j.1) ⟨0,by omega,de⟩ ?_ ?_)
     ·refine zq rfl ?_ ?_;simp -dsimp only[simprocAttr,↓aa,zp,zc];rfl
     rintro⟨j,hj,jw⟩;refine az (ah ?_);apply ic rfl<;>intro h
     ·refine ct ?_;have Jd:j<f.blocks.length:=by simpa using h
      obtain⟨b,hb⟩:∃b,f.blocks[j]?=some b:=⟨f.blocks[j],by simp[Jd]⟩
      have AX:=List.mem_of_getElem? hb;have Gl:=(cB f RW).ins b AX;rw[bA hb]at jw;simp only[rR]at jw;rw[xP]at jw;refine aG (ag ?_);refine aU ?_;simp -dsimp only[simprocAttr,↓aa,zp,hb];refine ah ?_;refine aC 9 1 (.ip none [a7 b.params,bW b.ins,aI b.term.kind,aI b.term.arg,aI b.term.n,a7 b.term.cases,aH b.term.to]) rfl (by simp[ai.aD]) trivial rfl ?_ ?_;rotate_left;simp -dsimp only[simprocAttr,↓aa,zp]
      ·refine cb 1 [(1,.ip none [b8 u.fns,aI u.main]),(2,aI 0),(58,b8 u.fns),(59,aI u.fns.length),(60,aI k),(65,aw f.blocks),(66,aI f.blocks.length),(67,aI j),(9,.ip none [a7 b.params,bW b.ins,aI b.term.kind,aI b.term.arg,aI b.term.n,a7 b.term.cases,aH b.term.to])] (by simp) (by omega) [.gone] ?_ ?_ ?_ ?_ ?_
       ·rfl
       ·simp[ai.upto,av,ae.upto,ax,Func.ak,Block.ak,Edge.ak,Ins.ak]
       ·simp[iv,St.get,bt,bc,Go.Av.look,Sub.refl]
       ·simp[ai.upto,av,ae.upto,ax,Func.ak,Block.ak,Edge.ak,Ins.ak]
       refine az (ah ?_);refine ag (aM (ι:={z:Nat // z<=b.ins.length∧R=Bt (uu u (b.ins.drop z)) (Bt (rR u (f.blocks.drop (j+1))) (pM u (u.fns.drop (k+1))))}) (fun z=>⟨87,[(1,.ip none [b8 u.fns,aI u.main]),(2,aI 0),(58,b8 u.fns),(59,aI u.fns.length),(60,aI k),(65,aw f.blocks),(66,aI f.blocks.length),(67,aI j),(72,bW b.ins),(73,aI b.ins.length),(74,aI z.1)],[.gone]⟩) (fun z=>b.ins.length-z.1) ⟨0,by omega,jw⟩ ?_ ?_)
       ·refine zq rfl ?_ ?_;simp -dsimp only[simprocAttr,↓aa,zp,zc];rfl
       rintro⟨z,hz,qx⟩;refine az (ah ?_);apply ic rfl<;>intro h
       ·refine ct ?_;have mf:z<b.ins.length:=by simpa using h
        obtain⟨i,hi⟩:∃i,b.ins[z]?=some i:=⟨b.ins[z],by simp[mf]⟩
        rw[bA hi]at qx;simp only[uu]at qx;rw[xP]at qx;have I9:=yK (((cB f RW).blk b AX).EI i (List.mem_of_getElem? hi));have fw:=CA u i (fun q=>(I9.call (by omega)).1) (fun f hf=>(cB f hf).ne);obtain⟨e,RT⟩:∃e,e=kG u i:=⟨_,rfl⟩
        rw[<-RT]at qx fw;refine aG (ag ?_);refine aU ?_;simp -dsimp only[simprocAttr,↓aa,zp,hi];refine ah ?_;refine aC 11 1 (.ip none [aI i.to,aI i.op,aI i.n,a7 i.args]) rfl (by simp[ai.aD]) trivial rfl ?_ ?_;rotate_left;simp -dsimp only[simprocAttr,↓aa,zp]
        ·refine cb 1 [(1,.ip none [b8 u.fns,aI u.main]),(2,aI 0),(58,b8 u.fns),(59,aI u.fns.length),(60,aI k),(65,aw f.blocks),(66,aI f.blocks.length),(67,aI j),(72,bW b.ins),(73,aI b.ins.length),(74,aI z),(11,.ip none [aI i.to,aI i.op,aI i.n,a7 i.args])] (by simp) (by omega) [.gone] ?_ ?_ ?_ ?_ ?_
         ·rfl
         ·simp[ai.upto,av,ae.upto,ax,Func.ak,Block.ak,Edge.ak,Ins.ak]
         ·simp[iv,St.get,bt,bc,Go.Av.look,Sub.refl]
         ·simp[ai.upto,av,ae.upto,ax,Func.ak,Block.ak,Edge.ak,Ins.ak]
         refine az ?_;refine zi fw ?_;refine ah ?_;by_cases he:e=0
         ·have oW:decide (e=0)=true:=decide_eq_true he;rw[jR he]at qx;refine aU ?_;simp -dsimp only[simprocAttr,↓aa,zp,oW];refine ah ?_;refine cm rfl ?_;refine lX ?_;refine cC ?_
          repeat(refine⟨by omega,?_⟩)
          refine eX ?_;refine⟨⟨z+1,mf,qx⟩,by simp;omega,?_⟩;refine zq rfl ?_ ?_;simp -dsimp only[simprocAttr,↓aa,zp,zc]
          ·exact Sub.int (by simp)
          rfl
         have oW:decide (e=0)=false:=decide_eq_false he;rw[qc he]at qx;refine aU ?_;simp -dsimp only[simprocAttr,↓aa,zp,oW];refine ah ?_;refine cY rfl ?_;refine az (ah ?_);refine aq ?_;simp -dsimp only[simprocAttr,↓aa,zp,zr,Tryz.results9];rw[qx]
        exact bY.mp rfl rfl
       refine aF ?_;simp -dsimp only[bF,ne_eq,Nat.reduceEqDiff,reduceCtorEq];have Jw:z=b.ins.length:=by simp at h;omega
       subst Jw;rw[List.drop_length]at qx;rw[jR (by rfl)]at qx;refine cC ?_
       repeat(refine⟨by omega,?_⟩)
       refine eX ?_;refine⟨⟨j+1,Jd,qx⟩,by simp;omega,?_⟩;refine zq rfl ?_ ?_;simp -dsimp only[simprocAttr,↓aa,zp,zc]
       ·exact Sub.int (by simp)
       rfl
      exact bY.mp rfl rfl
     refine aF ?_;simp -dsimp only[bF,ne_eq,Nat.reduceEqDiff,reduceCtorEq];have tA:j=f.blocks.length:=by simp at h;omega
     subst tA;rw[List.drop_length]at jw;rw[jR (by rfl)]at jw;refine cC ?_
     repeat(refine⟨by omega,?_⟩)
     refine eX ?_;refine⟨⟨k+1,a8,jw⟩,by simp;omega,?_⟩;refine zq rfl ?_ ?_;simp -dsimp only[simprocAttr,↓aa,zp,zc]
     ·exact Sub.int (by simp)
     rfl
    exact bY.mp rfl rfl
   refine aF ?_;simp -dsimp only[bF,ne_eq,Nat.reduceEqDiff,reduceCtorEq];have ik:k=u.fns.length:=by simp at h;omega
   subst ik;rw[List.drop_length]at de;refine az (ah ?_);refine aq ?_;simp -dsimp only[simprocAttr,↓aa,zp,zr,Tryz.results9];rw[de];rfl
 exact bY.mp rfl rfl
theorem fX.mono{u:cu}{m m':Mach}(h:∀a∈m.heap,∃b∈m'.heap,b.lD=a.lD){v:SV}(k:fX u m v):fX u m' v :=
 SV.Wf.mono (fun id ⟨a,ha,e⟩=>by
  obtain⟨b,hb,e'⟩:=h a ha;exact⟨b,hb,e'.trans e⟩) k
theorem fX.of_heap{u:cu}{m m':Mach}(h:m'.heap=m.heap){v:SV}(k:fX u m v):fX u m' v :=
 k.mono fun a ha=>⟨a,by rw[h];exact ha,rfl⟩
theorem fX.word{u:cu}{m:Mach}{n:Int}(h:fA n):fX u m (.word n):=SV.Wf.word h
theorem fX.zero{u:cu}{m:Mach}:fX u m .zero:=SV.Wf.zero
theorem js{u:cu}{m:Mach}{l:List SV}(h:∀v∈l,fX u m v)(k:Nat):fX u m (cw l k):=by
 unfold cw;cases hk:l[k]? with
 | none=>exact fX.zero
 | some v=>exact h v (List.mem_of_getElem? hk)
theorem yM{u:cu}{m:Mach}{es:List (Int×SV)}(h:∀e∈es,fX u m e.2)(k:Int):fX u m (iI es k):=by
 unfold iI;cases hl:iL es k with
 | none=>exact fX.zero
 | some v =>
  obtain⟨e,h1,rfl⟩:=xM hl;exact h e h1
theorem rG{u:cu}{m:Mach}{es:List (Int×SV)}(h:∀e∈es,fX u m e.2)(l:List Int):∀v∈fY es l,fX u m v:=fun v hv=>by
 obtain⟨k,_,rfl⟩:=List.mem_map.1 hv;exact yM h k
theorem su(es:List (Int×SV))(l:List Int):(fY es l).length=l.length:=by simp[fY]
theorem zl{u:cu}{m:Mach}{es:List (Int×SV)}(h:∀e∈es,fX u m e.2){k:Int}{v:SV}(hv:fX u m v):∀e∈eT es k v,fX u m e.2:=fun e he=>by
 rcases jk he with q|q
 ·exact h e q
 rw[q];exact hv
theorem Al{u:cu}{m:Mach}{es:List (Int×SV)}(h:∀e∈es,fX u m e.2){ps:List Int}{l:List SV}(hl:∀v∈l,fX u m v):∀e∈gh es ps l,fX u m e.2:=fun e he=>by
 rcases ky he with q|q
 ·exact h e q
 exact hl _ q
theorem qD(op a b:Int)(hb:fA b):(∃n,fA n∧(db op a b).1=.word n)∧0<=(db op a b).2∧(db op a b).2<=6:=by
 have w1:=j0 (a+b);have w2:=j0 (a-b);have w3:=j0 (a*b);have w4:=j0 (a.tdiv b);have w0:fA 0:=by unfold fA;omega
 have w01:fA 1:=by unfold fA;omega
 unfold db
 repeat' split
 all_goals first
  | exact⟨⟨_,w1,rfl⟩,by simp⟩
  | exact⟨⟨_,w2,rfl⟩,by simp⟩
  | exact⟨⟨_,w3,rfl⟩,by simp⟩
  | exact⟨⟨_,w4,rfl⟩,by simp⟩
  | exact⟨⟨_,w0,rfl⟩,by simp⟩
  | exact⟨⟨_,w01,rfl⟩,by simp⟩
  | exact⟨⟨_,vI hb (by assumption),rfl⟩,by simp⟩
theorem vg{u:cu}{m:Mach}{i:Ins}{args:List SV}(h:∀v∈args,fX u m v):fX u m (cO i args).1∧0<=(cO i args).2∧(cO i args).2<=6:=by
 have h0:=js h 0;have hk:∀k,fX u m (cw (cw args 0).list k):=js (SV.Wf.kids h0);have hl:=SV.Wf.len h0;unfold cO
 repeat' split
 all_goals first
  | exact⟨fX.zero,by simp⟩
  | exact⟨hk _,by simp⟩
  | exact⟨fX.word (SV.Wf.num h0 (by omega)),by simp⟩
  | exact⟨fX.word (by unfold fA;omega),by simp⟩
theorem FF{u:cu}{m:Mach}{op:Int}:∀(l r:List SV),(∀v∈r,fA v.n)->∀v∈ku op l r,fX u m v∧v.kind=0
 | [],_,_,v,h=>by simp[ku]at h
 | _::_,[],_,v,h=>by simp[ku]at h
 | a::l,b::r,hr,v,h=>by
  simp only[ku,List.mem_cons]at h;rcases h with rfl|h
  ·obtain⟨⟨n,h1,h2⟩,_⟩:=qD op a.n b.n (hr b (by simp));rw[h2];exact⟨fX.word h1,rfl⟩
  exact FF l r (fun v hv=>hr v (by simp[hv])) v h
theorem sx{u:cu}{m:Mach}{v:SV}(h:fX u m v)(hk:v.kind=4):v.list.length<=1000∧∀x∈v.list,fA x.n :=
 ⟨SV.Wf.len h,fun x hx=>SV.Wf.num (SV.Wf.kids h x hx) (.inl (SV.Wf.vec h hk x hx))⟩
theorem vP{u:cu}{m:Mach}{i:Ins}{args:List SV}(h:∀v∈args,fX u m v)(hl:i.op=22->args.length<=1000)(h2:i.op≠22->i.op≠24->∃x y,args=[x,y]) :
  fX u m (dc i args).1∧0<=(dc i args).2∧(dc i args).2<=6:=by
 have h0:=js h 0;have hk:∀k,fX u m (cw (cw args 0).list k):=js (SV.Wf.kids h0);by_cases Lf:i.op=22
 ·unfold dc;rw[if_pos Lf];split
  ·rename_i ha;refine⟨.mk (by omega) (by omega) (by omega) (by omega) (fun _ v hv=>?_) (hl Lf) (by simp) h,by simp⟩;simp only[kC,List.all_eq_true,decide_eq_true_eq]at ha;exact ha v hv
  exact⟨fX.zero,by simp⟩
 by_cases Oz:i.op=24
 ·unfold dc;rw[if_neg Lf,if_pos Oz];split
  ·exact⟨fX.zero,by simp⟩
  exact⟨hk _,by simp⟩
 obtain⟨x,y,e⟩:=h2 Lf Oz;subst e;unfold dc;rw[if_neg Lf,if_neg Oz];split
 ·exact⟨fX.zero,by simp⟩
 rename_i hn;have cB:kC [x,y] 4=true:=by
  cases hh:kC [x,y] 4
  ·exact absurd (.inl (by simp[hh])) hn
  rfl
 have ik:x.kind=4∧y.kind=4:=by simpa[kC]using cB
 have hx:=sx (h x (by simp)) ik.1;have hy:=sx (h y (by simp)) ik.2;have hz:=fun v hv=>FF (u:=u) (m:=m) (op:=i.n) x.list y.list hy.2 v hv;refine⟨.mk (by omega) (by omega) (by omega) (by omega) (fun _ v hv=>(hz v hv).2) ?_ (by simp) (fun v hv=>(hz v hv).1),by simp⟩;show(ku i.n x.list y.list).length<=1000;rw[vR];omega
structure dO(u:cu)(m:Mach)(r:Mach×SV×Int):Prop where
 frames:r.1.frames=m.frames
 lQ:∀a∈m.heap,∃b∈r.1.heap,b.lD=a.lD
 val:fX u r.1 r.2.1
 Oh:0<=r.2.2∧r.2.2<=6
 gL:∀a∈r.1.heap,a.l.length<=1024∧∀v∈a.l,fX u r.1 v
 left:0<=r.1.left∧r.1.left<=m.left
 out:r.1.out.length<=1000
 words:∀n∈r.1.out,fA n
 fin:r.1.fin=m.fin∧r.1.val=m.val
 over:r.1.over=false->m.over=false∧r.1.short=false
theorem dO.same{u:cu}{m:Mach}(hm:cd u m){v:SV}{t:Int}(hv:fX u m v)(ht:0<=t∧t<=6):dO u m (m,v,t) where
 frames:=rfl
 lQ:=fun a ha=>⟨a,ha,rfl⟩
 val:=hv
 Oh:=ht
 gL:=hm.gL
 left:=⟨hm.left,Int.le_refl _⟩
 out:=hm.out
 words:=hm.words
 fin:=⟨rfl,rfl⟩
 over:=fun h=>⟨h,(hm.over h).2⟩
theorem s7:∀(l:List Cc) (id:Option Nat) (x:List SV),(∀a∈l,∃b∈Mach.ke l id x,b.lD=a.lD)∧(∀b∈Mach.ke l id x,∃a∈l,a.lD=b.lD∧a.dF=b.dF∧(b=a∨b.l=x))
 | [],_,_=>⟨by simp,by simp[Mach.ke]⟩
 | a::r,id,x=>by
  obtain⟨h1,h2⟩:=s7 r id x;unfold Mach.ke;split
  ·exact⟨fun c hc=>by
    rcases List.mem_cons.1 hc with rfl|hc
    ·exact⟨⟨c.lD,c.dF,x⟩,List.mem_cons_self,rfl⟩
    ·exact⟨c,by simp[hc],rfl⟩,fun b hb=>by
    rcases List.mem_cons.1 hb with rfl|hb
    ·exact⟨a,by simp,rfl,rfl,.inr rfl⟩
    exact⟨b,by simp[hb],rfl,rfl,.inl rfl⟩⟩
  exact⟨fun c hc=>by
   rcases List.mem_cons.1 hc with rfl|hc
   ·exact⟨_,by simp,rfl⟩
   ·obtain⟨b,hb,e⟩:=h1 c hc;exact⟨b,by simp[hb],e⟩,fun b hb=>by
   rcases List.mem_cons.1 hb with rfl|hb
   ·exact⟨b,by simp,rfl,rfl,.inl rfl⟩
   obtain⟨c,hc,e⟩:=h2 b hb;exact⟨c,by simp[hc],e⟩⟩
theorem oJ:∀(l:List Cc) (id:Nat),(∃a∈l,a.lD=id)->∃a∈l,a.lD=id∧Mach.jG l (some id)=a.l
 | [],_,h=>by simp at h
 | a::r,id,h=>by
  unfold Mach.jG;by_cases e:id=a.lD
  ·exact⟨a,by simp,e.symm,by simp[e]⟩
  obtain⟨b,hb,hv⟩:=h;rcases List.mem_cons.1 hb with rfl|hb
  ·exact absurd hv.symm e
  obtain⟨c,hc,h1,h2⟩:=oJ r id ⟨b,hb,hv⟩;exact⟨c,by simp[hc],h1,by simp[e,h2]⟩
theorem HU{u:cu}{m:Mach}(hm:cd u m){v:SV}(hv:fX u m v)(hk:v.kind=3):∃a∈m.heap,v.arr=some a.lD∧Mach.jG m.heap v.arr=a.l:=by
 obtain⟨id,e⟩:=SV.Wf.array hv hk;obtain⟨a,ha,h1,h2⟩:=oJ m.heap id (SV.Wf.ref hv id e);exact⟨a,ha,by rw[h1];exact e,by rw[e];exact h2⟩
theorem gl(m:Mach)(n:Int):(m.fI n).frames=m.frames∧(m.fI n).heap=m.heap∧(m.fI n).out=m.out∧(m.fI n).fin=m.fin∧(m.fI n).val=m.val∧(m.fI n).sid=m.sid∧(m.fI n).next=m.next:=by
 unfold Mach.fI;split<;>simp
theorem JY{m:Mach}{n:Int}(h:0<=m.left)(hn:0<=n):0<=(m.fI n).left∧(m.fI n).left<=m.left:=by
 unfold Mach.fI;split<;>simp<;>omega
theorem Af{u:cu}{m:Mach}(hm:cd u m){x y:SV}(hy:fX u m y):dO u m (m.bL x y):=by
 obtain⟨p1,p2,p3,p4,p5,p6,p7⟩:=gl m x.n;unfold Mach.bL;split
 ·exact dO.same hm fX.zero (by omega)
 split
 ·exact dO.same hm fX.zero (by omega)
 rename_i hx hr;have z8:0<=x.n∧x.n<=1024:=by omega
 obtain⟨q1,q2⟩:=JY hm.left z8.1;split
 ·rename_i hs;exact⟨p1,fun a ha=>⟨a,by rw[p2];exact ha,rfl⟩,fX.zero,by simp,fun a ha=>by
   have EM:a∈m.heap:=p2 ▸ ha;exact⟨(hm.gL a EM).1,fun v hv=>((hm.gL a EM).2 v hv).of_heap p2⟩,⟨q1,q2⟩,by rw[p3];exact hm.out,by rw[p3];exact hm.words,⟨p4,p5⟩,fun h=>by
   exfalso;unfold Mach.fI at hs h;split at hs
   ·rename_i a8;rw[if_pos a8]at h;cases h
   rename_i a8;rw[if_neg a8]at h;have:=(hm.over h).2;simp only at hs;rw[this]at hs;cases hs⟩
 rename_i hs;refine⟨p1,fun a ha=>⟨a,by simp[ha],rfl⟩,?_,by simp,fun a ha=>?_,⟨q1,q2⟩,by simp only[p3];exact hm.out,by simp only[p3];exact hm.words,⟨p4,p5⟩,fun h=>⟨?_,by simpa using hs⟩⟩
 ·exact .mk (by omega) (by omega) (by omega) (fun _=>⟨_,rfl⟩) (by omega) (by simp) (fun id e=>by
   simp only[Option.some.injEq]at e;exact⟨_,List.mem_append_right _ (List.mem_singleton.2 rfl),e⟩) (by simp)
 ·have hk:∀v,fX u m v->fX u ({ m.fI x.n with heap:=m.heap++[⟨m.next+8,m.next+7,List.replicate x.n.toNat y⟩],next:=m.next+9 }:Mach) v:=fun v hv=>hv.mono fun b hb=>⟨b,by simp[hb],rfl⟩
  simp only[List.mem_append,List.mem_singleton]at ha;rcases ha with ha|rfl
  ·exact⟨(hm.gL a ha).1,fun v hv=>hk v ((hm.gL a ha).2 v hv)⟩
  refine⟨by simp;omega,fun v hv=>?_⟩;rw[(List.mem_replicate.1 hv).2];exact hk y hy
 simp only at h;unfold Mach.fI at h;split at h
 ·cases h
 exact h
theorem xn{u:cu}{m:Mach}(hm:cd u m){i:Ins}{args:List SV}(h:∀v∈args,fX u m v):dO u m (m.effect i args):=by
 have w0:fA 0:=by unfold fA;omega
 have h0:=js h 0;have h1:=js h 1;have h2:=js h 2;unfold Mach.effect;split
 ·split
  ·exact dO.same hm fX.zero (by omega)
  split
  ·exact dO.same hm fX.zero (by omega)
  rename_i hk hl;refine⟨rfl,fun a ha=>⟨a,ha,rfl⟩,fX.word w0,by simp,fun a ha=>⟨(hm.gL a ha).1,fun v hv=>((hm.gL a ha).2 v hv).of_heap rfl⟩,⟨hm.left,Int.le_refl _⟩,?_,fun n hn=>?_,⟨rfl,rfl⟩,fun h=>⟨h,(hm.over h).2⟩⟩
  ·have:=hm.out;simp;omega
  simp only[List.mem_append,List.mem_singleton]at hn;rcases hn with hn|rfl
  ·exact hm.words n hn
  exact SV.Wf.num h0 (.inl (by omega))
 split
 ·exact Af hm h1
 split
 ·split
  ·exact dO.same hm fX.zero (by omega)
  split
  ·exact dO.same hm fX.zero (by omega)
  exact dO.same hm (fX.word w0) (by omega)
 split
 ·exact dO.same hm fX.zero (by omega)
 rename_i hk;obtain⟨a,ha,e1,e2⟩:=HU hm h0 (by omega);rw[e2];have lN:=(hm.gL a ha).1;split
 ·exact dO.same hm (fX.word (by unfold fA;omega)) (by omega)
 split
 ·exact dO.same hm fX.zero (by omega)
 split
 ·exact dO.same hm (js (hm.gL a ha).2 _) (by omega)
 obtain⟨s1,s2⟩:=s7 m.heap (cw args 0).arr (a.l.set (cw args 1).n.toNat (cw args 2));have U1:∀v,fX u m v->fX u ({ m with heap:=Mach.ke m.heap (cw args 0).arr (a.l.set (cw args 1).n.toNat (cw args 2)) }:Mach) v:=fun v hv=>hv.mono s1;refine⟨rfl,s1,fX.word w0,by simp,fun b hb=>?_,⟨hm.left,Int.le_refl _⟩,hm.out,hm.words,⟨rfl,rfl⟩,fun h=>⟨h,(hm.over h).2⟩⟩;obtain⟨c,hc,_,_,e⟩:=s2 b hb;rcases e with e|e
 ·rw[e];exact⟨(hm.gL c hc).1,fun v hv=>U1 v ((hm.gL c hc).2 v hv)⟩
 rw[e];refine⟨by simpa using lN,fun v hv=>U1 v ?_⟩;rcases List.mem_or_eq_of_mem_set hv with q|q
 ·exact(hm.gL a ha).2 v q
 rw[q];exact h2
theorem yH{u:cu}{m:Mach}(hm:cd u m){i:Ins}(hi:HK u i){args:List SV}(hl:args.length=i.args.length)(h:∀v∈args,fX u m v):dO u m (m.exec i args):=by
 have h0:=js h 0;unfold Mach.exec;split
 ·exact dO.same hm (fX.word (hi.c0 (by assumption))) (by omega)
 split
 ·split
  ·exact dO.same hm fX.zero (by omega)
  rename_i ho hk;have cB:kC args 0=true:=by simpa using hk
  have yR:=hi.c2 (.inl ho);have XD:cw args 1∈args:=by
   unfold cw;rw[List.getElem?_eq_getElem (by omega)];exact List.getElem_mem _
  simp only[kC,List.all_eq_true,decide_eq_true_eq]at cB;obtain⟨⟨n,q1,q2⟩,q3⟩:=qD i.op (cw args 0).n (cw args 1).n (SV.Wf.num (h _ XD) (.inl (cB _ XD)));have:db i.op (cw args 0).n (cw args 1).n=(.word n,(db i.op (cw args 0).n (cw args 1).n).2):=by rw[<-q2]
  rw[this];exact dO.same hm (fX.word q1) q3
 split
 ·rename_i ho;exact dO.same hm (.mk (by omega) (fun _=>(hi.UK ho).1) (by omega) (by omega) (by omega) (by have:=(hi.UK ho).2;omega) (by simp) h) (by omega)
 split
 ·rename_i ho;obtain⟨c1,c2,c3⟩:=hi.Vl ho;exact dO.same hm (.mk (by omega) (by omega) (fun _=>⟨c1,c2⟩) (by omega) (by omega) (by omega) (by simp) h) (by omega)
 split
 ·obtain⟨q1,q2⟩:=vg (i:=i) h;exact dO.same hm q1 q2
 split
 ·rename_i ho;obtain⟨q1,q2⟩:=vP (i:=i) h (fun e=>by have:=hi.pack e;omega) (fun e1 e2=>by
   have:=hi.c2 (by omega)
   match args,hl with
   | [x,y],_=>exact⟨x,y,rfl⟩
   | [],hl=>simp at hl;omega
   | [x],hl=>simp at hl;omega
   | x::y::z::r,hl=>simp at hl;omega)
  exact dO.same hm q1 q2
 split
 ·exact dO.same hm h0 (by omega)
 exact xn hm h
theorem nG.mono{u:cu}{m m':Mach}(h:∀a∈m.heap,∃b∈m'.heap,b.lD=a.lD){f:Fr}(k:nG u m f):nG u m' f :=
 ⟨k.fn,k.blk,k.pos,fun e he=>(k.vals e he).mono h⟩
theorem nG.of_heap{u:cu}{m m':Mach}(h:m'.heap=m.heap){f:Fr}(k:nG u m f):nG u m' f:=k.mono fun a ha=>⟨a,by rw[h];exact ha,rfl⟩
theorem ma{u:cu}{k:Int}(h0:0<=k)(h1:k<u.fns.length):cS u k∈u.fns:=List.mem_of_getElem? (lr h0 h1)
theorem dY{f:Func}{k:Int}(h0:0<=k)(h1:k<f.blocks.length):aY f k∈f.blocks:=List.mem_of_getElem? (eK h0 h1)
theorem Sz{u:cu}(hu:mC u){k:Int}(h0:0<=k)(h1:k<u.fns.length):(0:Int)<=0∧(0:Int)<(cS u k).blocks.length:=by
 have:=List.length_pos_iff.2 (hu.ne _ (ma h0 h1)).1;omega
theorem cd.stop{u:cu}{m:Mach}(hm:cd u m){e n:Int}(he:0<=e∧e<=6)(hn:fA n)(hz:e≠0->n=0):cd u (m.stop e n) where
 frames:=fun f hf=>(hm.frames f hf).of_heap (by rfl)
 gL:=fun a ha=>⟨(hm.gL a ha).1,fun v hv=>((hm.gL a ha).2 v hv).of_heap (by rfl)⟩
 left:=hm.left
 depth:=hm.depth
 out:=hm.out
 words:=hm.words
 fin:=he
 val:=hn
 done:=hz
 over:=fun h=>by cases h
theorem cd.bQ{u:cu}{m:Mach}(hm:cd u m){f:Fr}(bD:m.frames≠[])(hf:nG u m f):cd u (m.bQ f) where
 frames:=fun g hg=>by
  rcases List.mem_cons.1 hg with rfl|hg
  ·exact hf.of_heap (by rfl)
  exact(hm.frames g (List.mem_of_mem_tail hg)).of_heap (by rfl)
 gL:=fun a ha=>⟨(hm.gL a ha).1,fun v hv=>((hm.gL a ha).2 v hv).of_heap (by rfl)⟩
 left:=hm.left
 depth:=by
  have h1:=hm.depth;have h2:=List.length_pos_iff.2 bD;have h3:(m.bQ f).frames.length=m.frames.length:=by
   simp only[Mach.bQ,List.length_cons,List.length_tail];omega
  rw[h3];exact h1
 out:=hm.out
 words:=hm.words
 fin:=hm.fin
 val:=hm.val
 done:=hm.done
 over:=fun h=>⟨by simp[Mach.bQ],(hm.over h).2⟩
theorem cd.enter{u:cu}{m:Mach}(hu:mC u)(hm:cd u m)(hs:m.over=false->m.short=false)(hd:m.frames.length+m.left+1<=2 ^ 40){fn:Int}(rf:0<=fn∧fn<u.fns.length){args:List SV}(ha:∀v∈args,fX u m v)(to:Int) :
  cd u (m.enter u fn args to) where
 frames:=fun g hg=>by
  rcases List.mem_cons.1 hg with rfl|hg
  ·exact⟨rf,Sz hu rf.1 rf.2,Nat.zero_le _,Al (by simp) (fun v hv=>(ha v hv).of_heap (by rfl))⟩
  exact(hm.frames g hg).of_heap (by rfl)
 gL:=fun a ha=>⟨(hm.gL a ha).1,fun v hv=>((hm.gL a ha).2 v hv).of_heap (by rfl)⟩
 left:=hm.left
 depth:=by
  simp only[Mach.enter,List.length_cons];omega
 out:=hm.out
 words:=hm.words
 fin:=hm.fin
 val:=hm.val
 done:=hm.done
 over:=fun h=>⟨by simp[Mach.enter],hs h⟩
theorem cd.follow{u:cu}{m:Mach}(hm:cd u m)(bD:m.frames≠[]){f:Fr}(hf:nG u m f){e:Edge}(he:yh (cS u f.fn) e):cd u (m.follow u f e) :=
 hm.bQ bD ⟨hf.fn,⟨he.lo,he.hi⟩,Nat.zero_le _,Al hf.vals (rG hf.vals _)⟩
theorem cd.leave{u:cu}{m:Mach}(hm:cd u m)(bD:m.frames≠[]){f:Fr}{v:SV}(hv:fX u m v)(ho:m.over=false):cd u (m.leave f v):=by
 have hz:fA 0:=by unfold fA;omega
 unfold Mach.leave;cases ht:m.frames.tail with
 | nil =>
  simp only;have h0:cd u ({ m with frames:=[],over:=true }:Mach) :=
   ⟨by simp,fun a ha=>⟨(hm.gL a ha).1,fun v hv=>((hm.gL a ha).2 v hv).of_heap (by rfl)⟩,hm.left,by have:=hm.depth;simp;omega,hm.out,hm.words,hm.fin,hm.val,hm.done,fun h=>by cases h⟩
  refine h0.stop (e:=0) (by omega) ?_ (by simp);split
  ·exact SV.Wf.num hv (by assumption)
  exact hz
 | cons g r =>
  simp only;have hg:g∈m.frames:=List.mem_of_mem_tail (by rw[ht];simp);have hr:∀x∈r,x∈m.frames:=fun x hx=>List.mem_of_mem_tail (by rw[ht];simp[hx]);have hl:r.length+1<=m.frames.length:=by
   have h1:m.frames.tail.length=r.length+1:=by rw[ht];rfl
   simp at h1;omega
  have UX:=hm.frames g hg;exact⟨fun x hx=>by
   rcases List.mem_cons.1 hx with rfl|hx
   ·exact⟨UX.fn,UX.blk,UX.pos,fun e he=>(zl UX.vals hv e he).of_heap (by rfl)⟩
   exact(hm.frames x (hr x hx)).of_heap (by rfl),fun a ha=>⟨(hm.gL a ha).1,fun v hv=>((hm.gL a ha).2 v hv).of_heap (by rfl)⟩,hm.left,by have:=hm.depth;simp only[List.length_cons];omega,hm.out,hm.words,hm.fin,hm.val,hm.done,fun h=>⟨by simp,(hm.over h).2⟩⟩
theorem xi{f:Func}{t:Term}(ht:yi f t)(h0:t.kind≠0)(h1:t.kind≠1)(h4:t.kind≠4)(n:Int):∃e,t.to[iD t n]?=some e:=by
 have hk:=ht.kind;have a8:iD t n<t.to.length:=by
  unfold iD;by_cases h2:t.kind=2
  ·rw[if_pos h2,ht.cond h2];split<;>omega
  rw[if_neg h2,ht.switch (by omega)];have:=List.findIdx_le_length (xs:=t.cases) (p:=(· == n));omega
 exact⟨_,List.getElem?_eq_getElem a8⟩
theorem cd.finish{u:cu}{m:Mach}(hm:cd u m)(ho:m.over=false){f:Fr}(hf:nG u m f){t:Term}(ht:yi (cS u f.fn) t):cd u (m.finish u f t):=by
 have hz:fA 0:=by unfold fA;omega
 have bD:=(hm.over ho).1;unfold Mach.finish;split
 ·exact hm.stop ht.n hz (fun _=>rfl)
 rename_i h4;split
 ·rename_i h1;have hl:=ht.jump h1;have he:t.to[0]?=some (t.to[0]'(by omega)):=List.getElem?_eq_getElem _;rw[he];exact hm.follow bD hf (ht.ee _ (List.getElem_mem _))
 rename_i h1;split
 ·exact hm.leave bD (yM hf.vals _) ho
 rename_i h0;split
 ·exact hm.stop (by omega) hz (fun _=>rfl)
 obtain⟨e,he⟩:=xi ht h0 h1 h4 (iI f.vals t.arg).n;rw[he];exact hm.follow bD hf (ht.ee _ (List.mem_of_getElem? he))
theorem cd.settle{u:cu}{m:Mach}(hm:cd u m)(bD:m.frames≠[]){f:Fr}(hf:nG u m f){r:Mach×SV×Int}(hr:dO u m r)(to:Int):cd u (Mach.settle f to r):=by
 have hz:fA 0:=by unfold fA;omega
 have h1:cd u r.1:=⟨fun g hg=>(hm.frames g (hr.frames ▸ hg)).mono hr.lQ,hr.gL,hr.left.1,by
  have:=hm.depth;have:=hr.left.2;rw[hr.frames];omega,hr.out,hr.words,by rw[hr.fin.1];exact hm.fin,by rw[hr.fin.2];exact hm.val,by rw[hr.fin.1,hr.fin.2];exact hm.done,fun h=>⟨by rw[hr.frames];exact bD,(hr.over h).2⟩⟩
 have dK:nG u r.1 f:=hf.mono hr.lQ;have TQ:r.1.frames≠[]:=by rw[hr.frames];exact bD
 unfold Mach.settle;split
 ·refine(h1.stop hr.Oh hz (fun _=>rfl)).bQ TQ ?_;have Mx:nG u (r.1.stop r.2.2 0) f:=dK.of_heap (by rfl);exact⟨Mx.fn,Mx.blk,Mx.pos,zl Mx.vals (hr.val.of_heap (by rfl))⟩
 exact h1.bQ TQ ⟨dK.fn,dK.blk,dK.pos,zl dK.vals hr.val⟩
theorem cd.step{u:cu}{m:Mach}(hu:mC u)(hm:cd u m)(ho:m.over=false)(hd:m.frames.length+m.left+1<=2 ^ 40):cd u (m.step u):=by
 have hz:fA 0:=by unfold fA;omega
 obtain⟨bD,k9⟩:=hm.over ho;unfold Mach.step;cases dK:m.frames with
 | nil=>exact absurd dK bD
 | cons f r =>
  have hf:=hm.frames f (by rw[dK];simp);have hF:=ma hf.fn.1 hf.fn.2;have hB:=dY hf.blk.1 hf.blk.2;have hb:=hu.blocks _ hF _ hB;simp only;cases hi:(aY (cS u f.fn) f.blk).ins[f.pos]? with
  | none=>exact hm.finish ho hf hb.term
  | some i =>
   simp only;have Dh:=hb.ins i (List.mem_of_getElem? hi);have a8:=I hi;have nD:nG u m { f with pos:=f.pos+1 }:=⟨hf.fn,hf.blk,a8,hf.vals⟩
   have h1:=hm.bQ bD nD;have I4:nG u (m.bQ { f with pos:=f.pos+1 }) { f with pos:=f.pos+1 }:=nD.of_heap (by rfl);have OS:(m.bQ { f with pos:=f.pos+1 }).frames.length=m.frames.length:=by
    simp[Mach.bQ,dK]
   have ha:=rG I4.vals i.args;have lN:=su f.vals i.args;unfold Mach.act;split
   ·rename_i Lg;obtain⟨c1,c2,c3⟩:=Dh.call Lg;exact h1.enter hu (fun _=>k9) (by rw[OS];exact hd) ⟨c1,c2⟩ ha _
   split
   ·split
    ·rename_i hk;exact h1.enter hu (fun _=>k9) (by rw[OS];exact hd) (SV.Wf.fn (js ha 0) hk.1) ha _
    exact h1.stop (by omega) hz (fun _=>rfl)
   exact h1.settle (by simp[Mach.bQ]) I4 (yH h1 Dh lN ha) _
theorem Hp(u:cu)(m:Mach)(hm:cd u m)(hu:mC u)(ho:m.over=false):(m.step u).left<=m.left:=by
 obtain⟨bD,k9⟩:=hm.over ho;have Qj:∀(m:Mach) f v,(m.leave f v).left=m.left:=fun m f v=>by
  unfold Mach.leave;split<;>rfl
 unfold Mach.step;cases dK:m.frames with
 | nil=>exact absurd dK bD
 | cons f r =>
  have hf:=hm.frames f (by rw[dK];simp);have hb:=hu.blocks _ (ma hf.fn.1 hf.fn.2) _ (dY hf.blk.1 hf.blk.2);simp only;cases hi:(aY (cS u f.fn) f.blk).ins[f.pos]? with
  | none =>
   simp only;unfold Mach.finish
   repeat' split
   all_goals first
    | exact Int.le_refl _
    | exact Int.le_of_eq (Qj _ _ _)
  | some i =>
   simp only;have Dh:=hb.ins i (List.mem_of_getElem? hi);have a8:=I hi;have nD:nG u m { f with pos:=f.pos+1 }:=⟨hf.fn,hf.blk,a8,hf.vals⟩
   have h1:=hm.bQ bD nD;unfold Mach.act;split
   ·exact Int.le_refl _
   split
   ·split<;>exact Int.le_refl _
   have hx:=yH h1 Dh (su f.vals i.args) (rG (fun e he=>(hf.vals e he).of_heap (by rfl)) i.args);have hl:=hx.left.2;unfold Mach.settle;split<;>exact hl
def mq(cs:List ae)(n:Nat)(id:Nat):List ae:=cs.take n++[.mp id 0]
theorem l7(a b c:Nat):(ae.os a b c).cells=[.os a b c]:=rfl
theorem sI(a b:Nat):al [.mp a b]=[.mp a b]:=rfl
theorem C1{u:cu}{m:Mach}{O:List ai}(br:∀o∈O,o.upto O.length)(h0:O[2]?=some (.cells (aA u m))){cs:List ae}(dG:O[m.sid]?=some (.cells cs))(fw:m.frames.length<=cs.length)(bD:m.sid≠2)(hN:O.length=m.next)
  (hd:m.frames.length<=2 ^ 41) (fn:Int) (rf:0<=fn∧fn<u.fns.length) (hb:(cS u fn).blocks≠[]) (args:List SV) (hl:∀v∈args,SV.bk O.length v) (hp:(aY (cS u fn) 0).params.length=args.length) (to:Int) :
  bh Tryz.prog 81 O [.mp 2 0,aI fn,.aB 4 (args.map SV.enc) .sh,aI to] (fun r O'=>r=.cx []∧O'=((O.set m.sid .gone).set 2 (.cells (aA u (m.enter u fn args to)))) ++
   [.map (.int .i64) ((gh [] (aY (cS u fn) 0).params args).map gv),.cells [aI fn,aI 0,aI 0,aI to,.mm O.length],.cells (mq cs m.frames.length (O.length+1))]):=by
 have hF:=lr rf.1 rf.2;have hB:=eK (f:=cS u fn) (k:=0) (by omega) (by
  have:=List.length_pos_iff.2 hb;omega)
 generalize Vv:aY (cS u fn) 0=B at *;generalize Za:cS u fn=F at *;have hB:F.blocks[0]?=some B:=hB;have EL:∀X,(O++X)[2]?=some (.cells (aA u m)):=fun X=>bS h0;unfold aA at EL;have eo:=I h0;have WY:∀X,(O++X)[m.sid]?=some (.cells cs):=fun X=>bS dG;have RX:(O.set m.sid .gone)[2]?=some (.cells (aA u m)):=aW h0 bD;have e1:∀X,(O++X).set m.sid .gone=O.set m.sid .gone++X:=fun X=>kT dG;have e2:∀X,(O.set m.sid .gone++X)[2]?=some (.cells (aA u m)):=fun X=>bS RX;have e3:∀X y,(O.set m.sid .gone++X).set 2 y=(O.set m.sid .gone).set 2 y++X:=fun X y=>kT RX;unfold aA at e2;have OS:m.frames.length*1<=cs.length:=by omega
 have dU:((m.frames.length:Nat):Int)+1=((m.frames.length+1:Nat):Int):=by omega
 have MH:[b8 u.fns,aI u.main,.os (O.length+2) (m.frames.length+1) 1,aI m.left,.v (.bool m.short),.v (.bool m.over),.aB 1 (m.out.map aI) (.tok 3),aI m.fin,aI m.val]=aA u (m.enter u fn args to):=by
  simp[aA,Mach.enter,hN]
 have fg:=bo (n:=O.length+3) (ds:=aA u (m.enter u fn args to)) (bg (k:=m.sid) (x:=.gone) (fun o ho=>ai.bK (by omega) (br o ho)) trivial) RX (fun h=>by
  simp only[aA,av,ae.upto,ax,Func.ak,true_and,and_true,Mach.enter]at h ⊢;omega)
 obtain⟨O2,tM⟩:∃O2,O2=(O.set m.sid .gone).set 2 (.cells (aA u (m.enter u fn args to))):=⟨_,rfl⟩
 have hlen:O.length=O2.length:=by rw[tM];simp
 simp only[<-tM]at fg ⊢;rw[hlen]at fg;refine zf true (O.length+3) Tryz.func81 Tryz.ntmps81 ?_;dsimp only[Tmp,TypeId,slotsOf];refine az (ah ?_);refine cK ?_;simp -dsimp only[simprocAttr,↓aa,zp,EL,hF,hB]
 repeat(refine⟨by omega,?_⟩)
 refine ah ?_;refine fh 2 rfl (fun lN=>?_);simp only[List.length_map]at lN;refine ag (aM (ι:={j:Nat // j<=B.params.length}) (fun j=>⟨54,[(0,.mp 2 0),(2,.aB 4 (args.map SV.enc) .sh),(8,.mp (O.length+1) 0),(27,a7 B.params),(28,aI B.params.length),(29,aI j.1)],O++[.map (.int .i64) ((gh [] (B.params.take j.1) (args.take j.1)).map gv),.cells [aI fn,aI 0,aI 0,aI to,.mm O.length]]⟩) (fun j=>B.params.length-j.1) ⟨0,by omega⟩ ?_ ?_)
 ·refine zq rfl ?_ ?_;simp -dsimp only[simprocAttr,↓aa,zp,zc];rw[uj];rfl
 rintro⟨j,hj⟩;refine az (ah ?_);apply ic rfl<;>intro h
 ·refine ct ?_;have a8:j<B.params.length:=by simpa using h
  obtain⟨p,hp⟩:∃p,B.params[j]?=some p:=⟨B.params[j],by simp[a8]⟩
  obtain⟨a,ha⟩:∃a,args[j]?=some a:=⟨args[j]'(by omega),List.getElem?_eq_getElem _⟩
  refine aG (ag ?_);refine aU ?_;simp -dsimp only[simprocAttr,↓aa,zp,hp];refine ah ?_;refine jD ?_;simp -dsimp only[simprocAttr,↓aa,zp,ha,rm,<-pK hp ha]
  repeat(refine⟨by omega,?_⟩)
  refine⟨ob (by kernel_rfl),?_⟩;refine ah ?_;refine cC ?_
  repeat(refine⟨by omega,?_⟩)
  refine eX ?_;refine⟨⟨j+1,a8⟩,by simp;omega,?_⟩;refine zq rfl ?_ ?_;simp -dsimp only[simprocAttr,↓aa,zp,zc]
  ·exact Sub.int (by simp)
  rfl
 refine aF ?_;simp -dsimp only[bF,ne_eq,Nat.reduceEqDiff,reduceCtorEq];have tA:j=B.params.length:=by simp at h;omega
 subst tA;have zV:args.take B.params.length=args:=List.take_of_length_le (by omega);refine Lt ?_;simp -dsimp only[simprocAttr,↓aa,zp,EL,zV,List.take_length,WY,e1,e2,e3,OS,List.length_set,l7,MH,<-tM];refine⟨by omega,by omega,trivial,?_⟩;refine aV ?_;simp -dsimp only[simprocAttr,↓aa,zp,zr,Tryz.results81,pe,hlen,sI];refine⟨fun o ho=>?_,trivial,by simp[mq]⟩;rcases List.mem_append.1 ho with ho|ho
 ·exact fg o ho
 have tN:=br _ (List.mem_of_getElem? dG);simp only[ai.upto,aQ]at tN;simp only[List.mem_cons,List.mem_nil_iff,or_false]at ho;rcases ho with rfl|rfl|rfl
 ·refine AK fun x hx=>?_;rcases ky hx with q|q
  ·simp at q
  exact(hl _ q).mono (by omega)
 ·simp[ai.upto,av,ae.upto]
 simp only[ai.upto,aQ];intro x hx;rcases List.mem_append.1 hx with q|q
 ·exact ae.bK (by omega) _ (tN x (List.mem_of_mem_take q))
 simp only[List.mem_singleton]at q;subst q;simp[ae.upto]
def y2(u:cu)(fuel:Int):List ae:=[b8 u.fns,aI u.main,.aB 1 [] .ex,aI fuel,.v (.bool false),.v (.bool false),.aB 1 [] (.tok 3),aI 0,aI 0]
theorem AL{u:cu}{fuel:Int}(ER:0<=u.main∧u.main<u.fns.length)(hb:(cS u u.main).blocks≠[])(hp:(aY (cS u u.main) 0).params=[])(sz:Nat)(ow:nH) :
  bh Tryz.prog 81 [.gone,.cells [.aB 1 [] .ex,aI 0,aI 0],.cells (y2 u fuel),.spare 0] [.mp 2 0,aI u.main,.aB sz [] ow,aI 0] (fun r O'=>r=.cx []∧O'=[.gone,.cells [.aB 1 [] .ex,aI 0,aI 0],.cells (aA u ((Mach.start fuel).enter u u.main [] 0)),.spare 0,.map (.int .i64) [],.cells [aI u.main,aI 0,aI 0,aI 0,.mm 4],.cells [.mp 5 0]]):=by
 have hF:=lr ER.1 ER.2;have hB:=eK (f:=cS u u.main) (k:=0) (by omega) (by
  have:=List.length_pos_iff.2 hb;omega)
 have MH:aA u ((Mach.start fuel).enter u u.main [] 0)=[b8 u.fns,aI u.main,.os 6 1 1,aI fuel,.v (.bool false),.v (.bool false),.aB 1 [] (.tok 3),aI 0,aI 0]:=by
  simp[aA,Mach.enter,Mach.start]
 rw[MH];unfold y2;generalize Vv:aY (cS u u.main) 0=B at *;generalize Za:cS u u.main=F at *;have hB:F.blocks[0]?=some B:=hB;have tQ:B.params.length=0:=by rw[hp];rfl
 refine zf true 7 Tryz.func81 Tryz.ntmps81 ?_;dsimp only[Tmp,TypeId,slotsOf];refine az (ah ?_);refine cK ?_;simp -dsimp only[simprocAttr,↓aa,zp,hF,hB]
 repeat(refine⟨by omega,?_⟩)
 refine ah ?_;refine ag (aM (ι:=Unit) (fun _=>⟨54,[(0,.mp 2 0),(8,.mp 5 0),(27,a7 B.params),(28,aI 0),(29,aI 0)],[.gone,.cells [.aB 1 [] .ex,aI 0,aI 0],.cells [b8 u.fns,aI u.main,.aB 1 [] .ex,aI fuel,.v (.bool false),.v (.bool false),.aB 1 [] (.tok 3),aI 0,aI 0],.spare 0,.map (.int .i64) [],.cells [aI u.main,aI 0,aI 0,aI 0,.mm 4]]⟩) (fun _=>0) () ?_ ?_)
 ·refine zq rfl ?_ ?_;simp -dsimp only[simprocAttr,↓aa,zp,zc]
  ·exact Sub.int (by simp[tQ])
  rfl
 rintro⟨⟩;refine az (ah ?_);apply ic rfl<;>intro h
 ·simp at h
 refine aF ?_;simp -dsimp only[bF,ne_eq,Nat.reduceEqDiff,reduceCtorEq];refine Lt ?_;simp -dsimp only[simprocAttr,↓aa,zp,l7,sI];refine⟨trivial,?_⟩;refine aV ?_;simp -dsimp only[simprocAttr,↓aa,zp,zr,Tryz.results81];refine⟨?_,trivial⟩;simp[ai.upto,av,lC,ae.upto,Func.ak]
theorem DA{u:cu}{m:Mach}{O:List ai}(br:∀o∈O,o.upto O.length)(h0:O[2]?=some (.cells (aA u m)))(f:Fr)(dK:m.frames=[f])(gG:f.bT<O.length)(v:SV)(hv:SV.bk O.length v) :
  bh Tryz.prog 130 O [.mp 2 0,.mp f.bT 0,v.enc] (fun r O'=>r=.cx []∧O'=O.set 2 (.cells (aA u (m.leave f v)))):=by
 have nw:=hv.aL;rw[SV.fG]at nw;have eo:=I h0;have Qs:[b8 u.fns,aI u.main,.os m.sid 0 1,aI m.left,.v (.bool m.short),.v (.bool m.over),.aB 1 (m.out.map aI) (.tok 3),aI m.fin,aI m.val]=aA u { m with frames:=[] }:=rfl;have Dl:=dr h0;have mg:O[2]?=some (.cells [b8 u.fns,aI u.main,.os m.sid 1 1,aI m.left,.v (.bool m.short),.v (.bool m.over),.aB 1 (m.out.map aI) (.tok 3),aI m.fin,aI m.val]):=by
  rw[h0];unfold aA;rw[dK];rfl
 obtain⟨O1,dM⟩:∃O1,O1=O.set 2 (.cells (aA u { m with frames:=[] })):=⟨_,rfl⟩
 have hlen:O.length=O1.length:=by rw[dM];simp
 have Gb:O1[2]?=some (.cells (aA u { m with frames:=[] })):=by rw[dM];exact Dl _
 have ew:∀o∈O1,o.upto O1.length:=by
  rw[<-hlen,dM];exact bo br h0 (fun h=>bU h rfl)
 have jP:=fun e n=>kA ew Gb e n;have I7:∀n:Int,O1.set 2 (.cells (aA u (({ m with frames:=[] }:Mach).stop 0 n)))=O.set 2 (.cells (aA u (({ m with frames:=[] }:Mach).stop 0 n))):=fun n=>by
  rw[dM,List.set_set]
 have fg:∀n:Int,∀o∈O.set 2 (.cells (aA u (({ m with frames:=[] }:Mach).stop 0 n))),o.upto O.length:=fun n=>bo br h0 (fun h=>bU h rfl);have rh:O1[2]?=some (.cells [b8 u.fns,aI u.main,.os m.sid 0 1,aI m.left,.v (.bool m.short),.v (.bool m.over),.aB 1 (m.out.map aI) (.tok 3),aI m.fin,aI m.val]):=Gb;have dZ:m.leave f v=({ m with frames:=[] }:Mach).stop 0 (if v.kind=0∨v.kind=1 then v.n else 0):=by
  unfold Mach.leave;rw[dK];rfl
 rw[dZ];have jf:∀x,(O.set 2 x).take O1.length=O.set 2 x:=fun x=>by rw[<-hlen];exact b6
 by_cases hk:v.kind=0∨v.kind=1
 ·rw[if_pos hk];rcases(show v.kind=0∨(v.kind≠0∧v.kind=1) by omega)with e|⟨e,e1⟩
  ·have hd:decide (v.kind=0)=true:=decide_eq_true e;refine zf true O.length Tryz.func130 Tryz.ntmps130 ?_;dsimp only[Tmp,TypeId,slotsOf];refine az (ah ?_);refine aK 5 ([aI v.kind,aI v.n,.aB 4 (v.list.map SV.enc) .sh,eP v.arr]) [(0,.mp 2 0),(1,.mp f.bT 0),(5,.ip none [aI v.kind,aI v.n,.aB 4 (v.list.map SV.enc) .sh,eP v.arr])] rfl (by simp only[List.map_cons,List.map_nil,cF,b9,dC,dD,dB,dz,dA,cg]) (by omega) (by simp[bt,bc,Go.Av.look]) ?_ ?_ ?_
   ·exact br
   ·simp only[ae.upto]at nw;simp[ae.upto,gG,eo,nw]
   refine aU ?_;simp -dsimp only[simprocAttr,↓aa,zp,mg,l7,Qs,<-dM];refine⟨trivial,?_⟩;refine⟨ob (by kernel_rfl),?_⟩;refine ah ?_;refine cK ?_;simp -dsimp only[simprocAttr,↓aa,zp,rh];refine ah ?_;refine cm rfl ?_;refine ct ?_;refine az (ah ?_);refine cK ?_;simp -dsimp only[simprocAttr,↓aa,zp,hd];refine ah ?_;refine cY rfl ?_;refine cC (ah ?_);refine cC ?_;refine .inr (.inl ⟨_,_,jP 0 v.n,.inl (ao ?_)⟩);simp -dsimp only[simprocAttr,↓aa,zp,hlen,I7];refine aV ?_;simp -dsimp only[simprocAttr,↓aa,zp,zr,Tryz.results130,hlen,List.take_length,List.length_set,jf];exact⟨by rw[<-hlen];exact fg v.n,trivial⟩
  have hd:decide (v.kind=0)=false:=decide_eq_false e;have ni:decide (v.kind=1)=true:=decide_eq_true e1;refine zf true O.length Tryz.func130 Tryz.ntmps130 ?_;dsimp only[Tmp,TypeId,slotsOf];refine az (ah ?_);refine aK 5 ([aI v.kind,aI v.n,.aB 4 (v.list.map SV.enc) .sh,eP v.arr]) [(0,.mp 2 0),(1,.mp f.bT 0),(5,.ip none [aI v.kind,aI v.n,.aB 4 (v.list.map SV.enc) .sh,eP v.arr])] rfl (by simp only[List.map_cons,List.map_nil,cF,b9,dC,dD,dB,dz,dA,cg]) (by omega) (by simp[bt,bc,Go.Av.look]) ?_ ?_ ?_
  ·exact br
  ·simp only[ae.upto]at nw;simp[ae.upto,gG,eo,nw]
  refine aU ?_;simp -dsimp only[simprocAttr,↓aa,zp,mg,l7,Qs,<-dM];refine⟨trivial,?_⟩;refine⟨ob (by kernel_rfl),?_⟩;refine ah ?_;refine cK ?_;simp -dsimp only[simprocAttr,↓aa,zp,rh];refine ah ?_;refine cm rfl ?_;refine ct ?_;refine az (ah ?_);refine cK ?_;simp -dsimp only[simprocAttr,↓aa,zp,hd,ni];refine ah ?_;refine cY rfl ?_;refine cC (ah ?_);refine cC ?_;refine .inr (.inl ⟨_,_,jP 0 v.n,.inl (ao ?_)⟩);simp -dsimp only[simprocAttr,↓aa,zp,hlen,I7];refine aV ?_;simp -dsimp only[simprocAttr,↓aa,zp,zr,Tryz.results130,hlen,List.take_length,List.length_set,jf];exact⟨by rw[<-hlen];exact fg v.n,trivial⟩
 rw[if_neg hk];have hd:decide (v.kind=0)=false:=decide_eq_false (by omega);have ni:decide (v.kind=1)=false:=decide_eq_false (by omega);refine zf true O.length Tryz.func130 Tryz.ntmps130 ?_;dsimp only[Tmp,TypeId,slotsOf];refine az (ah ?_);refine aK 5 ([aI v.kind,aI v.n,.aB 4 (v.list.map SV.enc) .sh,eP v.arr]) [(0,.mp 2 0),(1,.mp f.bT 0),(5,.ip none [aI v.kind,aI v.n,.aB 4 (v.list.map SV.enc) .sh,eP v.arr])] rfl (by simp only[List.map_cons,List.map_nil,cF,b9,dC,dD,dB,dz,dA,cg]) (by omega) (by simp[bt,bc,Go.Av.look]) ?_ ?_ ?_
 ·exact br
 ·simp only[ae.upto]at nw;simp[ae.upto,gG,eo,nw]
 refine aU ?_;simp -dsimp only[simprocAttr,↓aa,zp,mg,l7,Qs,<-dM];refine⟨trivial,?_⟩;refine⟨ob (by kernel_rfl),?_⟩;refine ah ?_;refine cK ?_;simp -dsimp only[simprocAttr,↓aa,zp,rh];refine ah ?_;refine cm rfl ?_;refine ct ?_;refine az (ah ?_);refine cK ?_;simp -dsimp only[simprocAttr,↓aa,zp,hd,ni];refine ah ?_;refine cm rfl ?_;refine ct ?_;refine cC ?_;refine .inr (.inl ⟨_,_,jP 0 0,.inl (ao ?_)⟩);simp -dsimp only[simprocAttr,↓aa,zp,hlen,I7];refine aV ?_;simp -dsimp only[simprocAttr,↓aa,zp,zr,Tryz.results130,hlen,List.take_length,List.length_set,jf];exact⟨by rw[<-hlen];exact fg 0,trivial⟩
theorem DB{u:cu}{m:Mach}{O:List ai}(br:∀o∈O,o.upto O.length)(h0:O[2]?=some (.cells (aA u m)))(f g:Fr)(r:List Fr)(dK:m.frames=f::g::r)(hf:O[f.bT]?=some (.cells (aS f)))
  (hg:O[g.bT]?=some (.cells (aS g))) (ZV:O[g.dt]?=some (.map (.int .i64) (g.vals.map gv))) (UZ:∀e∈g.vals,SV.bk O.length e.2) {cs:List ae} (dG:O[m.sid]?=some (.cells cs)) (fw:cs[r.length]?=some (.mp g.bT 0))
  (Dl:m.sid≠2) (A9:r.length<=2 ^ 40) (Tm:f.bT≠2) (RX:g.bT≠2) (mg:g.dt≠2) (v:SV) (hv:SV.bk O.length v) :
  bh Tryz.prog 130 O [.mp 2 0,.mp f.bT 0,v.enc] (fun r O'=>r=.cx []∧O'=(O.set 2 (.cells (aA u (m.leave f v)))).set g.dt (.map (.int .i64) ((eT g.vals f.to v).map gv))):=by
 have nw:=hv.aL;rw[SV.fG]at nw;have eo:=I h0;have gG:=I hf;have dZ:aA u (m.leave f v)=[b8 u.fns,aI u.main,.os m.sid (r.length+1) 1,aI m.left,.v (.bool m.short),.v (.bool m.over),.aB 1 (m.out.map aI) (.tok 3),aI m.fin,aI m.val]:=by
  simp[Mach.leave,dK,aA]
 have hm:O[2]?=some (.cells [b8 u.fns,aI u.main,.os m.sid (r.length+1+1) 1,aI m.left,.v (.bool m.short),.v (.bool m.over),.aB 1 (m.out.map aI) (.tok 3),aI m.fin,aI m.val]):=by
  rw[h0];unfold aA;rw[dK];rfl
 obtain⟨O1,dM⟩:∃O1,O1=O.set 2 (.cells (aA u (m.leave f v))):=⟨_,rfl⟩
 have hlen:O.length=O1.length:=by rw[dM];simp
 have hs:=dr h0;have Gb:O1[2]?=some (.cells (aA u (m.leave f v))):=by rw[dM];exact hs _
 have QH:O1[m.sid]?=some (.cells cs):=by rw[dM];exact aW dG Dl.symm
 have nD:O1[f.bT]?=some (.cells (aS f)):=by rw[dM];exact aW hf Tm.symm
 have mc:O1[g.bT]?=some (.cells (aS g)):=by rw[dM];exact aW hg RX.symm
 have V8:O1[g.dt]?=some (.map (.int .i64) (g.vals.map gv)):=by rw[dM];exact aW ZV mg.symm
 have ew:∀o∈O1,o.upto O1.length:=by
  rw[<-hlen,dM];refine bo br h0 (fun h=>bU h ?_);simp[Mach.leave,dK]
 rw[<-dM];have fg:∀o∈O1.set g.dt (.map (.int .i64) ((eT g.vals f.to v).map gv)),o.upto O1.length:=by
  refine bg ew (AK fun x hx=>?_);rw[<-hlen];rcases jk hx with q|q
  ·exact UZ x q
  rw[q];exact hv
 have jf:∀x,(O1.set g.dt x).take O1.length=O1.set g.dt x:=fun x=>b6;have q9:[b8 u.fns,aI u.main,.os m.sid (r.length+1) 1,aI m.left,.v (.bool m.short),.v (.bool m.over),.aB 1 (m.out.map aI) (.tok 3),aI m.fin,aI m.val]=aA u (m.leave f v):=dZ.symm;rw[dZ]at Gb;unfold aS at nD mc;have sQ:((r.length+1+1:Nat):Int)-1=((r.length+1:Nat):Int):=by omega
 have A8:((r.length+1:Nat):Int)-1=(r.length:Nat):=by omega
 have R4:decide ((0:Int)<((r.length+1:Nat):Int))=true:=decide_eq_true (by omega);refine zf true O.length Tryz.func130 Tryz.ntmps130 ?_;dsimp only[Tmp,TypeId,slotsOf];refine az (ah ?_);refine aK 5 ([aI v.kind,aI v.n,.aB 4 (v.list.map SV.enc) .sh,eP v.arr]) [(0,.mp 2 0),(1,.mp f.bT 0),(5,.ip none [aI v.kind,aI v.n,.aB 4 (v.list.map SV.enc) .sh,eP v.arr])] rfl (by simp only[List.map_cons,List.map_nil,cF,b9,dC,dD,dB,dz,dA,cg]) (by omega) (by simp[bt,bc,Go.Av.look]) ?_ ?_ ?_
 ·exact br
 ·simp only[ae.upto]at nw;simp[ae.upto,gG,eo,nw]
 refine aU ?_;simp -dsimp only[simprocAttr,↓aa,zp,hm,l7,sQ,Int.toNat_natCast,q9,<-dM]
 repeat(refine⟨by omega,?_⟩)
 refine⟨trivial,?_⟩;refine⟨ob (by kernel_rfl),?_⟩;refine ah ?_;refine cK ?_;simp -dsimp only[simprocAttr,↓aa,zp,Gb,R4];refine ah ?_;refine cY rfl ?_;refine aU ?_;simp -dsimp only[simprocAttr,↓aa,zp,Gb,QH,A8,Nat.mul_one,fw,nD,mc,V8,rm]
 repeat(refine⟨by omega,?_⟩)
 refine⟨ob (by kernel_rfl),?_⟩;refine ah ?_;refine aq ?_;simp -dsimp only[simprocAttr,↓aa,zp,zr,Tryz.results130,hlen,jf,List.length_set];exact⟨fg,trivial⟩
end Go.Proofs.YtjdnhamngpafmaaGreat
