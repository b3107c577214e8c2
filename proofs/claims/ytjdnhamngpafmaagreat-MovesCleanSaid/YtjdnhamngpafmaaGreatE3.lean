/-
  Texts bound together by a program of mine: YtjdnhamngpafmaaGreatT6, YtjdnhamngpafmaaGreatT7, YtjdnhamngpafmaaGreatT8, YtjdnhamngpafmaaGreatT9, YtjdnhamngpafmaaGreatT10, YtjdnhamngpafmaaGreatT26, YtjdnhamngpafmaaGreatT11, YtjdnhamngpafmaaGreatT12, YtjdnhamngpafmaaGreatT13, YtjdnhamngpafmaaGreatT14, YtjdnhamngpafmaaGreatT15, YtjdnhamngpafmaaGreatT16, YtjdnhamngpafmaaGreatT17, YtjdnhamngpafmaaGreatT27, YtjdnhamngpafmaaGreatT28, YtjdnhamngpafmaaGreatT29, YtjdnhamngpafmaaGreatT31, YtjdnhamngpafmaaGreatT32, YtjdnhamngpafmaaGreatT33, YtjdnhamngpafmaaGreatPp, YtjdnhamngpafmaaGreatPq, YtjdnhamngpafmaaGreatT34, YtjdnhamngpafmaaGreatT35, YtjdnhamngpafmaaGreatPn, YtjdnhamngpafmaaGreatT36, YtjdnhamngpafmaaGreatPs, YtjdnhamngpafmaaGreatPt.
-/
import Derived.Test.YtjdnhamngpafmaaGreatE2
import Derived.Laws.Closers25b
set_option linter.all false
set_option maxRecDepth 100000
set_option maxHeartbeats 4000000

namespace Go.Proofs.YtjdnhamngpafmaaGreat
open Go.Av
theorem cO(n:Int):bA Tryz.prog 132 [aI n] (SV.word n).enc:=by
 refine zf true 0 Tryz.func132 Tryz.ntmps132 ?_;dsimp only[Tmp,TypeId,slotsOf];refine ay (ai ?_);refine ay (ai ?_);refine aq ?_;simp -dsimp only[simprocAttr,↓aa,zp,zr,Tryz.results132];simp[SV.word,SV.jk,eP,av,ae.upto]
theorem vG(b:Bool):bA Tryz.prog 151 [.v (.bool b)] (SV.word (if b then 1 else 0)).enc:=by
 have h1:=cO 1;have h0:=cO 0;have c1:(SV.word 1).enc.cells=[aI 0,aI 1,.aA 4 [] .sh,.v (.pointer none)]:=rfl;have c0:(SV.word 0).enc.cells=[aI 0,aI 0,.aA 4 [] .sh,.v (.pointer none)]:=rfl;refine zf true 0 Tryz.func151 Tryz.ntmps151 ?_;dsimp only[Tmp,TypeId,slotsOf];refine ay (ai ?_);refine bV (ai ?_);apply aN rfl<;>intro h
 ·refine ay ?_;refine .inl ⟨_,h1,by simp only[av,ae.upto,zt],ao ?_⟩;simp -dsimp only[simprocAttr,↓aa,zp,c1];refine ai ?_;refine aq ?_;simp -dsimp only[simprocAttr,↓aa,zp,zr,Tryz.results151];subst h;exact⟨by simp[av,ae.upto],rfl⟩
 refine cj ?_;refine ay ?_;refine .inl ⟨_,h0,by simp only[av,ae.upto,zt],ao ?_⟩;simp -dsimp only[simprocAttr,↓aa,zp,c0];refine ai ?_;refine aq ?_;simp -dsimp only[simprocAttr,↓aa,zp,zr,Tryz.results151];subst h;exact⟨by simp[av,ae.upto],rfl⟩
theorem Hq{O:List ak}(bB:∀o∈O,o.upto O.length)(l:List SV)(hl:∀v∈l,SV.bj O.length v)(k:Int):bd Tryz.prog 133 O [.aA 4 (l.map SV.enc) .sh,aI k] (fun r O'=>r=.v (.bool (kD l k))∧O'=O):=by
 refine zf true O.length Tryz.func133 Tryz.ntmps133 ?_;dsimp only[Tmp,TypeId,slotsOf];refine ay (ai ?_);refine bV (ai ?_);refine fD 7 rfl (fun hlen=>?_);simp only[List.length_map]at hlen;refine ah (aL (ι:={j:Nat // j<=l.length∧∀v∈l.take j,v.kind=k}) (fun j=>⟨18,[(1,aI k),(4,.v (.bool false)),(7,.aA 4 (l.map SV.enc) .sh),(8,aI l.length),(9,aI j.1)],O⟩) (fun j=>l.length-j.1) ⟨0,by omega,by simp⟩ ?_ ?_)
 ·refine zq rfl ?_ ?_;simp -dsimp only[simprocAttr,↓aa,zp,zc];rfl
 rintro⟨j,hj,cr⟩;refine ay (ai ?_);apply gJ rfl<;>intro h
 ·refine cj ?_;have bf:j<l.length:=by simpa using h
  obtain⟨v,hv⟩:∃v,l[j]?=some v:=⟨l[j],by simp[bf]⟩
  have pQ:=(hl v (List.mem_of_getElem? hv)).aO;rw[SV.fF]at pQ;refine aH (ah ?_);refine aQ ?_;simp -dsimp only[simprocAttr,↓aa,zp,hv];refine ai ?_;refine aV 6 ([aI v.kind,aI v.n,.aA 4 (v.list.map SV.enc) .sh,eP v.arr]) [(1,aI k),(4,.v (.bool false)),(6,.ip none [aI v.kind,aI v.n,.aA 4 (v.list.map SV.enc) .sh,eP v.arr]),(7,.aA 4 (l.map SV.enc) .sh),(8,aI l.length),(9,aI j)] rfl (by simp only[List.map_cons,List.map_nil,cD,bW,dA,dB,dz,dx,dy,cf]) (by omega) (by simp[bw,a8,Go.Av.look]) ?_ ?_ ?_
  ·exact bB
  ·intro p hp;simp only[List.mem_cons,List.mem_nil_iff,or_false]at hp;have Ze:=SV.ag hl;rcases hp with rfl|rfl|rfl|rfl|rfl|rfl
   ·trivial
   ·trivial
   ·exact pQ
   ·exact⟨Ze,trivial⟩
   ·trivial
   trivial
  refine ay (ai ?_);apply aN rfl<;>intro h
  ·refine ay (ai ?_);refine aq ?_;simp -dsimp only[simprocAttr,↓aa,zp,zr,Tryz.results133];have hk:v.kind≠k:=by simpa using h
   refine⟨bB,?_⟩;have:kD l k=false:=by
    simp only[kD,List.all_eq_false,decide_eq_true_eq];exact⟨v,List.mem_of_getElem? hv,hk⟩
   rw[this]
  refine kp ?_;have hk:v.kind=k:=by simpa using h
  refine cM ?_
  repeat(refine⟨by omega,?_⟩)
  refine eZ ?_;refine⟨⟨j+1,bf,fun w hw=>?_⟩,by simp;omega,?_⟩
  ·rw[List.take_add_one,hv]at hw;simp only[Option.toList_some,List.mem_append,List.mem_singleton]at hw;rcases hw with hw|rfl
   ·exact cr w hw
   exact hk
  refine zq rfl ?_ ?_;simp -dsimp only[simprocAttr,↓aa,zp,zc]
  ·exact Sub.int (by simp)
  rfl
 refine aK ?_;simp -dsimp only[bI,ne_eq,Nat.reduceEqDiff,reduceCtorEq];have gi:j=l.length:=by simp at h;omega
 subst gi;refine ay (ai ?_);refine aq ?_;simp -dsimp only[simprocAttr,↓aa,zp,zr,Tryz.results133];rw[List.take_length]at cr;refine⟨bB,?_⟩;have:kD l k=true:=by
  simp only[kD,List.all_eq_true,decide_eq_true_eq];exact cr
 rw[this]
theorem ya{O:List ak}(bB:∀o∈O,o.upto O.length)(l:List SV)(hl:∀v∈l,SV.bj O.length v)(k:Int)(X:List ak):bd Tryz.prog 133 (O++X) [.aA 4 (l.map SV.enc) .sh,aI k] (fun r O'=>r=.v (.bool (kD l k))∧O'=O++X) :=
 bd.frame (Hq bB l hl k) rfl ⟨⟨SV.ag hl,trivial⟩,trivial,trivial⟩ bB X
theorem dd(n:Int):(SV.word n).enc.cells=[aI 0,aI n,.aA 4 [] .sh,.v (.pointer none)]:=rfl
theorem vN(k:Nat)(n:Int):SV.bj k (SV.word n):=.mk (by simp) (by simp)
theorem qf(k:Nat):SV.bj k SV.zero:=.mk (by simp) (by simp)
theorem lv{k:Nat}{n m:Int}:av k [(SV.word n).enc,.v (.int .i64 m)]:=⟨(vN k n).aO,trivial,trivial⟩
theorem fu{k:Nat}{m:Int}:av k [SV.zero.enc,.v (.int .i64 m)]:=⟨(qf k).aO,trivial,trivial⟩
theorem eV(n:Int):ae.agg [aI 0,aI n,.aA 4 [] .sh,.v (.pointer none)]=(SV.word n).enc:=rfl
theorem ck:ae.agg [aI 0,aI 0,.aA 4 [] .sh,.v (.pointer none)]=SV.zero.enc:=rfl
theorem sn(op a b:Int)(ha:fv a)(hb:fv b):bA Tryz.prog 134 [aI op,aI a,aI b] (.cw [(c5 op a b).1.enc,aI (c5 op a b).2]):=by
 have q1:=Hp a b ha hb;have q2:=JW a b ha hb;have q3:=Je a b ha hb;have q4:=fun h=>HV a b ha hb h;have q5:=fun h=>Jd a b ha hb h;refine zf true 0 Tryz.func134 Tryz.ntmps134 ?_;dsimp only[Tmp,TypeId,slotsOf];refine ay (ai ?_);refine bV (ai ?_);refine ah ?_;refine ay (ai ?_);apply aN rfl<;>intro h
 ·have e:op=1:=by simpa using h
  refine ay ?_;refine .inl ⟨_,q1,by simp only[av,ae.upto,zt],ao ?_⟩;refine .inl ⟨_,cO _,by simp[av,ae.upto,tJ],ao ?_⟩;simp -dsimp only[simprocAttr,↓aa,zp,dd];refine ai ?_;refine aq ?_;simp -dsimp only[simprocAttr,↓aa,zp,zr,Tryz.results134,eV];simp[c5,e,lv]
 have e1:op≠1:=by simpa using h
 refine ay (ai ?_);apply aN rfl<;>intro h
 ·have e:op=2:=by simpa using h
  refine ay ?_;refine .inl ⟨_,q2,by simp only[av,ae.upto,zt],ao ?_⟩;refine .inl ⟨_,cO _,by simp[av,ae.upto,tJ],ao ?_⟩;simp -dsimp only[simprocAttr,↓aa,zp,dd];refine ai ?_;refine aq ?_;simp -dsimp only[simprocAttr,↓aa,zp,zr,Tryz.results134,eV];simp[c5,e,lv]
 have e2:op≠2:=by simpa using h
 refine ay (ai ?_);apply aN rfl<;>intro h
 ·have e:op=3:=by simpa using h
  refine ay ?_;refine .inl ⟨_,q3,by simp only[av,ae.upto,zt],ao ?_⟩;refine .inl ⟨_,cO _,by simp[av,ae.upto,tJ],ao ?_⟩;simp -dsimp only[simprocAttr,↓aa,zp,dd];refine ai ?_;refine aq ?_;simp -dsimp only[simprocAttr,↓aa,zp,zr,Tryz.results134,eV];simp[c5,e,lv]
 have e3:op≠3:=by simpa using h
 refine ay (ai ?_);apply aN rfl<;>intro h
 ·have e:op=6:=by simpa using h
  refine ay ?_;refine .inl ⟨_,vG _,by simp only[av,ae.upto,zt],ao ?_⟩;simp -dsimp only[simprocAttr,↓aa,zp,dd];refine ai ?_;refine aq ?_;simp -dsimp only[simprocAttr,↓aa,zp,zr,Tryz.results134,eV];simp[c5,e,lv]
 have e6:op≠6:=by simpa using h
 refine ay (ai ?_);apply aN rfl<;>intro h
 ·have e:op=7:=by simpa using h
  refine ay ?_;refine .inl ⟨_,vG _,by simp only[av,ae.upto,zt],ao ?_⟩;simp -dsimp only[simprocAttr,↓aa,zp,dd];refine ai ?_;refine aq ?_;simp -dsimp only[simprocAttr,↓aa,zp,zr,Tryz.results134,eV];simp[c5,e,lv]
 have e7:op≠7:=by simpa using h
 refine kp ?_;refine bV (ai ?_);apply aN rfl<;>intro h
 ·have e:b=0:=by simpa using h
  refine ay (ai ?_);refine aq ?_;simp -dsimp only[simprocAttr,↓aa,zp,zr,Tryz.results134,ck];simp[c5,e1,e2,e3,e6,e7,e,fu]
 have e0:b≠0:=by simpa using h
 refine cj ?_;refine bV (ai ?_);apply aN rfl<;>intro h
 ·have e:op=4:=by simpa using h
  refine ay ?_;refine zi (q4 e0) ?_;refine ai ?_;refine ay ?_;refine .inl ⟨_,cO _,by simp only[av,ae.upto,zt],ao ?_⟩;simp -dsimp only[simprocAttr,↓aa,zp,dd];refine ai ?_;refine aq ?_;simp -dsimp only[simprocAttr,↓aa,zp,zr,Tryz.results134,eV];simp[c5,e,lv,e0]
 have e4:op≠4:=by simpa using h
 refine cj ?_;refine ay ?_;refine zi (q5 e0) ?_;refine ai ?_;refine ay ?_;refine .inl ⟨_,cO _,by simp only[av,ae.upto,zt],ao ?_⟩;simp -dsimp only[simprocAttr,↓aa,zp,dd];refine ai ?_;refine aq ?_;simp -dsimp only[simprocAttr,↓aa,zp,zr,Tryz.results134,eV];simp[c5,e1,e2,e3,e4,e6,e7,lv,e0]
theorem fC{l:List SV}{k:Nat}{v:SV}(h:l[k]?=some v):cu l k=v:=by simp[cu,h]
theorem vv{k:Nat}{v:SV}{m:Int}(h:SV.bj k v):av k [v.enc,.v (.int .i64 m)]:=⟨h.aO,trivial,trivial⟩
theorem m6{k:Nat}{v:SV}(h:SV.bj k v):∀x∈v.list,SV.bj k x:=by cases h;assumption
theorem Bg{O:List ak}(bB:∀o∈O,o.upto O.length)(i:Ins)(args:List SV)(hl:∀v∈args,SV.bj O.length v)(o:SV)(h0:args[0]?=some o)
  (hp:i.op≠10->i.op≠11->i.op≠12->∃p,args[1]?=some p) (hn:i.op=11->0<=i.n) :
  bd Tryz.prog 135 O [i.enc,.aA 4 (args.map SV.enc) .sh] (fun r O'=>r=.cw [(cN i args).1.enc,aI (cN i args).2]∧O'=O):=by
 have Xx:=hl o (List.mem_of_getElem? h0);have ha:=fC h0;refine zf true O.length Tryz.func135 Tryz.ntmps135 ?_;dsimp only[Tmp,TypeId,slotsOf];refine ay (ai ?_);refine aQ ?_;simp -dsimp only[simprocAttr,↓aa,zp,h0];refine ai ?_;refine aH (ah ?_);refine ay (ai ?_);apply aN rfl<;>intro h
 ·have e:i.op=11:=by simpa using h
  by_cases hk:o.kind=1∨o.kind=2
  ·have hd:(decide (o.kind=1)=true)∨(decide (o.kind=1)=false∧decide (o.kind=2)=true):=by
    rcases hk with hk|hk
    ·exact .inl (decide_eq_true hk)
    exact .inr ⟨decide_eq_false (by omega),decide_eq_true hk⟩
   have Ur:¬(o.kind≠1∧o.kind≠2):=by omega
   have uO:=hn e;by_cases hlen:(o.list.length:Int)<=i.n
   ·have kK:decide ((o.list.length:Int)<=i.n)=true:=decide_eq_true hlen;rcases hd with hd|⟨hd,oM⟩
    ·refine c7 ?_;simp -dsimp only[simprocAttr,↓aa,zp,hd,kK];refine ai ?_;refine cB rfl ?_;refine ay (ai ?_);refine aq ?_;simp -dsimp only[simprocAttr,↓aa,zp,zr,Tryz.results135,ck];refine⟨bB,fu,?_⟩;simp[cN,e,ha,hlen]
    refine c7 ?_;simp -dsimp only[simprocAttr,↓aa,zp,hd,oM,kK];refine ai ?_;refine cB rfl ?_;refine ay (ai ?_);refine aq ?_;simp -dsimp only[simprocAttr,↓aa,zp,zr,Tryz.results135,ck];refine⟨bB,fu,?_⟩;simp[cN,e,ha,hlen]
   have kK:decide ((o.list.length:Int)<=i.n)=false:=decide_eq_false hlen;obtain⟨x,hx⟩:∃x,o.list[i.n.toNat]?=some x:=⟨o.list[i.n.toNat]'(by omega),List.getElem?_eq_getElem _⟩
   have EK:=m6 Xx x (List.mem_of_getElem? hx);have uH:=fC hx;rcases hd with hd|⟨hd,oM⟩
   ·refine c7 ?_;simp -dsimp only[simprocAttr,↓aa,zp,hd,kK];refine ai ?_;refine cv rfl ?_;refine cj ?_;refine aQ ?_;simp -dsimp only[simprocAttr,↓aa,zp,hx]
    repeat(refine⟨by omega,?_⟩)
    refine ai ?_;refine aq ?_;simp -dsimp only[simprocAttr,↓aa,zp,zr,Tryz.results135];refine⟨bB,vv EK,?_⟩;simp[cN,e,ha,hlen,uH,Ur]
   refine c7 ?_;simp -dsimp only[simprocAttr,↓aa,zp,hd,oM,kK];refine ai ?_;refine cv rfl ?_;refine cj ?_;refine aQ ?_;simp -dsimp only[simprocAttr,↓aa,zp,hx]
   repeat(refine⟨by omega,?_⟩)
   refine ai ?_;refine aq ?_;simp -dsimp only[simprocAttr,↓aa,zp,zr,Tryz.results135];refine⟨bB,vv EK,?_⟩;simp[cN,e,ha,hlen,uH,Ur]
  have EA:decide (o.kind=1)=false:=decide_eq_false (by omega);have Un:decide (o.kind=2)=false:=decide_eq_false (by omega);have Ur:o.kind≠1∧o.kind≠2:=by omega
  refine c7 ?_;simp -dsimp only[simprocAttr,↓aa,zp,EA,Un];refine ai ?_;refine cB rfl ?_;refine ay (ai ?_);refine aq ?_;simp -dsimp only[simprocAttr,↓aa,zp,zr,Tryz.results135,ck];refine⟨bB,fu,?_⟩;simp[cN,e,ha,Ur]
 have QZ:i.op≠11:=by simpa using h
 refine ay (ai ?_);apply aN rfl<;>intro h
 ·have hk:o.kind≠1:=by simpa using h
  refine ay (ai ?_);refine aq ?_;simp -dsimp only[simprocAttr,↓aa,zp,zr,Tryz.results135,ck];refine⟨bB,fu,?_⟩;simp[cN,QZ,ha,hk]
 have hk:o.kind=1:=by simpa using h
 refine ay (ai ?_);apply aN rfl<;>intro h
 ·have Pk:i.op=10:=by simpa using h
  refine ay ?_;refine .inl ⟨_,cO o.n,by simp only[av,ae.upto,zt],ao ?_⟩;simp -dsimp only[simprocAttr,↓aa,zp,dd];refine ai ?_;refine aq ?_;simp -dsimp only[simprocAttr,↓aa,zp,zr,Tryz.results135,eV];refine⟨bB,lv,?_⟩;simp[cN,Pk,ha,hk]
 have Pk:i.op≠10:=by simpa using h
 refine ay (ai ?_);apply aN rfl<;>intro h
 ·have Pl:i.op=12:=by simpa using h
  refine ay ?_;refine .inl ⟨_,cO o.list.length,by simp only[av,ae.upto,zt],ao ?_⟩;simp -dsimp only[simprocAttr,↓aa,zp,dd];refine ai ?_;refine aq ?_;simp -dsimp only[simprocAttr,↓aa,zp,zr,Tryz.results135,eV];refine⟨bB,lv,?_⟩;simp[cN,Pl,ha,hk]
 have Pl:i.op≠12:=by simpa using h
 obtain⟨p,h1⟩:=hp Pk QZ Pl;have hb:=fC h1;refine aQ ?_;simp -dsimp only[simprocAttr,↓aa,zp,h1];refine ai ?_;apply aN rfl<;>intro h
 ·have ED:p.kind≠0:=by simpa using h
  refine ay (ai ?_);refine aq ?_;simp -dsimp only[simprocAttr,↓aa,zp,zr,Tryz.results135,ck];refine⟨bB,fu,?_⟩;simp[cN,Pk,QZ,Pl,ha,hb,hk,ED]
 have ED:p.kind=0:=by simpa using h
 by_cases ix:p.n<0
 ·have kK:decide (p.n<0)=true:=decide_eq_true ix;refine aQ ?_;simp -dsimp only[simprocAttr,↓aa,zp,h1,kK];refine⟨ob (by kernel_rfl),?_⟩;refine ai ?_;refine cB rfl ?_;refine ay (ai ?_);refine aq ?_;simp -dsimp only[simprocAttr,↓aa,zp,zr,Tryz.results135,ck];refine⟨bB,fu,?_⟩;simp[cN,Pk,QZ,Pl,ha,hb,hk,ED,ix]
 have kK:decide (p.n<0)=false:=decide_eq_false ix;by_cases hlen:(o.list.length:Int)<=p.n
 ·have po:decide ((o.list.length:Int)<=p.n)=true:=decide_eq_true hlen;refine aQ ?_;simp -dsimp only[simprocAttr,↓aa,zp,h1,kK,po];refine⟨ob (by kernel_rfl),?_⟩;refine ai ?_;refine cB rfl ?_;refine ay (ai ?_);refine aq ?_;simp -dsimp only[simprocAttr,↓aa,zp,zr,Tryz.results135,ck];refine⟨bB,fu,?_⟩;simp[cN,Pk,QZ,Pl,ha,hb,hk,ED,ix,hlen]
 have po:decide ((o.list.length:Int)<=p.n)=false:=decide_eq_false hlen;obtain⟨x,hx⟩:∃x,o.list[p.n.toNat]?=some x:=⟨o.list[p.n.toNat]'(by omega),List.getElem?_eq_getElem _⟩
 have EK:=m6 Xx x (List.mem_of_getElem? hx);have uH:=fC hx;refine aQ ?_;simp -dsimp only[simprocAttr,↓aa,zp,h1,kK,po];refine⟨ob (by kernel_rfl),?_⟩;refine ai ?_;refine cv rfl ?_;refine kp ?_;refine aQ ?_;simp -dsimp only[simprocAttr,↓aa,zp,h1,hx]
 repeat(refine⟨by omega,?_⟩)
 refine⟨ob (by kernel_rfl),?_⟩;refine ai ?_;refine aq ?_;simp -dsimp only[simprocAttr,↓aa,zp,zr,Tryz.results135];refine⟨bB,vv EK,?_⟩;simp[cN,Pk,QZ,Pl,ha,hb,hk,ED,ix,hlen,uH]
theorem xZ{op:Int}:∀{l r:List SV} {k:Nat} {x y:SV},l[k]?=some x->r[k]?=some y->kq op (l.take (k+1)) (r.take (k+1))=kq op (l.take k) (r.take k)++[(c5 op x.n y.n).1]
 | a::l,b::r,0,x,y,h1,h2=>by
  simp only[List.getElem?_cons_zero,Option.some.injEq]at h1 h2;subst h1;subst h2;simp[kq]
 | a::l,b::r,k+1,x,y,h1,h2=>by
  have ih:=xZ (op:=op) (l:=l) (r:=r) (k:=k) (by simpa using h1) (by simpa using h2);simp only[List.take_succ_cons,kq,List.cons_append];rw[ih]
theorem vO{op:Int}:∀(l r:List SV),(kq op l r).length=min l.length r.length
 | [],_=>by simp[kq]
 | _::_,[]=>by simp[kq]
 | a::l,b::r=>by simp[kq,vO l r]
theorem ph(k:Nat)(op a b:Int):SV.bj k (c5 op a b).1:=by
 unfold c5
 repeat' split
 all_goals exact vN _ _
theorem qg{op:Int}{k:Nat}:∀(l r:List SV),∀v∈kq op l r,SV.bj k v
 | [],_,v,h=>by simp[kq]at h
 | _::_,[],v,h=>by simp[kq]at h
 | a::l,b::r,v,h=>by
  simp only[kq,List.mem_cons]at h;rcases h with rfl|h
  ·exact ph _ _ _ _
  exact qg l r v h
theorem BQ{O:List ak}(bB:∀o∈O,o.upto O.length)(i:Ins)(args:List SV)(hl:∀v∈args,SV.bj O.length v)(h1:i.op=24->∃x,args[0]?=some x)(h2:i.op≠22->i.op≠24->∃x y,args=[x,y])
  (hn:i.op=24->0<=i.n) (hw:∀v∈args,v.kind=4->v.list.length<=1000∧∀x∈v.list,fv x.n) :
  bd Tryz.prog 136 O [i.enc,.aA 4 (args.map SV.enc) .sh] (fun r O'=>r=.cw [(c6 i args).1.enc,aI (c6 i args).2]∧O'=O):=by
 have P4:∀l:List SV,ae.agg [aI 4,aI 0,.aA 4 (l.map SV.enc) .sh,.v (.pointer none)]=(SV.mk 4 0 l none).enc:=fun l=>(SV.jk 4 0 l none).symm;refine zf true O.length Tryz.func136 Tryz.ntmps136 ?_;dsimp only[Tmp,TypeId,slotsOf];refine ay (ai ?_);refine bU 2 0 ([aI i.to,aI i.op,aI i.n,aJ i.args]) rfl rfl (by rfl) ?_;simp -dsimp only[simprocAttr,↓aa,zp];refine bV (ai ?_);refine ah ?_;refine ay (ai ?_);apply aN rfl<;>intro h
 ·have e:i.op=22:=by simpa using h
  refine bV ?_;refine .inr (.inr ⟨_,ya bB args hl 0 _,ao (zj ?_)⟩);refine ai ?_;cases cr:kD args 0 with
  | true =>
   apply aN rfl<;>intro h
   ·simp[cr]at h
   refine cj ?_;refine ay (ai ?_);refine aq ?_;simp -dsimp only[simprocAttr,↓aa,zp,zr,Tryz.results136,P4];have hz:=(SV.bj.mk (k:=4) (m:=0) (a:=none) (by simp) hl).aO;rw[SV.jk]at hz;refine⟨bB,⟨hz,trivial,trivial⟩,?_⟩;simp[c6,e,cr,SV.jk]
  | false =>
   apply aN rfl<;>intro h
   ·refine ay (ai ?_);refine aq ?_;simp -dsimp only[simprocAttr,↓aa,zp,zr,Tryz.results136,ck];refine⟨bB,fu,?_⟩;simp[c6,e,cr]
   simp[cr]at h
 have KI:i.op≠22:=by simpa using h
 refine ay (ai ?_);apply aN rfl<;>intro h
 ·have e:i.op=24:=by simpa using h
  obtain⟨x,hx⟩:=h1 e;have uH:=fC hx;have uO:=hn e;have EK:=hl x (List.mem_of_getElem? hx);by_cases hk:x.kind=4
  ·have hd:decide (x.kind=4)=true:=decide_eq_true hk;by_cases hlen:(x.list.length:Int)<=i.n
   ·have kK:decide ((x.list.length:Int)<=i.n)=true:=decide_eq_true hlen;refine c7 ?_;simp -dsimp only[simprocAttr,↓aa,zp,hx,hd,kK];refine⟨ob (by kernel_rfl),?_⟩;refine ai ?_;refine cB rfl ?_;refine ay (ai ?_);refine aq ?_;simp -dsimp only[simprocAttr,↓aa,zp,zr,Tryz.results136,ck];refine⟨bB,fu,?_⟩;simp[c6,e,uH,hlen]
   have kK:decide ((x.list.length:Int)<=i.n)=false:=decide_eq_false hlen;obtain⟨z,hz⟩:∃z,x.list[i.n.toNat]?=some z:=⟨x.list[i.n.toNat]'(by omega),List.getElem?_eq_getElem _⟩
   have Mu:=m6 EK z (List.mem_of_getElem? hz);have R5:=fC hz;refine c7 ?_;simp -dsimp only[simprocAttr,↓aa,zp,hx,hd,kK];refine⟨ob (by kernel_rfl),?_⟩;refine ai ?_;refine cv rfl ?_;refine cj ?_;refine aQ ?_;simp -dsimp only[simprocAttr,↓aa,zp,hx,hz]
   repeat(refine⟨by omega,?_⟩)
   refine⟨ob (by kernel_rfl),?_⟩;refine ai ?_;refine aq ?_;simp -dsimp only[simprocAttr,↓aa,zp,zr,Tryz.results136];refine⟨bB,vv Mu,?_⟩;simp[c6,e,uH,hlen,hk,R5]
  have hd:decide (x.kind=4)=false:=decide_eq_false hk;refine c7 ?_;simp -dsimp only[simprocAttr,↓aa,zp,hx,hd];refine⟨ob (by kernel_rfl),?_⟩;refine ai ?_;refine cB rfl ?_;refine ay (ai ?_);refine aq ?_;simp -dsimp only[simprocAttr,↓aa,zp,zr,Tryz.results136,ck];refine⟨bB,fu,?_⟩;simp[c6,e,uH,hk]
 have Od:i.op≠24:=by simpa using h
 obtain⟨x,y,e⟩:=h2 KI Od;subst e;have cr:=ya bB [x,y] hl 4;cases hk:kD [x,y] 4 with
 | false =>
  simp only[hk,List.map_cons,List.map_nil]at cr;refine kp ?_;refine bV ?_;refine .inr (.inr ⟨_,cr _,ao (zj ?_)⟩);refine⟨ob (by kernel_rfl),?_⟩;refine ai ?_;refine cB rfl ?_;refine ay (ai ?_);refine aq ?_;simp -dsimp only[simprocAttr,↓aa,zp,zr,Tryz.results136,ck];refine⟨bB,fu,?_⟩;simp[c6,KI,Od,hk]
 | true =>
  simp only[hk,List.map_cons,List.map_nil]at cr;by_cases hlen:x.list.length=y.list.length
  ·have hd:decide ((x.list.length:Int)=y.list.length)=true:=decide_eq_true (by omega);refine kp ?_;refine bV ?_;refine .inr (.inr ⟨_,cr _,ao ?_⟩);simp -dsimp only[simprocAttr,↓aa,zp,hd];refine⟨ob (by kernel_rfl),?_⟩;refine ai ?_;apply aN rfl<;>intro h
   ·cases h
   refine cj ?_;refine ay (ai ?_);refine cY (O.length+2) 2 (by rw[ld];rfl) rfl ?_;simp -dsimp only[simprocAttr,↓aa,zp];refine bV (ai ?_);refine fD 68 rfl (fun SN=>?_);simp only[List.length_map]at SN;have gi:x.kind=4∧y.kind=4:=by simpa[kD]using hk
   obtain⟨AX,V3⟩:=hw x (by simp) gi.1;obtain⟨V4,V6⟩:=hw y (by simp) gi.2;refine ah (aL (ι:={j:Nat // j<=x.list.length}) (fun j=>⟨99,[(1,.aA 4 [x.enc,y.enc] .sh),(2,.ip none [aI i.to,aI i.op,aI i.n,aJ i.args]),(4,.mp (O.length+1) 0),(5,aI 0),(6,.mp (O.length+2) 0),(68,.aA 4 (x.list.map SV.enc) .sh),(69,aI x.list.length),(70,aI j.1)],O++[.gone,.cells [aI 0,aI 0,.aA 4 [] .ex,.v (.pointer none)],.cells [aI 4,aI 0,.aA 4 ((kq i.n (x.list.take j.1) (y.list.take j.1)).map SV.enc) (.tok (O.length+3)),.v (.pointer none)],.spare j.1]⟩) (fun j=>x.list.length-j.1) ⟨0,by omega⟩ ?_ ?_)
   ·refine zq rfl ?_ ?_;simp -dsimp only[simprocAttr,↓aa,zp,zc];simp[kq]
   rintro⟨j,hj⟩;have zJ:(kq i.n (x.list.take j) (y.list.take j)).length=j:=by
    rw[vO,List.length_take,List.length_take];omega
   refine ay (ai ?_);apply gJ rfl<;>intro h
   ·refine cj ?_;have bf:j<x.list.length:=by simpa using h
    obtain⟨a,ha⟩:∃a,x.list[j]?=some a:=⟨x.list[j],by simp[bf]⟩
    obtain⟨b,hb⟩:∃b,y.list[j]?=some b:=⟨y.list[j]'(by omega),List.getElem?_eq_getElem _⟩
    have Yy:=V3 a (List.mem_of_getElem? ha);have Sc:=V6 b (List.mem_of_getElem? hb);refine aH (ah ?_);refine aQ ?_;simp -dsimp only[simprocAttr,↓aa,zp,ha];refine ai ?_;refine bU 8 4 ([aI a.kind,aI a.n,.aA 4 (a.list.map SV.enc) .sh,eP a.arr]) rfl rfl (by simp only[List.map_cons,List.map_nil,cD,bW,dA,dB,dz,dx,dy,cf]) ?_;simp -dsimp only[simprocAttr,↓aa,zp];refine aQ ?_;simp -dsimp only[simprocAttr,↓aa,zp,hb];refine zi (sn i.n a.n b.n Yy Sc) ?_;refine⟨ob (by kernel_rfl),?_⟩;refine ai ?_;generalize hB:(c5 i.n a.n b.n).1=B;refine bU 9 5 ([aI B.kind,aI B.n,.aA 4 (B.list.map SV.enc) .sh,eP B.arr]) rfl rfl (by simp only[List.map_cons,List.map_nil,cD,bW,dA,dB,dz,dx,dy,cf]) ?_;simp -dsimp only[simprocAttr,↓aa,zp];refine jX ?_;simp -dsimp only[simprocAttr,↓aa,zp,zJ]
    repeat(refine⟨by omega,?_⟩)
    refine ai ?_;have yJ:=xZ (op:=i.n) ha hb;rw[hB]at yJ;have EK:=(hl x (by simp)).mono (show O.length<=O.length+4 by omega);have TF:=(hl y (by simp)).mono (show O.length<=O.length+4 by omega);have Mu:=SV.ag (n:=O.length+4) (qg (op:=i.n) (x.list.take (j+1)) (y.list.take (j+1)));rw[yJ,List.map_append,List.map_cons,List.map_nil]at Mu;have V2:=SV.ag (m6 EK);refine Lc 4 ([.gone,.cells [aI 0,aI 0,.aA 4 [] .ex,.v (.pointer none)],.cells [aI 4,aI 0,.aA 4 ((kq i.n (x.list.take j) (y.list.take j)).map SV.enc++[B.enc]) (.tok (O.length+3)),.v (.pointer none)],.spare (j+1)]) [(1,.aA 4 [x.enc,y.enc] .sh),(2,.ip none [aI i.to,aI i.op,aI i.n,aJ i.args]),(4,.mp (O.length+1) 0),(5,aI 0),(6,.mp (O.length+2) 0),(68,.aA 4 (x.list.map SV.enc) .sh),(69,aI x.list.length),(70,aI j)] rfl (by simp) (by omega) (by simp[bw,a8,Go.Av.look]) ?_ ?_ ?_ ?_
    ·exact fun o ho=>ak.b8 (by omega) (bB o ho)
    ·simp[ak.upto,av,ae.upto,Mu]
    ·simp[av,ae.upto,ax,EK.aO,TF.aO,V2]
    refine cM ?_
    repeat(refine⟨by omega,?_⟩)
    refine eZ ?_;refine⟨⟨j+1,bf⟩,by simp;omega,?_⟩;refine zq rfl ?_ ?_;simp -dsimp only[simprocAttr,↓aa,zp,zc]
    ·exact Sub.int (by simp)
    simp only[yJ,List.map_append,List.map_cons,List.map_nil]
   refine aK ?_;simp -dsimp only[bI,ne_eq,Nat.reduceEqDiff,reduceCtorEq];have rL:j=x.list.length:=by simp at h;omega
   subst rL;have hy:y.list.take x.list.length=y.list:=by rw[hlen,List.take_length]
   have hz:=(SV.bj.mk (k:=4) (m:=0) (a:=none) (n:=O.length) (l:=kq i.n x.list y.list) (by simp) (qg _ _)).aO;rw[SV.jk]at hz;refine ay (ai ?_);refine aq ?_;simp -dsimp only[simprocAttr,↓aa,zp,zr,Tryz.results136,hy];refine⟨bB,⟨hz,trivial,trivial⟩,?_⟩;have eX:cu [x,y] 0=x∧cu [x,y] 1=y:=⟨rfl,rfl⟩
   simp[c6,KI,Od,hk,hlen,SV.jk,eX,eP]
  have hd:decide ((x.list.length:Int)=y.list.length)=false:=decide_eq_false (by omega);refine kp ?_;refine bV ?_;refine .inr (.inr ⟨_,cr _,ao ?_⟩);simp -dsimp only[simprocAttr,↓aa,zp,hd];refine⟨ob (by kernel_rfl),?_⟩;refine ai ?_;refine cB rfl ?_;refine ay (ai ?_);refine aq ?_;simp -dsimp only[simprocAttr,↓aa,zp,zr,Tryz.results136,ck];refine⟨bB,fu,?_⟩;simp[c6,KI,Od,hk,hlen,cu]
def j7(l:List Int)(n:Int):Int:=if l.findIdx (· == n)<l.length then(l.findIdx (· == n):Nat)else -1
theorem CS{l:List Int}{n:Int}{k:Nat}(hk:l[k]?=some n)(h:∀x∈l.take k,x≠n):l.findIdx (· == n)=k:=by
 have bf:=I hk;have e:l=l.take k++n::l.drop (k+1):=by
  rw[List.getElem?_eq_getElem bf]at hk;simp only[Option.some.injEq]at hk
  conv=>lhs;rw[<-List.take_append_drop k l,List.drop_eq_getElem_cons bf,hk]
 have hn:(l.take k).findIdx (· == n)=(l.take k).length:=by
  rw[List.findIdx_eq_length];intro x hx;simpa using h x hx
 rw[e,List.findIdx_append,hn];simp[List.findIdx_cons];omega
theorem pR(l:List Int)(n:Int):bA Tryz.prog 66 [aJ l,aI n] (aI (j7 l n)):=by
 refine zf true 0 Tryz.func66 Tryz.ntmps66 ?_;dsimp only[Tmp,TypeId,slotsOf];refine ay (ai ?_);refine fD 0 rfl (fun hlen=>?_);simp only[List.length_map]at hlen;refine bV (ai ?_);refine ah (aL (ι:={j:Nat // j<=l.length∧∀x∈l.take j,x≠n}) (fun j=>⟨19,[(0,aJ l),(1,aI n),(4,aI 0),(7,aI l.length),(8,aI j.1)],[]⟩) (fun j=>l.length-j.1) ⟨0,by omega,by simp⟩ ?_ ?_)
 ·refine zq rfl ?_ ?_;simp -dsimp only[simprocAttr,↓aa,zp,zc];rfl
 rintro⟨j,hj,cr⟩;refine ay (ai ?_);apply gJ rfl<;>intro h
 ·refine cj ?_;have bf:j<l.length:=by simpa using h
  obtain⟨v,hv⟩:∃v,l[j]?=some v:=⟨l[j],by simp[bf]⟩
  refine aH (ah ?_);refine ay (ai ?_);refine aQ ?_;simp -dsimp only[simprocAttr,↓aa,zp,hv]
  repeat(refine⟨by omega,?_⟩)
  refine ai ?_;apply aN rfl<;>intro h
  ·have hk:n=v:=by simpa using h
   refine ay (ai ?_);refine aq ?_;simp -dsimp only[simprocAttr,↓aa,zp,zr,Tryz.results66];subst hk;have:=CS hv cr;simp[j7,this,bf]
  refine kp ?_;have hk:n≠v:=by simpa using h
  refine cM ?_
  repeat(refine⟨by omega,?_⟩)
  refine eZ ?_;refine⟨⟨j+1,bf,fun w hw=>?_⟩,by simp;omega,?_⟩
  ·rw[List.take_add_one,hv]at hw;simp only[Option.toList_some,List.mem_append,List.mem_singleton]at hw;rcases hw with hw|rfl
   ·exact cr w hw
   exact fun e=>hk e.symm
  refine zq rfl ?_ ?_;simp -dsimp only[simprocAttr,↓aa,zp,zc]
  ·exact Sub.int (by simp)
  rfl
 refine aK ?_;simp -dsimp only[bI,ne_eq,Nat.reduceEqDiff,reduceCtorEq];have gi:j=l.length:=by simp at h;omega
 subst gi;refine ay (ai ?_);refine aq ?_;simp -dsimp only[simprocAttr,↓aa,zp,zr,Tryz.results66];rw[List.take_length]at cr;have:l.findIdx (· == n)=l.length:=by
  rw[List.findIdx_eq_length];intro x hx;simpa using cr x hx
 simp[j7,this]
theorem Ab(t:Term)(n:Int)(ht:t.cases.length<=2 ^ 60):bA Tryz.prog 131 [t.enc,aI n] (aI (iK t n)):=by
 have Ma:=pR t.cases n;have hle:t.cases.findIdx (· == n)<=t.cases.length:=List.findIdx_le_length;refine zf true 0 Tryz.func131 Tryz.ntmps131 ?_;dsimp only[Tmp,TypeId,slotsOf];refine ay (ai ?_);refine bV (ai ?_);apply aN rfl<;>intro h
 ·have e:t.kind=2:=by simpa using h
  refine bV (ai ?_);apply aN rfl<;>intro h
  ·have e0:n≠0:=by simpa using h
   refine ay (ai ?_);refine aq ?_;simp -dsimp only[simprocAttr,↓aa,zp,zr,Tryz.results131];simp[iK,e,e0]
  have e0:n=0:=by simpa using h
  refine cj ?_;refine ay (ai ?_);refine aq ?_;simp -dsimp only[simprocAttr,↓aa,zp,zr,Tryz.results131];simp[iK,e,e0]
 have e:t.kind≠2:=by simpa using h
 refine cj ?_;by_cases hf:t.cases.findIdx (· == n)<t.cases.length
 ·have hI:j7 t.cases n=(t.cases.findIdx (· == n):Nat):=by simp[j7,hf]
  rw[hI]at Ma;generalize hq:t.cases.findIdx (· == n)=q at Ma;refine bV ?_;refine zi Ma ?_;refine ai ?_;refine ay (ai ?_);apply aN rfl<;>intro h
  ·refine ay (ai ?_);refine aq ?_;simp -dsimp only[simprocAttr,↓aa,zp,zr,Tryz.results131];simp[iK,e,hq]
  simp at h
 have hI:j7 t.cases n=-1:=by simp[j7,hf]
 rw[hI]at Ma;have hq:t.cases.findIdx (· == n)=t.cases.length:=by omega
 refine bV ?_;refine zi Ma ?_;refine ai ?_;refine ay (ai ?_);apply aN rfl<;>intro h
 ·simp at h
 refine cj ?_;refine ay (ai ?_);refine aq ?_;simp -dsimp only[simprocAttr,↓aa,zp,zr,Tryz.results131];simp[iK,e,hq]
def fk(t:Term):Int:=if t.kind=1 then 1 else if t.kind=2 then 2 else if t.kind=3 then(t.cases.length:Int)+1 else 0
def sR(t:Term):Bool:=decide (t.kind=0) ||(decide (t.kind=2) ||decide (t.kind=3))
def dV(t:Term):Bool:=(decide (0<=t.kind)&&decide (t.kind<=4))&&(((decide ((t.to.length:Int)=fk t)&&(sR t ||decide (t.arg=0)))&&(decide (t.kind=4) ||decide (t.n=0)))&&(decide (t.kind=3) ||decide ((t.cases.length:Int)=0)))
theorem MM(t:Term)(hk:t.kind=0)(gg:t.cases.length<=2 ^ 60):bA Tryz.prog 110 [t.enc] (.v (.bool (dV t))):=by
 have he:fk t=0:=by simp[fk,hk]
 have ha:sR t=true:=by simp[sR,hk]
 unfold dV;rw[he,ha];have h0:decide (t.kind=0)=true:=decide_eq_true hk;have h4:decide (t.kind=4)=false:=decide_eq_false (by omega);have h3:decide (t.kind=3)=false:=decide_eq_false (by omega);have ix:decide (0<=t.kind)=true:=decide_eq_true (by omega);have o8:decide (t.kind<=4)=true:=decide_eq_true (by omega);rw[ix,o8,h3,h4];refine zf true 0 Tryz.func110 Tryz.ntmps110 ?_;dsimp only[Tmp,TypeId,slotsOf];refine ay (ai ?_);refine ay (ai ?_);refine bV (ai ?_);refine ah ?_;refine aQ ?_;simp -dsimp only[simprocAttr,↓aa,zp,h0];refine ai ?_;refine cB rfl ?_;refine cM (ai ?_);cases hA:decide ((t.to.length:Int)=0)<;>cases hB:decide (t.arg=0)<;>cases hC:decide (t.n=0)<;>cases hD:decide ((t.cases.length:Int)=0)
 all_goals
  refine aQ ?_;simp -dsimp only[simprocAttr,↓aa,zp,hA,hB,hC,hD];refine ai ?_;refine aq ?_;simp -dsimp only[simprocAttr,↓aa,zp,zr,Tryz.results110,Bool.true_or,Bool.false_or,Bool.or_true,Bool.or_false,Bool.true_and,Bool.false_and,Bool.and_true,Bool.and_false]
theorem MN(t:Term)(hk:t.kind=1)(gg:t.cases.length<=2 ^ 60):bA Tryz.prog 110 [t.enc] (.v (.bool (dV t))):=by
 have he:fk t=1:=by simp[fk,hk]
 have ha:sR t=false:=by simp[sR,hk]
 unfold dV;rw[he,ha];have h0:decide (t.kind=0)=false:=decide_eq_false (by omega);have h1:decide (t.kind=1)=true:=decide_eq_true hk;have h4:decide (t.kind=4)=false:=decide_eq_false (by omega);have h3:decide (t.kind=3)=false:=decide_eq_false (by omega);have ix:decide (0<=t.kind)=true:=decide_eq_true (by omega);have o8:decide (t.kind<=4)=true:=decide_eq_true (by omega);rw[ix,o8,h3,h4];refine zf true 0 Tryz.func110 Tryz.ntmps110 ?_;dsimp only[Tmp,TypeId,slotsOf];refine ay (ai ?_);refine ay (ai ?_);refine bV (ai ?_);refine ah ?_;refine aQ ?_;simp -dsimp only[simprocAttr,↓aa,zp,h0];refine ai ?_;refine cv rfl ?_;refine aQ ?_;simp -dsimp only[simprocAttr,↓aa,zp,h1];refine ai ?_;refine cB rfl ?_;refine cM (ai ?_);cases hA:decide ((t.to.length:Int)=1)<;>cases hB:decide (t.arg=0)<;>cases hC:decide (t.n=0)<;>cases hD:decide ((t.cases.length:Int)=0)
 all_goals
  refine aQ ?_;simp -dsimp only[simprocAttr,↓aa,zp,hA,hB,hC,hD];refine ai ?_;refine aq ?_;simp -dsimp only[simprocAttr,↓aa,zp,zr,Tryz.results110,Bool.true_or,Bool.false_or,Bool.or_true,Bool.or_false,Bool.true_and,Bool.false_and,Bool.and_true,Bool.and_false]
theorem MO(t:Term)(hk:t.kind=2)(gg:t.cases.length<=2 ^ 60):bA Tryz.prog 110 [t.enc] (.v (.bool (dV t))):=by
 have he:fk t=2:=by simp[fk,hk]
 have ha:sR t=true:=by simp[sR,hk]
 unfold dV;rw[he,ha];have h0:decide (t.kind=0)=false:=decide_eq_false (by omega);have h1:decide (t.kind=1)=false:=decide_eq_false (by omega);have h2:decide (t.kind=2)=true:=decide_eq_true hk;have h4:decide (t.kind=4)=false:=decide_eq_false (by omega);have h3:decide (t.kind=3)=false:=decide_eq_false (by omega);have ix:decide (0<=t.kind)=true:=decide_eq_true (by omega);have o8:decide (t.kind<=4)=true:=decide_eq_true (by omega);rw[ix,o8,h3,h4];refine zf true 0 Tryz.func110 Tryz.ntmps110 ?_;dsimp only[Tmp,TypeId,slotsOf];refine ay (ai ?_);refine ay (ai ?_);refine bV (ai ?_);refine ah ?_;refine aQ ?_;simp -dsimp only[simprocAttr,↓aa,zp,h0];refine ai ?_;refine cv rfl ?_;refine aQ ?_;simp -dsimp only[simprocAttr,↓aa,zp,h1];refine ai ?_;refine cv rfl ?_;refine aQ ?_;simp -dsimp only[simprocAttr,↓aa,zp,h2];refine ai ?_;refine cB rfl ?_;refine cM (ai ?_);cases hA:decide ((t.to.length:Int)=2)<;>cases hB:decide (t.arg=0)<;>cases hC:decide (t.n=0)<;>cases hD:decide ((t.cases.length:Int)=0)
 all_goals
  refine aQ ?_;simp -dsimp only[simprocAttr,↓aa,zp,hA,hB,hC,hD];refine ai ?_;refine aq ?_;simp -dsimp only[simprocAttr,↓aa,zp,zr,Tryz.results110,Bool.true_or,Bool.false_or,Bool.or_true,Bool.or_false,Bool.true_and,Bool.false_and,Bool.and_true,Bool.and_false]
theorem MP(t:Term)(hk:t.kind=3)(gg:t.cases.length<=2 ^ 60):bA Tryz.prog 110 [t.enc] (.v (.bool (dV t))):=by
 have he:fk t=(t.cases.length:Int)+1:=by simp[fk,hk]
 have ha:sR t=true:=by simp[sR,hk]
 unfold dV;rw[he,ha];have h0:decide (t.kind=0)=false:=decide_eq_false (by omega);have h1:decide (t.kind=1)=false:=decide_eq_false (by omega);have h2:decide (t.kind=2)=false:=decide_eq_false (by omega);have h3:decide (t.kind=3)=true:=decide_eq_true hk;have h4:decide (t.kind=4)=false:=decide_eq_false (by omega);have ix:decide (0<=t.kind)=true:=decide_eq_true (by omega);have o8:decide (t.kind<=4)=true:=decide_eq_true (by omega);rw[ix,o8,h3,h4];refine zf true 0 Tryz.func110 Tryz.ntmps110 ?_;dsimp only[Tmp,TypeId,slotsOf];refine ay (ai ?_);refine ay (ai ?_);refine bV (ai ?_);refine ah ?_;refine aQ ?_;simp -dsimp only[simprocAttr,↓aa,zp,h0];refine ai ?_;refine cv rfl ?_;refine aQ ?_;simp -dsimp only[simprocAttr,↓aa,zp,h1];refine ai ?_;refine cv rfl ?_;refine aQ ?_;simp -dsimp only[simprocAttr,↓aa,zp,h2];refine ai ?_;refine cv rfl ?_;refine aQ ?_;simp -dsimp only[simprocAttr,↓aa,zp,h3];refine ai ?_;refine cB rfl ?_;refine cM ?_
 repeat(refine⟨by omega,?_⟩)
 refine ai ?_;cases hA:decide ((t.to.length:Int)=(t.cases.length:Int)+1)<;>cases hB:decide (t.arg=0)<;>cases hC:decide (t.n=0)<;>cases hD:decide ((t.cases.length:Int)=0)
 all_goals
  refine aQ ?_;simp -dsimp only[simprocAttr,↓aa,zp,hA,hB,hC,hD];refine ai ?_;refine aq ?_;simp -dsimp only[simprocAttr,↓aa,zp,zr,Tryz.results110,Bool.true_or,Bool.false_or,Bool.or_true,Bool.or_false,Bool.true_and,Bool.false_and,Bool.and_true,Bool.and_false]
theorem MQ(t:Term)(hk:t.kind=4)(gg:t.cases.length<=2 ^ 60):bA Tryz.prog 110 [t.enc] (.v (.bool (dV t))):=by
 have he:fk t=0:=by simp[fk,hk]
 have ha:sR t=false:=by simp[sR,hk]
 unfold dV;rw[he,ha];have h0:decide (t.kind=0)=false:=decide_eq_false (by omega);have h1:decide (t.kind=1)=false:=decide_eq_false (by omega);have h2:decide (t.kind=2)=false:=decide_eq_false (by omega);have h3:decide (t.kind=3)=false:=decide_eq_false (by omega);have h4:decide (t.kind=4)=true:=decide_eq_true hk;have ix:decide (0<=t.kind)=true:=decide_eq_true (by omega);have o8:decide (t.kind<=4)=true:=decide_eq_true (by omega);rw[ix,o8,h3,h4];refine zf true 0 Tryz.func110 Tryz.ntmps110 ?_;dsimp only[Tmp,TypeId,slotsOf];refine ay (ai ?_);refine ay (ai ?_);refine bV (ai ?_);refine ah ?_;refine aQ ?_;simp -dsimp only[simprocAttr,↓aa,zp,h0];refine ai ?_;refine cv rfl ?_;refine aQ ?_;simp -dsimp only[simprocAttr,↓aa,zp,h1];refine ai ?_;refine cv rfl ?_;refine aQ ?_;simp -dsimp only[simprocAttr,↓aa,zp,h2];refine ai ?_;refine cv rfl ?_;refine aQ ?_;simp -dsimp only[simprocAttr,↓aa,zp,h3];refine ai ?_;refine cv rfl ?_;refine aQ ?_;simp -dsimp only[simprocAttr,↓aa,zp,h4];refine ai ?_;refine cB rfl ?_;refine cM (ai ?_);cases hA:decide ((t.to.length:Int)=0)<;>cases hB:decide (t.arg=0)<;>cases hC:decide (t.n=0)<;>cases hD:decide ((t.cases.length:Int)=0)
 all_goals
  refine aQ ?_;simp -dsimp only[simprocAttr,↓aa,zp,hA,hB,hC,hD];refine ai ?_;refine aq ?_;simp -dsimp only[simprocAttr,↓aa,zp,zr,Tryz.results110,Bool.true_or,Bool.false_or,Bool.or_true,Bool.or_false,Bool.true_and,Bool.false_and,Bool.and_true,Bool.and_false]
theorem BG(t:Term)(hk:¬(0<=t.kind∧t.kind<=4)):bA Tryz.prog 110 [t.enc] (.v (.bool (dV t))):=by
 have hr:dV t=false:=by
  unfold dV;have:(decide (0<=t.kind)&&decide (t.kind<=4))=false:=by
   by_cases h0:0<=t.kind<;>by_cases h4:t.kind<=4<;>simp[h0,h4]<;>omega
  rw[this];rfl
 rw[hr];have h0:decide (t.kind=0)=false:=decide_eq_false (by omega);have h1:decide (t.kind=1)=false:=decide_eq_false (by omega);have h2:decide (t.kind=2)=false:=decide_eq_false (by omega);have h3:decide (t.kind=3)=false:=decide_eq_false (by omega);have h4:decide (t.kind=4)=false:=decide_eq_false (by omega);refine zf true 0 Tryz.func110 Tryz.ntmps110 ?_;dsimp only[Tmp,TypeId,slotsOf];refine ay (ai ?_);refine ay (ai ?_);refine bV (ai ?_);refine ah ?_;refine aQ ?_;simp -dsimp only[simprocAttr,↓aa,zp,h0];refine ai ?_;refine cv rfl ?_;refine aQ ?_;simp -dsimp only[simprocAttr,↓aa,zp,h1];refine ai ?_;refine cv rfl ?_;refine aQ ?_;simp -dsimp only[simprocAttr,↓aa,zp,h2];refine ai ?_;refine cv rfl ?_;refine aQ ?_;simp -dsimp only[simprocAttr,↓aa,zp,h3];refine ai ?_;refine cv rfl ?_;refine aQ ?_;simp -dsimp only[simprocAttr,↓aa,zp,h4];refine ai ?_;refine cv rfl ?_;refine ay (ai ?_);refine aq ?_;simp -dsimp only[simprocAttr,↓aa,zp,zr,Tryz.results110]
theorem DS(t:Term)(gg:t.cases.length<=2 ^ 60):bA Tryz.prog 110 [t.enc] (.v (.bool (dV t))):=by
 by_cases hk:0<=t.kind∧t.kind<=4
 ·rcases(show t.kind=0∨t.kind=1∨t.kind=2∨t.kind=3∨t.kind=4 by omega)with h|h|h|h|h
  ·exact MM t h gg
  ·exact MN t h gg
  ·exact MO t h gg
  ·exact MP t h gg
  exact MQ t h gg
 exact BG t hk
def nP(l:List Int)(n:Int):Bool:=decide (l.findIdx (· == n)<l.length)
theorem pk(l:List Int)(n:Int):bA Tryz.prog 39 [aJ l,aI n] (.v (.bool (nP l n))):=by
 have Ma:=pR l n;have hd:decide (0<=j7 l n)=nP l n:=by
  unfold j7 nP;by_cases h:l.findIdx (· == n)<l.length
  ·rw[if_pos h];simp[h]
  rw[if_neg h];simp[h]
 generalize j7 l n=r at *;refine zf true 0 Tryz.func39 Tryz.ntmps39 ?_;dsimp only[Tmp,TypeId,slotsOf];refine ay (ai ?_);refine ay ?_;refine .inl ⟨_,Ma,by simp only[av,ae.upto,zt,zu,ax],ao ?_⟩;simp -dsimp only[simprocAttr,↓aa,zp,hd];refine ai ?_;refine aq ?_;simp -dsimp only[simprocAttr,↓aa,zp,zr,Tryz.results39]
theorem vW{u:cd}{m:Mach}{O:List ak}(bB:∀o∈O,o.upto O.length)(h0:O[2]?=some (.cells (aB u m)))(size fill:SV)(hs:SV.bj O.length size)(hf:SV.bj O.length fill)(h1:0<=m.left)(h2:m.left<=2 ^ 40)(rM:m.short=false)
  (cq:∀x,((m.bJ size fill).2.1).arr≠some x) :
  bd Tryz.prog 154 O [.mp 2 0,size.enc,fill.enc] (fun r O'=>r=.cw [(m.bJ size fill).2.1.enc,aI (m.bJ size fill).2.2]∧O'=O.set 2 (.cells (aB u (m.bJ size fill).1))):=by
 have gL:O.set 2 (.cells (aB u m))=O:=by
  obtain⟨bf,e⟩:=List.getElem?_eq_some_iff.1 h0;rw[<-e,List.set_getElem_self]
 by_cases hk:size.kind=0
 ·by_cases hn:size.n<0∨1024<size.n
  ·have hd:decide (size.kind=0)=true:=decide_eq_true hk;rcases(show size.n<0∨(¬size.n<0∧1024<size.n) by omega)with nS|⟨nS,vR⟩
   ·have wu:decide (size.n<0)=true:=decide_eq_true nS;refine zf true O.length Tryz.func154 Tryz.ntmps154 ?_;dsimp only[Tmp,TypeId,slotsOf];refine ay (ai ?_);refine aH (ah ?_);refine aQ ?_;simp -dsimp only[simprocAttr,↓aa,zp,hd];refine ai ?_;refine cv rfl ?_;refine aQ ?_;simp -dsimp only[simprocAttr,↓aa,zp,wu];refine ai ?_;refine cB rfl ?_;refine ay (ai ?_);refine aq ?_;simp -dsimp only[simprocAttr,↓aa,zp,zr,Tryz.results154,ck];refine⟨bB,fu,?_⟩;simp[Mach.bJ,hk,hn,gL]
   have wu:decide (size.n<0)=false:=decide_eq_false nS;have oM:decide (1024<size.n)=true:=decide_eq_true vR;refine zf true O.length Tryz.func154 Tryz.ntmps154 ?_;dsimp only[Tmp,TypeId,slotsOf];refine ay (ai ?_);refine aH (ah ?_);refine aQ ?_;simp -dsimp only[simprocAttr,↓aa,zp,hd];refine ai ?_;refine cv rfl ?_;refine aQ ?_;simp -dsimp only[simprocAttr,↓aa,zp,wu,oM];refine ai ?_;refine cB rfl ?_;refine ay (ai ?_);refine aq ?_;simp -dsimp only[simprocAttr,↓aa,zp,zr,Tryz.results154,ck];refine⟨bB,fu,?_⟩;simp[Mach.bJ,hk,hn,gL]
  have hd:decide (size.kind=0)=true:=decide_eq_true hk;have wu:decide (size.n<0)=false:=decide_eq_false (by omega);have oM:decide (1024<size.n)=false:=decide_eq_false (by omega);by_cases hp:m.left<size.n
  ·have lD:(m.fG size.n).short=true:=by simp[Mach.fG,hp]
   have wy:=bd.frame (vn bB h0 size.n h1 h2 (by omega)) (by simp) ⟨I h0,trivial,trivial⟩ bB;have FL:=dk h0 (.cells (aB u (m.fG size.n)));have dT:=bq bB h0 (ds:=aB u (m.fG size.n)) (fun h=>bS h (oU m size.n));obtain⟨O1,dH⟩:∃O1,O1=O.set 2 (.cells (aB u (m.fG size.n))):=⟨_,rfl⟩
   have hlen:O.length=O1.length:=by rw[dH];simp
   have eh:(m.bJ size fill)=(m.fG size.n,.zero,0):=by simp[Mach.bJ,hk,hn,lD]
   rw[eh];simp only[<-dH]at wy FL dT ⊢;have CT:∀X,(O1++X)[2]?=some (.cells (aB u (m.fG size.n))):=fun X=>cm FL;unfold aB at CT;rw[lD]at CT;rw[hlen]at dT;refine zf true O.length Tryz.func154 Tryz.ntmps154 ?_;dsimp only[Tmp,TypeId,slotsOf];refine ay (ai ?_);refine aH (ah ?_);refine aQ ?_;simp -dsimp only[simprocAttr,↓aa,zp,hd];refine ai ?_;refine cv rfl ?_;refine aQ ?_;simp -dsimp only[simprocAttr,↓aa,zp,wu,oM];refine ai ?_;refine cv rfl ?_;refine kp ?_;refine ay ?_;refine .inr (.inl ⟨_,_,wy _,.inl (ao (zj ?_))⟩);refine ai ?_;refine c7 ?_;simp -dsimp only[simprocAttr,↓aa,zp,CT];refine ai ?_;refine cB rfl ?_;refine aQ ?_;simp -dsimp only[simprocAttr,↓aa,zp,hlen];refine ai ?_;refine aq ?_;simp -dsimp only[simprocAttr,↓aa,zp,zr,Tryz.results154,ck,hlen];exact⟨dT,fu⟩
  exfalso;have lD:(m.fG size.n).short=false:=by simp[Mach.fG,hp,rM]
  refine cq (m.next+8) ?_;simp[Mach.bJ,hk,hn,lD,SV.arr]
 have hd:decide (size.kind=0)=false:=decide_eq_false hk;refine zf true O.length Tryz.func154 Tryz.ntmps154 ?_;dsimp only[Tmp,TypeId,slotsOf];refine ay (ai ?_);refine aH (ah ?_);refine aQ ?_;simp -dsimp only[simprocAttr,↓aa,zp,hd];refine ai ?_;refine cB rfl ?_;refine ay (ai ?_);refine aq ?_;simp -dsimp only[simprocAttr,↓aa,zp,zr,Tryz.results154,ck];refine⟨bB,fu,?_⟩;simp[Mach.bJ,hk,gL]
theorem oZ{O X:List ak}{k:Nat}:(O++X).take (O.length+k)=O++X.take k:=by
 rw[List.take_append,List.take_of_length_le (by omega),Nat.add_sub_cancel_left]
def tm(v:SV)(n k:Nat):List ae:=List.replicate k v.enc++List.replicate (n-k) (.agg [aI 0,aI 0,.aA 4 [] .ex,.v (.pointer none)])
theorem BA{v:SV}{n k:Nat}(h:k<=n):(tm v n k).length=n:=by
 simp[tm];omega
theorem vw{v:SV}{n k:Nat}:∀x∈tm v n k,x.cells.length=4:=fun x hx=>by
 simp only[tm,List.mem_append,List.mem_replicate]at hx;rcases hx with⟨_,rfl⟩|⟨_,rfl⟩
 ·exact v.cZ
 rfl
theorem GI(v:SV)(n:Nat):an (tm v n 0)=(List.replicate n [aI 0,aI 0,.aA 4 [] .ex,.v (.pointer none)]).flatten:=by
 simp[tm,an,List.flatMap,ae.cells]
theorem GH{v:SV}{n k:Nat}(h:k<n):(tm v n k).set k v.enc=tm v n (k+1):=by
 obtain⟨j,hj⟩:∃j,n-k=j+1:=⟨n-k-1,by omega⟩
 unfold tm;rw[hj,show n-(k+1)=j by omega,List.set_append_right _ _ (by simp),List.replicate_succ' (n:=k)];simp[List.replicate_succ]
theorem JD(v:SV)(n:Nat):tm v n n=(List.replicate n v).map SV.enc:=by simp[tm]
theorem zO{u:cd}{m:Mach}{O:List ak}(bB:∀o∈O,o.upto O.length)(h0:O[2]?=some (.cells (aB u m)))(size fill:SV)(hs:SV.bj O.length size)(hf:SV.bj O.length fill)(h1:0<=m.left)(h2:m.left<=2 ^ 40)(rM:m.short=false)
  (hk:size.kind=0) (nS:0<=size.n) (vR:size.n<=1024) (hp:size.n<=m.left) :
  bd Tryz.prog 154 O [.mp 2 0,size.enc,fill.enc] (fun r O'=>r=.cw [.agg [aI 3,aI 0,.aA 4 [] .sh,.mp (O.length+4) 0],aI 0]∧O'=O.set 2 (.cells (aB u (m.fG size.n))) ++
   [.gone,.gone,.cells [aI 3,aI 0,.aA 4 [] .ex,.mp (O.length+4) 0],.cells (an ((List.replicate size.n.toNat fill).map SV.enc)),.cells [.ms (O.length+3) 0 size.n.toNat size.n.toNat]]):=by
 have hd:decide (size.kind=0)=true:=decide_eq_true hk;have wu:decide (size.n<0)=false:=decide_eq_false (by omega);have oM:decide (1024<size.n)=false:=decide_eq_false (by omega);have lD:(m.fG size.n).short=false:=by simp[Mach.fG,rM,show ¬m.left<size.n by omega]
 have wy:=bd.frame (vn bB h0 size.n h1 h2 (by omega)) (by simp) ⟨I h0,trivial,trivial⟩ bB;have FL:=dk h0 (.cells (aB u (m.fG size.n)));have dT:=bq bB h0 (ds:=aB u (m.fG size.n)) (fun h=>bS h (oU m size.n));obtain⟨O1,dH⟩:∃O1,O1=O.set 2 (.cells (aB u (m.fG size.n))):=⟨_,rfl⟩
 have hlen:O.length=O1.length:=by rw[dH];simp
 simp only[<-dH]at wy FL dT ⊢;have CT:∀X,(O1++X)[2]?=some (.cells (aB u (m.fG size.n))):=fun X=>cm FL;unfold aB at CT;rw[lD]at CT;rw[hlen]at dT;obtain⟨n,hn⟩:∃n:Nat,size.n=n:=⟨size.n.toNat,by omega⟩
 refine zf true (O.length+5) Tryz.func154 Tryz.ntmps154 ?_;dsimp only[Tmp,TypeId,slotsOf];refine ay (ai ?_);refine bU 4 0 ([aI size.kind,aI size.n,.aA 4 (size.list.map SV.enc) .sh,eP size.arr]) rfl rfl (by simp only[List.map_cons,List.map_nil,cD,bW,dA,dB,dz,dx,dy,cf]) ?_;simp -dsimp only[simprocAttr,↓aa,zp];refine bU 5 1 ([aI fill.kind,aI fill.n,.aA 4 (fill.list.map SV.enc) .sh,eP fill.arr]) rfl rfl (by simp only[List.map_cons,List.map_nil,cD,bW,dA,dB,dz,dx,dy,cf]) ?_;simp -dsimp only[simprocAttr,↓aa,zp];refine aH (ah ?_);refine aQ ?_;simp -dsimp only[simprocAttr,↓aa,zp,hd];refine ai ?_;apply aN rfl<;>intro h
 ·cases h
 refine aQ ?_;simp -dsimp only[simprocAttr,↓aa,zp,wu,oM];refine ai ?_;apply aN rfl<;>intro h
 ·cases h
 refine kp ?_;refine ay ?_;refine .inr (.inl ⟨_,_,wy _,.inl (ao (zj ?_))⟩);refine ai ?_;refine c7 ?_;simp -dsimp only[simprocAttr,↓aa,zp,CT];refine ai ?_;apply aN rfl<;>intro h
 ·cases h
 refine cj ?_;refine aQ ?_;simp -dsimp only[simprocAttr,↓aa,zp,hlen,hn]
 repeat(refine⟨by omega,?_⟩)
 refine ai ?_;refine c7 ?_;simp -dsimp only[simprocAttr,↓aa,zp,hlen,hn];refine ai ?_;refine ah (aL (ι:={j:Nat // j<=n}) (fun j=>⟨48,[(5,.ip none [aI fill.kind,aI fill.n,.aA 4 (fill.list.map SV.enc) .sh,eP fill.arr]),(6,.mp (O1.length+2) 0),(7,aI 0),(8,.mp (O1.length+4) 0),(38,aI n),(39,aI j.1)],O1++[.gone,.gone,.cells [aI 0,aI 0,.aA 4 [] .ex,.v (.pointer none)],.cells (an (tm fill n j.1)),.cells [.ms (O1.length+3) 0 n n]]⟩) (fun j=>n-j.1) ⟨0,by omega⟩ ?_ ?_)
 ·refine zq rfl ?_ ?_;simp -dsimp only[simprocAttr,↓aa,zp,zc];rw[GI]
 rintro⟨j,hj⟩;refine ay (ai ?_);apply gJ rfl<;>intro h
 ·refine cj ?_;have bf:j<n:=by simpa using h
  have da:=bz (vw (v:=fill) (n:=n) (k:=j));rw[BA hj]at da;have gL:=mq (vw (v:=fill) (n:=n) (k:=j)) (k:=j) (by rw[BA hj];exact bf) fill.cZ;rw[GH bf,SV.aj]at gL;refine aH (ah ?_);refine ay (ai ?_);refine jX ?_;simp -dsimp only[simprocAttr,↓aa,zp,da,gL]
  repeat(refine⟨by omega,?_⟩)
  refine ai ?_;refine cM ?_
  repeat(refine⟨by omega,?_⟩)
  refine eZ ?_;refine⟨⟨j+1,bf⟩,by simp;omega,?_⟩;refine zq rfl ?_ ?_;simp -dsimp only[simprocAttr,↓aa,zp,zc]
  ·exact Sub.int (by simp)
  rfl
 refine aK ?_;simp -dsimp only[bI,ne_eq,Nat.reduceEqDiff,reduceCtorEq];have rL:j=n:=by simp at h;omega
 subst rL;refine ay (ai ?_);refine aq ?_;simp -dsimp only[simprocAttr,↓aa,zp,zr,Tryz.results154,hlen];have Y5:size.n.toNat=j:=by omega
 have fL:∀v∈List.replicate j fill,SV.bj (O1.length+5) v:=fun v hv=>by
  rw[(List.mem_replicate.1 hv).2];exact hf.mono (by omega)
 rw[oZ,Y5,JD];refine⟨fun o ho=>?_,by simp[av,ae.upto],rfl⟩;rcases List.mem_append.1 ho with ho|ho
 ·exact ak.b8 (by omega) (dT o ho)
 have hc:=SV.jj fL;simp only[List.take_succ_cons,List.take_zero,List.mem_cons,List.mem_nil_iff,or_false]at ho;rcases ho with rfl|rfl|rfl|rfl|rfl
 ·trivial
 ·trivial
 ·simp[ak.upto,av,ae.upto]
 ·exact hc
 simp[ak.upto,av,ae.upto]
theorem kS{O X:List ak}{k:Nat}{x y:ak}(h:O[k]?=some x):(O++X).set k y=O.set k y++X:=by
 rw[List.set_append_left _ _ (I h)]
theorem l8{O:List ak}{k:Nat}{x:ak}(h:O[k]?=some x):O.set k x=O:=by
 obtain⟨bf,e⟩:=List.getElem?_eq_some_iff.1 h;rw[<-e,List.set_getElem_self]
theorem yr{u:cd}{m:Mach}{O:List ak}(bB:∀o∈O,o.upto O.length)(h0:O[2]?=some (.cells (aB u m)))(uU:O[3]?=some (.spare m.out.length))(i:Ins)(args:List SV)(hl:∀v∈args,SV.bj O.length v)
  (jQ:i.op=15) (x:SV) (hx:args[0]?=some x) (ho:m.out.length<=1000) :
  bd Tryz.prog 137 O [.mp 2 0,i.enc,.aA 4 (args.map SV.enc) .sh] (fun r O'=>r=.cw [(m.effect i args).2.1.enc,aI (m.effect i args).2.2]∧O'=(O.set 3 (.spare (m.effect i args).1.out.length)).set 2 (.cells (aB u (m.effect i args).1))):=by
 have uH:=fC hx;have kJ:decide (i.op=15)=true:=decide_eq_true jQ;have eF:(O.set 3 (.spare m.out.length)).set 2 (.cells (aB u m))=O:=by rw[l8 uU,l8 h0]
 have Ep:∀X,(O++X)[2]?=some (.cells (aB u m)):=fun X=>cm h0;have FM:∀X,(O++X)[3]?=some (.spare m.out.length):=fun X=>cm uU;unfold aB at Ep;by_cases hk:x.kind=0
 ·have hd:decide (x.kind=0)=true:=decide_eq_true hk;by_cases hf:m.out.length=1000
  ·have PK:decide ((m.out.length:Int)=1000)=true:=decide_eq_true (by omega);have eh:m.effect i args=(m,.zero,6):=by simp[Mach.effect,jQ,uH,hk,hf]
   rw[eh];refine zf true O.length Tryz.func137 Tryz.ntmps137 ?_;dsimp only[Tmp,TypeId,slotsOf];refine ay (ai ?_);refine bU 4 0 ([aI i.to,aI i.op,aI i.n,aJ i.args]) rfl rfl (by rfl) ?_;simp -dsimp only[simprocAttr,↓aa,zp];refine c7 ?_;simp -dsimp only[simprocAttr,↓aa,zp,kJ];refine ai ?_;refine ah ?_;refine aQ ?_;simp -dsimp only[simprocAttr,↓aa,zp,kJ];refine ai ?_;refine cB rfl ?_;refine c7 ?_;simp -dsimp only[simprocAttr,↓aa,zp,hx,hd];refine ai ?_;refine cv rfl ?_;refine cj ?_;refine c7 ?_;simp -dsimp only[simprocAttr,↓aa,zp,Ep,PK];refine ai ?_;refine cB rfl ?_;refine ay (ai ?_);refine aq ?_;simp -dsimp only[simprocAttr,↓aa,zp,zr,Tryz.results137,ck,eF];exact⟨bB,fu⟩
  have PK:decide ((m.out.length:Int)=1000)=false:=decide_eq_false (by omega);have eh:m.effect i args=({ m with out:=m.out++[x.n] },.word 0,0):=by simp[Mach.effect,jQ,uH,hk,hf]
  rw[eh];obtain⟨m',dS⟩:∃m',m' = { m with out:=m.out++[x.n] }:=⟨_,rfl⟩
  have Ml:=br (k:=2) (j:=3) (y:=.spare (m.out.length+1)) h0 (by omega);have hp:[bc u.fns,aI u.main,.os m.sid m.frames.length 1,aI m.left,.v (.bool m.short),.v (.bool m.over),.aA 1 (m.out.map aI++[aI x.n]) (.tok 3),aI m.fin,aI m.val]=aB u m':=by
   rw[dS];simp[aB]
  obtain⟨O2,tu⟩:∃O2,O2=(O.set 3 (.spare (m.out.length+1))).set 2 (.cells (aB u m')):=⟨_,rfl⟩
  have hlen:O.length=O2.length:=by rw[tu];simp
  have fb:∀o∈O2,o.upto O2.length:=by
   rw[<-hlen,tu];exact bq (bt bB trivial) Ml (fun h=>bS h (by rw[dS]))
  have e1:∀X,(O++X).set 3 (.spare (m.out.length+1))=O.set 3 (.spare (m.out.length+1))++X:=fun X=>kS uU;have e2:∀X y,(O.set 3 (.spare (m.out.length+1))++X).set 2 y=(O.set 3 (.spare (m.out.length+1))).set 2 y++X:=fun X y=>kS Ml;have e3:∀X,(O.set 3 (.spare (m.out.length+1))++X)[2]?=some (.cells (aB u m)):=fun X=>cm Ml;unfold aB at e3;have Ot:m'.out.length=m.out.length+1:=by rw[dS];simp
  rw[<-dS];simp only[Ot,<-tu];refine zf true O.length Tryz.func137 Tryz.ntmps137 ?_;dsimp only[Tmp,TypeId,slotsOf];refine ay (ai ?_);refine bU 4 0 ([aI i.to,aI i.op,aI i.n,aJ i.args]) rfl rfl (by rfl) ?_;simp -dsimp only[simprocAttr,↓aa,zp];refine c7 ?_;simp -dsimp only[simprocAttr,↓aa,zp,kJ];refine ai ?_;refine ah ?_;refine aQ ?_;simp -dsimp only[simprocAttr,↓aa,zp,kJ];refine ai ?_;refine cB rfl ?_;refine c7 ?_;simp -dsimp only[simprocAttr,↓aa,zp,hx,hd];refine ai ?_;refine cv rfl ?_;refine cj ?_;refine c7 ?_;simp -dsimp only[simprocAttr,↓aa,zp,Ep,PK];refine ai ?_;refine cv rfl ?_;refine cj ?_;refine aQ ?_;simp -dsimp only[simprocAttr,↓aa,zp,Ep,hx,FM,e1,e2,e3,hp,<-tu]
  repeat(refine⟨by omega,?_⟩)
  refine⟨ob (by kernel_rfl),?_⟩;refine ai ?_;refine aQ ?_;simp -dsimp only[simprocAttr,↓aa,zp,hlen];refine .inl ⟨_,cO 0,by simp only[av,ae.upto,zt,zu,ax],ao ?_⟩;simp -dsimp only[simprocAttr,↓aa,zp,dd];refine ai ?_;refine aq ?_;simp -dsimp only[simprocAttr,↓aa,zp,zr,Tryz.results137,eV,hlen];exact⟨fb,lv⟩
 have hd:decide (x.kind=0)=false:=decide_eq_false hk;have eh:m.effect i args=(m,.zero,5):=by simp[Mach.effect,jQ,uH,hk]
 rw[eh];refine zf true O.length Tryz.func137 Tryz.ntmps137 ?_;dsimp only[Tmp,TypeId,slotsOf];refine ay (ai ?_);refine bU 4 0 ([aI i.to,aI i.op,aI i.n,aJ i.args]) rfl rfl (by rfl) ?_;simp -dsimp only[simprocAttr,↓aa,zp];refine c7 ?_;simp -dsimp only[simprocAttr,↓aa,zp,kJ];refine ai ?_;refine ah ?_;refine aQ ?_;simp -dsimp only[simprocAttr,↓aa,zp,kJ];refine ai ?_;refine cB rfl ?_;refine c7 ?_;simp -dsimp only[simprocAttr,↓aa,zp,hx,hd];refine ai ?_;refine cB rfl ?_;refine ay (ai ?_);refine aq ?_;simp -dsimp only[simprocAttr,↓aa,zp,zr,Tryz.results137,ck,eF];exact⟨bB,fu⟩
theorem Ai{u:cd}{m:Mach}{O:List ak}(bB:∀o∈O,o.upto O.length)(h0:O[2]?=some (.cells (aB u m)))(i:Ins)(size fill:SV)(hs:SV.bj O.length size)(hf:SV.bj O.length fill)
  (jQ:i.op=16) (h1:0<=m.left) (h2:m.left<=2 ^ 40) (rM:m.short=false) (cq:∀x,((m.bJ size fill).2.1).arr≠some x) :
  bd Tryz.prog 137 O [.mp 2 0,i.enc,.aA 4 [size.enc,fill.enc] .sh] (fun r O'=>r=.cw [(m.bJ size fill).2.1.enc,aI (m.bJ size fill).2.2]∧O'=O.set 2 (.cells (aB u (m.bJ size fill).1))):=by
 have kJ:decide (i.op=15)=false:=decide_eq_false (by omega);have o7:decide (i.op=16)=true:=decide_eq_true (by omega);have dr:=bd.frame (vW bB h0 size fill hs hf h1 h2 rM cq) (by simp) ⟨I h0,hs.aO,hf.aO,trivial⟩ bB;have VW:(m.bJ size fill).1.sid=m.sid:=by
  unfold Mach.bJ
  repeat' split
  all_goals first|rfl|exact oU _ _
 have dT:=bq bB h0 (ds:=aB u (m.bJ size fill).1) (fun h=>bS h VW);have pQ:SV.bj O.length (m.bJ size fill).2.1:=by
  have:∀r:Mach×SV×Int,r=m.bJ size fill->r.2.1=SV.zero∨∃x,r.2.1.arr=some x:=fun r hr=>by
   subst hr;unfold Mach.bJ
   repeat' split
   all_goals first|exact .inl rfl|exact .inr ⟨_,rfl⟩
  rcases this _ rfl with e|⟨x,e⟩
  ·rw[e];exact qf _
  exact absurd e (cq x)
 generalize m.bJ size fill=R at *;obtain⟨O1,dH⟩:∃O1,O1=O.set 2 (.cells (aB u R.1)):=⟨_,rfl⟩
 have hlen:O.length=O1.length:=by rw[dH];simp
 simp only[<-dH]at dr dT ⊢;rw[hlen]at dT pQ;refine zf true O.length Tryz.func137 Tryz.ntmps137 ?_;dsimp only[Tmp,TypeId,slotsOf];refine ay (ai ?_);refine bU 4 0 ([aI i.to,aI i.op,aI i.n,aJ i.args]) rfl rfl (by rfl) ?_;simp -dsimp only[simprocAttr,↓aa,zp];refine bV (ai ?_);refine ah ?_;refine aQ ?_;simp -dsimp only[simprocAttr,↓aa,zp,kJ];refine ai ?_;refine cv rfl ?_;refine aQ ?_;simp -dsimp only[simprocAttr,↓aa,zp,o7];refine ai ?_;refine cB rfl ?_;refine ay ?_;refine .inr (.inl ⟨_,_,dr _,.inl (ao ?_)⟩);simp -dsimp only[simprocAttr,↓aa,zp,hlen];refine⟨ob (by kernel_rfl),?_⟩;refine ai ?_;refine aq ?_;simp -dsimp only[simprocAttr,↓aa,zp,zr,Tryz.results137,hlen];exact⟨dT,vv pQ⟩
theorem FE{u:cd}{m:Mach}{O:List ak}(bB:∀o∈O,o.upto O.length)(h0:O[2]?=some (.cells (aB u m)))(i:Ins)(size fill:SV)(hs:SV.bj O.length size)(hf:SV.bj O.length fill)
  (jQ:i.op=16) (h1:0<=m.left) (h2:m.left<=2 ^ 40) (rM:m.short=false) (hk:size.kind=0) (nS:0<=size.n) (vR:size.n<=1024) (hp:size.n<=m.left) :
  bd Tryz.prog 137 O [.mp 2 0,i.enc,.aA 4 [size.enc,fill.enc] .sh] (fun r O'=>r=.cw [.agg [aI 3,aI 0,.aA 4 [] .sh,.mp (O.length+6) 0],aI 0]∧O'=O.set 2 (.cells (aB u (m.fG size.n))) ++
   [.gone,.cells [aI 3,aI 0,.aA 4 [] .sh,.mp (O.length+6) 0],.gone,.gone,.cells [aI 3,aI 0,.aA 4 [] .ex,.mp (O.length+6) 0],.cells (an ((List.replicate size.n.toNat fill).map SV.enc)),.cells [.ms (O.length+5) 0 size.n.toNat size.n.toNat]]):=by
 have kJ:decide (i.op=15)=false:=decide_eq_false (by omega);have o7:decide (i.op=16)=true:=decide_eq_true (by omega);have F8:∀o∈O++[.gone,.cells [aI 0,aI 0,.aA 4 [] .ex,.v (.pointer none)]],o.upto (O++[ak.gone,.cells [aI 0,aI 0,.aA 4 [] .ex,.v (.pointer none)]]).length:=fun o ho=>by
  rcases List.mem_append.1 ho with ho|ho
  ·exact ak.b8 (by simp) (bB o ho)
  simp only[List.mem_cons,List.mem_nil_iff,or_false]at ho;rcases ho with rfl|rfl
  ·trivial
  simp[ak.upto,av,ae.upto]
 have VA:(O++[ak.gone,.cells [aI 0,aI 0,.aA 4 [] .ex,.v (.pointer none)]]).length=O.length+2:=by simp
 have dr:=zO F8 (cm h0) size fill (hs.mono (by simp)) (hf.mono (by simp)) h1 h2 rM hk nS vR hp;have FL:=dk h0 (.cells (aB u (m.fG size.n)));have dT:=bq bB h0 (ds:=aB u (m.fG size.n)) (fun h=>bS h (oU m size.n));rw[kS h0,VA]at dr;obtain⟨O1,dH⟩:∃O1,O1=O.set 2 (.cells (aB u (m.fG size.n))):=⟨_,rfl⟩
 have hlen:O.length=O1.length:=by rw[dH];simp
 simp only[<-dH]at dr dT ⊢;rw[hlen]at dT;have fL:∀v∈List.replicate size.n.toNat fill,SV.bj (O1.length+7) v:=fun v hv=>by
  rw[(List.mem_replicate.1 hv).2];exact hf.mono (by omega)
 have hc:=SV.jj fL;generalize da:an ((List.replicate size.n.toNat fill).map SV.enc)=row at *;refine zf true (O.length+7) Tryz.func137 Tryz.ntmps137 ?_;dsimp only[Tmp,TypeId,slotsOf];refine ay (ai ?_);refine bU 4 0 ([aI i.to,aI i.op,aI i.n,aJ i.args]) rfl rfl (by rfl) ?_;simp -dsimp only[simprocAttr,↓aa,zp];refine bV (ai ?_);refine ah ?_;refine aQ ?_;simp -dsimp only[simprocAttr,↓aa,zp,kJ];refine ai ?_;refine cv rfl ?_;refine aQ ?_;simp -dsimp only[simprocAttr,↓aa,zp,o7];refine ai ?_;refine cB rfl ?_;refine ay ?_;refine .inr (.inl ⟨_,_,dr,.inl (ao ?_)⟩);simp -dsimp only[simprocAttr,↓aa,zp,hlen];refine⟨ob (by kernel_rfl),?_⟩;refine ai ?_;refine aq ?_;simp -dsimp only[simprocAttr,↓aa,zp,zr,Tryz.results137,hlen];rw[oZ];refine⟨fun o ho=>?_,by simp[av,ae.upto],rfl⟩;rcases List.mem_append.1 ho with ho|ho
 ·exact ak.b8 (by omega) (dT o ho)
 simp only[List.take_succ_cons,List.take_zero,List.mem_cons,List.mem_nil_iff,or_false]at ho;rcases ho with rfl|rfl|rfl|rfl|rfl|rfl|rfl
 ·trivial
 ·simp[ak.upto,av,ae.upto]
 ·trivial
 ·trivial
 ·simp[ak.upto,av,ae.upto]
 ·exact hc
 simp[ak.upto,av,ae.upto]
theorem yq{u:cd}{m:Mach}{O:List ak}(bB:∀o∈O,o.upto O.length)(i:Ins)(x y:SV)(hx:SV.bj O.length x)(hy:SV.bj O.length y)(lL:2<O.length)
  (jQ:i.op=18):bd Tryz.prog 137 O [.mp 2 0,i.enc,.aA 4 [x.enc,y.enc] .sh] (fun r O'=>r=.cw [(m.effect i [x,y]).2.1.enc,aI (m.effect i [x,y]).2.2]∧O'=O):=by
 have hl:∀v∈[x,y],SV.bj O.length v:=fun v hv=>by
  simp only[List.mem_cons,List.mem_nil_iff,or_false]at hv;rcases hv with rfl|rfl
  ·exact hx
  exact hy
 have kJ:decide (i.op=15)=false:=decide_eq_false (by omega);have o7:decide (i.op=16)=false:=decide_eq_false (by omega);have ta:decide (i.op=18)=true:=decide_eq_true (by omega);have cr:=ya bB [x,y] hl 0;have ha:cu [x,y] 0=x∧cu [x,y] 1=y:=⟨rfl,rfl⟩
 cases hk:kD [x,y] 0 with
 | false =>
  simp only[hk,List.map_cons,List.map_nil]at cr;refine zf true O.length Tryz.func137 Tryz.ntmps137 ?_;dsimp only[Tmp,TypeId,slotsOf];refine ay (ai ?_);refine bU 4 0 ([aI i.to,aI i.op,aI i.n,aJ i.args]) rfl rfl (by rfl) ?_;simp -dsimp only[simprocAttr,↓aa,zp];refine bV (ai ?_);refine ah ?_;refine aQ ?_;simp -dsimp only[simprocAttr,↓aa,zp,kJ];refine ai ?_;refine cv rfl ?_;refine aQ ?_;simp -dsimp only[simprocAttr,↓aa,zp,o7];refine ai ?_;refine cv rfl ?_;refine aQ ?_;simp -dsimp only[simprocAttr,↓aa,zp,ta];refine ai ?_;refine cB rfl ?_;refine bV ?_;refine .inr (.inr ⟨_,cr _,ao (zj ?_)⟩);refine ai ?_;refine cB rfl ?_;refine ay (ai ?_);refine aq ?_;simp -dsimp only[simprocAttr,↓aa,zp,zr,Tryz.results137,ck];refine⟨bB,fu,?_⟩;simp[Mach.effect,jQ,hk]
 | true =>
  simp only[hk,List.map_cons,List.map_nil]at cr;by_cases hb:x.n<0∨y.n<=x.n
  ·have vP:decide (x.n<0)=true∨(decide (x.n<0)=false∧decide (y.n<=x.n)=true):=by
    by_cases h1:x.n<0
    ·exact .inl (decide_eq_true h1)
    exact .inr ⟨decide_eq_false h1,decide_eq_true (by omega)⟩
   rcases vP with vP|⟨vP,AA⟩
   ·refine zf true O.length Tryz.func137 Tryz.ntmps137 ?_;dsimp only[Tmp,TypeId,slotsOf];refine ay (ai ?_);refine bU 4 0 ([aI i.to,aI i.op,aI i.n,aJ i.args]) rfl rfl (by rfl) ?_;simp -dsimp only[simprocAttr,↓aa,zp];refine bV (ai ?_);refine ah ?_;refine aQ ?_;simp -dsimp only[simprocAttr,↓aa,zp,kJ];refine ai ?_;refine cv rfl ?_;refine aQ ?_;simp -dsimp only[simprocAttr,↓aa,zp,o7];refine ai ?_;refine cv rfl ?_;refine aQ ?_;simp -dsimp only[simprocAttr,↓aa,zp,ta];refine ai ?_;refine cB rfl ?_;refine bV ?_;refine .inr (.inr ⟨_,cr _,ao (zj ?_)⟩);refine ai ?_;refine cv rfl ?_;refine cj ?_;refine c7 ?_;simp -dsimp only[simprocAttr,↓aa,zp,vP];refine⟨ob (by kernel_rfl),?_⟩;refine ai ?_;refine cB rfl ?_;refine ay (ai ?_);refine aq ?_;simp -dsimp only[simprocAttr,↓aa,zp,zr,Tryz.results137,ck];refine⟨bB,fu,?_⟩;simp[Mach.effect,jQ,hk,ha,hb]
   refine zf true O.length Tryz.func137 Tryz.ntmps137 ?_;dsimp only[Tmp,TypeId,slotsOf];refine ay (ai ?_);refine bU 4 0 ([aI i.to,aI i.op,aI i.n,aJ i.args]) rfl rfl (by rfl) ?_;simp -dsimp only[simprocAttr,↓aa,zp];refine bV (ai ?_);refine ah ?_;refine aQ ?_;simp -dsimp only[simprocAttr,↓aa,zp,kJ];refine ai ?_;refine cv rfl ?_;refine aQ ?_;simp -dsimp only[simprocAttr,↓aa,zp,o7];refine ai ?_;refine cv rfl ?_;refine aQ ?_;simp -dsimp only[simprocAttr,↓aa,zp,ta];refine ai ?_;refine cB rfl ?_;refine bV ?_;refine .inr (.inr ⟨_,cr _,ao (zj ?_)⟩);refine ai ?_;refine cv rfl ?_;refine cj ?_;refine c7 ?_;simp -dsimp only[simprocAttr,↓aa,zp,vP,AA];refine⟨ob (by kernel_rfl),?_⟩;refine ai ?_;refine cB rfl ?_;refine ay (ai ?_);refine aq ?_;simp -dsimp only[simprocAttr,↓aa,zp,zr,Tryz.results137,ck];refine⟨bB,fu,?_⟩;simp[Mach.effect,jQ,hk,ha,hb]
  have vP:decide (x.n<0)=false:=decide_eq_false (by omega);have AA:decide (y.n<=x.n)=false:=decide_eq_false (by omega);refine zf true O.length Tryz.func137 Tryz.ntmps137 ?_;dsimp only[Tmp,TypeId,slotsOf];refine ay (ai ?_);refine bU 4 0 ([aI i.to,aI i.op,aI i.n,aJ i.args]) rfl rfl (by rfl) ?_;simp -dsimp only[simprocAttr,↓aa,zp];refine bV (ai ?_);refine ah ?_;refine aQ ?_;simp -dsimp only[simprocAttr,↓aa,zp,kJ];refine ai ?_;refine cv rfl ?_;refine aQ ?_;simp -dsimp only[simprocAttr,↓aa,zp,o7];refine ai ?_;refine cv rfl ?_;refine aQ ?_;simp -dsimp only[simprocAttr,↓aa,zp,ta];refine ai ?_;refine cB rfl ?_;refine bV ?_;refine .inr (.inr ⟨_,cr _,ao (zj ?_)⟩);refine ai ?_;refine cv rfl ?_;refine cj ?_;refine c7 ?_;simp -dsimp only[simprocAttr,↓aa,zp,vP,AA];refine⟨ob (by kernel_rfl),?_⟩;refine ai ?_;refine cv rfl ?_;refine cj ?_;refine ay ?_;refine .inl ⟨_,cO 0,by simp only[av,ae.upto,zt,zu,ax],ao ?_⟩;simp -dsimp only[simprocAttr,↓aa,zp,dd];refine ai ?_;refine aq ?_;simp -dsimp only[simprocAttr,↓aa,zp,zr,Tryz.results137,eV];refine⟨bB,lv,?_⟩;simp[Mach.effect,jQ,hk,ha,hb]
def K1(m m':Mach)(a:Option Nat)(O O':List ak):Prop :=
 (O'=O∧m'=m)∨∃(lr dO k:Nat) (z:SV) (l:List SV),a=some lr∧O[lr]?=some (.cells [.ms dO 0 l.length l.length])∧O[dO]?=some (.cells (an (l.map SV.enc)))∧k<l.length∧l=Mach.jI m.heap a∧SV.bj O.length z ∧
  O'=O.set dO (.cells (an ((l.set k z).map SV.enc)))∧m' = { m with heap:=Mach.j9 m.heap a (l.set k z) }
theorem CK{m:Mach}{O:List ak}(bB:∀o∈O,o.upto O.length)(i:Ins)(args:List SV)(hl:∀v∈args,SV.bj O.length v)(x:SV)(hx:args[0]?=some x)
  (Og:i.op≠15) (LJ:i.op≠16) (Oh:i.op≠18) (h1:i.op≠17->∃y,args[1]?=some y) (h2:i.op≠17->i.op≠19->∃z,args[2]?=some z)
  (hu:∀v∈Mach.jI m.heap x.arr,SV.bj O.length v) (ha:x.kind=3->∃lr dO,x.arr=some lr∧O[lr]?=some (.cells [.ms dO 0 (Mach.jI m.heap x.arr).length (Mach.jI m.heap x.arr).length])∧O[dO]?=some (.cells (an ((Mach.jI m.heap x.arr).map SV.enc)))) :
  ∃O',bd Tryz.prog 137 O [.mp 2 0,i.enc,.aA 4 (args.map SV.enc) .sh] (fun r O1=>r=.cw [(m.effect i args).2.1.enc,aI (m.effect i args).2.2]∧O1=O')∧K1 m (m.effect i args).1 x.arr O O':=by
 have uH:=fC hx;have kJ:decide (i.op=15)=false:=decide_eq_false (by omega);have o7:decide (i.op=16)=false:=decide_eq_false (by omega);have ta:decide (i.op=18)=false:=decide_eq_false (by omega);by_cases hk:x.kind=3
 ·have Ol:decide (x.kind=3)=true:=decide_eq_true hk;obtain⟨lr,dO,e1,e2,e3⟩:=ha hk;have Sq:eP x.arr=.mp lr 0:=by rw[e1];rfl
  have WR:=hu;generalize hL:Mach.jI m.heap x.arr=L at *;have RK:∀X,(O++X)[lr]?=some (.cells [.ms dO 0 L.length L.length]):=fun X=>cm e2;have Wy:∀X,(O++X)[dO]?=some (.cells (an (L.map SV.enc))):=fun X=>cm e3;by_cases LK:i.op=17
  ·have s9:decide (i.op=17)=true:=decide_eq_true LK;have eh:m.effect i args=(m,.word L.length,0):=by simp[Mach.effect,LK,uH,hk,hL]
   rw[eh];refine⟨O,?_,.inl ⟨rfl,rfl⟩⟩;refine zf true O.length Tryz.func137 Tryz.ntmps137 ?_;dsimp only[Tmp,TypeId,slotsOf];refine ay (ai ?_);refine bU 4 0 ([aI i.to,aI i.op,aI i.n,aJ i.args]) rfl rfl (by rfl) ?_;simp -dsimp only[simprocAttr,↓aa,zp];refine bV (ai ?_);refine ah ?_;refine aQ ?_;simp -dsimp only[simprocAttr,↓aa,zp,kJ];refine ai ?_;refine cv rfl ?_;refine aQ ?_;simp -dsimp only[simprocAttr,↓aa,zp,o7];refine ai ?_;refine cv rfl ?_;refine aQ ?_;simp -dsimp only[simprocAttr,↓aa,zp,ta];refine ai ?_;refine cv rfl ?_;refine kp ?_;refine c7 ?_;simp -dsimp only[simprocAttr,↓aa,zp,hx,Ol,s9];refine ai ?_;refine cv rfl ?_;refine cj ?_;refine aQ ?_;simp -dsimp only[simprocAttr,↓aa,zp,hx,Sq,RK];refine ai ?_;refine c7 ?_;simp -dsimp only[simprocAttr,↓aa,zp,s9];refine ai ?_;refine cB rfl ?_;refine ay ?_;refine .inl ⟨_,cO L.length,by simp only[av,ae.upto,zt,zu,ax],ao ?_⟩;simp -dsimp only[simprocAttr,↓aa,zp,dd];refine ai ?_;refine aq ?_;simp -dsimp only[simprocAttr,↓aa,zp,zr,Tryz.results137,eV];exact⟨bB,lv⟩
  have s9:decide (i.op=17)=false:=decide_eq_false LK;obtain⟨y,hy⟩:=h1 LK;have Q4:=fC hy;by_cases Ga:y.kind=0
  ·have Rn:decide (y.kind=0)=true:=decide_eq_true Ga;by_cases hb:y.n<0∨(L.length:Int)<=y.n
   ·have eh:m.effect i args=(m,.zero,2):=by simp[Mach.effect,Og,LJ,Oh,LK,uH,Q4,hk,Ga,hL,hb]
    rw[eh];refine⟨O,?_,.inl ⟨rfl,rfl⟩⟩;rcases(show y.n<0∨(¬y.n<0∧(L.length:Int)<=y.n) by omega)with Ue|⟨Ue,Es⟩
    ·have vP:decide (y.n<0)=true:=decide_eq_true Ue;refine zf true O.length Tryz.func137 Tryz.ntmps137 ?_;dsimp only[Tmp,TypeId,slotsOf];refine ay (ai ?_);refine bU 4 0 ([aI i.to,aI i.op,aI i.n,aJ i.args]) rfl rfl (by rfl) ?_;simp -dsimp only[simprocAttr,↓aa,zp];refine bV (ai ?_);refine ah ?_;refine aQ ?_;simp -dsimp only[simprocAttr,↓aa,zp,kJ];refine ai ?_;refine cv rfl ?_;refine aQ ?_;simp -dsimp only[simprocAttr,↓aa,zp,o7];refine ai ?_;refine cv rfl ?_;refine aQ ?_;simp -dsimp only[simprocAttr,↓aa,zp,ta];refine ai ?_;refine cv rfl ?_;refine kp ?_;refine c7 ?_;simp -dsimp only[simprocAttr,↓aa,zp,hx,hy,Ol,s9,Rn];refine ai ?_;refine cv rfl ?_;refine cj ?_;refine aQ ?_;simp -dsimp only[simprocAttr,↓aa,zp,hx,Sq,RK];refine ai ?_;refine c7 ?_;simp -dsimp only[simprocAttr,↓aa,zp,s9];refine ai ?_;refine cv rfl ?_;refine cj ?_;refine aQ ?_;simp -dsimp only[simprocAttr,↓aa,zp,hy];refine ai ?_;refine c7 ?_;simp -dsimp only[simprocAttr,↓aa,zp,vP];refine ai ?_;refine cB rfl ?_;refine ay (ai ?_);refine aq ?_;simp -dsimp only[simprocAttr,↓aa,zp,zr,Tryz.results137,ck];exact⟨bB,fu⟩
    have vP:decide (y.n<0)=false:=decide_eq_false Ue;have AA:decide ((L.length:Int)<=y.n)=true:=decide_eq_true Es;refine zf true O.length Tryz.func137 Tryz.ntmps137 ?_;dsimp only[Tmp,TypeId,slotsOf];refine ay (ai ?_);refine bU 4 0 ([aI i.to,aI i.op,aI i.n,aJ i.args]) rfl rfl (by rfl) ?_;simp -dsimp only[simprocAttr,↓aa,zp];refine bV (ai ?_);refine ah ?_;refine aQ ?_;simp -dsimp only[simprocAttr,↓aa,zp,kJ];refine ai ?_;refine cv rfl ?_;refine aQ ?_;simp -dsimp only[simprocAttr,↓aa,zp,o7];refine ai ?_;refine cv rfl ?_;refine aQ ?_;simp -dsimp only[simprocAttr,↓aa,zp,ta];refine ai ?_;refine cv rfl ?_;refine kp ?_;refine c7 ?_;simp -dsimp only[simprocAttr,↓aa,zp,hx,hy,Ol,s9,Rn];refine ai ?_;refine cv rfl ?_;refine cj ?_;refine aQ ?_;simp -dsimp only[simprocAttr,↓aa,zp,hx,Sq,RK];refine ai ?_;refine c7 ?_;simp -dsimp only[simprocAttr,↓aa,zp,s9];refine ai ?_;refine cv rfl ?_;refine cj ?_;refine aQ ?_;simp -dsimp only[simprocAttr,↓aa,zp,hy];refine ai ?_;refine c7 ?_;simp -dsimp only[simprocAttr,↓aa,zp,vP,AA];refine ai ?_;refine cB rfl ?_;refine ay (ai ?_);refine aq ?_;simp -dsimp only[simprocAttr,↓aa,zp,zr,Tryz.results137,ck];exact⟨bB,fu⟩
   have vP:decide (y.n<0)=false:=decide_eq_false (by omega);have AA:decide ((L.length:Int)<=y.n)=false:=decide_eq_false (by omega);obtain⟨k,oN⟩:∃k:Nat,y.n=k:=⟨y.n.toNat,by omega⟩
   have EB:k<L.length:=by omega
   have da:=SV.MI L;by_cases RQ:i.op=19
   ·have PI:decide (i.op=19)=true:=decide_eq_true RQ;obtain⟨z,hz⟩:∃z,L[k]?=some z:=⟨L[k],by simp[EB]⟩
    have R5:=fC hz;have eJ:=SV.E3 hz;have Mu:SV.bj O.length z:=WR z (List.mem_of_getElem? hz);have eh:m.effect i args=(m,z,0):=by simp[Mach.effect,LK,RQ,uH,Q4,hk,Ga,hL,hb,oN,R5,EB]
    rw[eh];refine⟨O,?_,.inl ⟨rfl,rfl⟩⟩;refine zf true O.length Tryz.func137 Tryz.ntmps137 ?_;dsimp only[Tmp,TypeId,slotsOf];refine ay (ai ?_);refine bU 4 0 ([aI i.to,aI i.op,aI i.n,aJ i.args]) rfl rfl (by rfl) ?_;simp -dsimp only[simprocAttr,↓aa,zp];refine bV (ai ?_);refine ah ?_;refine aQ ?_;simp -dsimp only[simprocAttr,↓aa,zp,kJ];refine ai ?_;refine cv rfl ?_;refine aQ ?_;simp -dsimp only[simprocAttr,↓aa,zp,o7];refine ai ?_;refine cv rfl ?_;refine aQ ?_;simp -dsimp only[simprocAttr,↓aa,zp,ta];refine ai ?_;refine cv rfl ?_;refine kp ?_;refine c7 ?_;simp -dsimp only[simprocAttr,↓aa,zp,hx,hy,Ol,s9,Rn];refine ai ?_;refine cv rfl ?_;refine cj ?_;refine aQ ?_;simp -dsimp only[simprocAttr,↓aa,zp,hx,Sq,RK];refine ai ?_;refine c7 ?_;simp -dsimp only[simprocAttr,↓aa,zp,s9];refine ai ?_;refine cv rfl ?_;refine cj ?_;refine aQ ?_;simp -dsimp only[simprocAttr,↓aa,zp,hy];refine ai ?_;refine c7 ?_;simp -dsimp only[simprocAttr,↓aa,zp,vP,AA];refine ai ?_;refine cv rfl ?_;refine cj ?_;refine c7 ?_;simp -dsimp only[simprocAttr,↓aa,zp,PI];refine ai ?_;refine cB rfl ?_;refine aQ ?_;simp -dsimp only[simprocAttr,↓aa,zp,oN,Wy,da,eJ]
    repeat(refine⟨by omega,?_⟩)
    refine ai ?_;refine aq ?_;simp -dsimp only[simprocAttr,↓aa,zp,zr,Tryz.results137];exact⟨bB,vv Mu⟩
   have PI:decide (i.op=19)=false:=decide_eq_false RQ;obtain⟨z,hz⟩:=h2 LK RQ;have R5:=fC hz;have gL:=SV.MJ EB z;rw[SV.aj]at gL;have Mu:SV.bj O.length z:=hl z (List.mem_of_getElem? hz);have eh:m.effect i args=({ m with heap:=Mach.j9 m.heap x.arr (L.set k z) },.word 0,0):=by simp[Mach.effect,Og,LJ,Oh,LK,RQ,uH,Q4,hk,Ga,hL,hb,oN,R5,EB]
   rw[eh];obtain⟨O1,dH⟩:∃O1,O1=O.set dO (.cells (an ((L.set k z).map SV.enc))):=⟨_,rfl⟩
   have hlen:O.length=O1.length:=by rw[dH];simp
   have dT:∀o∈O1,o.upto O1.length:=by
    rw[<-hlen,dH];refine bt bB (SV.jj fun v hv=>?_);rcases List.mem_or_eq_of_mem_set hv with q|q
    ·exact WR v q
    exact q ▸ Mu
   have uU:∀X y,(O++X).set dO y=O.set dO y++X:=fun X y=>kS e3;refine⟨O1,?_,.inr ⟨lr,dO,k,z,L,e1,e2,e3,EB,hL.symm,Mu,dH,rfl⟩⟩;refine zf true O.length Tryz.func137 Tryz.ntmps137 ?_;dsimp only[Tmp,TypeId,slotsOf];refine ay (ai ?_);refine bU 4 0 ([aI i.to,aI i.op,aI i.n,aJ i.args]) rfl rfl (by rfl) ?_;simp -dsimp only[simprocAttr,↓aa,zp];refine bV (ai ?_);refine ah ?_;refine aQ ?_;simp -dsimp only[simprocAttr,↓aa,zp,kJ];refine ai ?_;refine cv rfl ?_;refine aQ ?_;simp -dsimp only[simprocAttr,↓aa,zp,o7];refine ai ?_;refine cv rfl ?_;refine aQ ?_;simp -dsimp only[simprocAttr,↓aa,zp,ta];refine ai ?_;refine cv rfl ?_;refine kp ?_;refine c7 ?_;simp -dsimp only[simprocAttr,↓aa,zp,hx,hy,Ol,s9,Rn];refine ai ?_;refine cv rfl ?_;refine cj ?_;refine aQ ?_;simp -dsimp only[simprocAttr,↓aa,zp,hx,Sq,RK];refine ai ?_;refine c7 ?_;simp -dsimp only[simprocAttr,↓aa,zp,s9];refine ai ?_;refine cv rfl ?_;refine cj ?_;refine aQ ?_;simp -dsimp only[simprocAttr,↓aa,zp,hy];refine ai ?_;refine c7 ?_;simp -dsimp only[simprocAttr,↓aa,zp,vP,AA];refine ai ?_;refine cv rfl ?_;refine cj ?_;refine c7 ?_;simp -dsimp only[simprocAttr,↓aa,zp,PI];refine ai ?_;refine cv rfl ?_;refine cj ?_;refine aQ ?_;simp -dsimp only[simprocAttr,↓aa,zp,oN,hz,Wy,da,SV.cZ,gL,uU,<-dH]
   repeat(refine⟨by omega,?_⟩)
   refine ai ?_;refine aQ ?_;simp -dsimp only[simprocAttr,↓aa,zp,hlen];refine .inl ⟨_,cO 0,by simp only[av,ae.upto,zt,zu,ax],ao ?_⟩;simp -dsimp only[simprocAttr,↓aa,zp,dd];refine ai ?_;refine aq ?_;simp -dsimp only[simprocAttr,↓aa,zp,zr,Tryz.results137,eV,hlen];exact⟨dT,lv⟩
  have Rn:decide (y.kind=0)=false:=decide_eq_false Ga;have eh:m.effect i args=(m,.zero,5):=by simp[Mach.effect,Og,LJ,Oh,LK,uH,Q4,hk,Ga]
  rw[eh];refine⟨O,?_,.inl ⟨rfl,rfl⟩⟩;refine zf true O.length Tryz.func137 Tryz.ntmps137 ?_;dsimp only[Tmp,TypeId,slotsOf];refine ay (ai ?_);refine bU 4 0 ([aI i.to,aI i.op,aI i.n,aJ i.args]) rfl rfl (by rfl) ?_;simp -dsimp only[simprocAttr,↓aa,zp];refine bV (ai ?_);refine ah ?_;refine aQ ?_;simp -dsimp only[simprocAttr,↓aa,zp,kJ];refine ai ?_;refine cv rfl ?_;refine aQ ?_;simp -dsimp only[simprocAttr,↓aa,zp,o7];refine ai ?_;refine cv rfl ?_;refine aQ ?_;simp -dsimp only[simprocAttr,↓aa,zp,ta];refine ai ?_;refine cv rfl ?_;refine kp ?_;refine c7 ?_;simp -dsimp only[simprocAttr,↓aa,zp,hx,hy,Ol,s9,Rn];refine ai ?_;refine cB rfl ?_;refine ay (ai ?_);refine aq ?_;simp -dsimp only[simprocAttr,↓aa,zp,zr,Tryz.results137,ck];exact⟨bB,fu⟩
 have Ol:decide (x.kind=3)=false:=decide_eq_false hk;have eh:m.effect i args=(m,.zero,5):=by simp[Mach.effect,Og,LJ,Oh,uH,hk]
 rw[eh];refine⟨O,?_,.inl ⟨rfl,rfl⟩⟩;refine zf true O.length Tryz.func137 Tryz.ntmps137 ?_;dsimp only[Tmp,TypeId,slotsOf];refine ay (ai ?_);refine bU 4 0 ([aI i.to,aI i.op,aI i.n,aJ i.args]) rfl rfl (by rfl) ?_;simp -dsimp only[simprocAttr,↓aa,zp];refine bV (ai ?_);refine ah ?_;refine aQ ?_;simp -dsimp only[simprocAttr,↓aa,zp,kJ];refine ai ?_;refine cv rfl ?_;refine aQ ?_;simp -dsimp only[simprocAttr,↓aa,zp,o7];refine ai ?_;refine cv rfl ?_;refine aQ ?_;simp -dsimp only[simprocAttr,↓aa,zp,ta];refine ai ?_;refine cv rfl ?_;refine kp ?_;refine c7 ?_;simp -dsimp only[simprocAttr,↓aa,zp,hx,Ol];refine ai ?_;refine cB rfl ?_;refine ay (ai ?_);refine aq ?_;simp -dsimp only[simprocAttr,↓aa,zp,zr,Tryz.results137,ck];exact⟨bB,fu⟩
theorem Ie{u:cd}{m:Mach}{O:List ak}(bB:∀o∈O,o.upto O.length)(i:Ins)(args:List SV)(hl:∀v∈args,SV.bj O.length v)(jQ:i.op=0):bd Tryz.prog 115 O [.mp 2 0,i.enc,.aA 4 (args.map SV.enc) .sh] (fun r O'=>r=.cw [(m.exec i args).2.1.enc,aI (m.exec i args).2.2]∧O'=O):=by
 refine zf true O.length Tryz.func115 Tryz.ntmps115 ?_;dsimp only[Tmp,TypeId,slotsOf];refine ay (ai ?_);refine bU 4 0 ([aI i.to,aI i.op,aI i.n,aJ i.args]) rfl rfl (by rfl) ?_;simp -dsimp only[simprocAttr,↓aa,zp];refine bV (ai ?_);refine ah ?_;refine ay (ai ?_);apply aN rfl<;>intro h
 ·refine ay ?_;refine .inl ⟨_,cO i.n,by simp only[av,ae.upto,zt,zu,ax],ao ?_⟩;simp -dsimp only[simprocAttr,↓aa,zp,dd];refine ai ?_;refine aq ?_;simp -dsimp only[simprocAttr,↓aa,zp,zr,Tryz.results115,eV];refine⟨bB,lv,?_⟩;simp[Mach.exec,jQ]
 exact af h (by omega)
theorem CQ{u:cd}{m:Mach}{O:List ak}(bB:∀o∈O,o.upto O.length)(i:Ins)(args:List SV)(hl:∀v∈args,SV.bj O.length v)(jQ:1<=i.op∧i.op<=7)(x y:SV)(hx:args[0]?=some x)(hy:args[1]?=some y)(V3:x.kind=0->fv x.n)(V6:y.kind=0->fv y.n):bd Tryz.prog 115 O [.mp 2 0,i.enc,.aA 4 (args.map SV.enc) .sh] (fun r O'=>r=.cw [(m.exec i args).2.1.enc,aI (m.exec i args).2.2]∧O'=O):=by
 have uH:=fC hx;have Q4:=fC hy;have cr:=ya bB args hl 0;have h0:i.op≠0:=by omega
 cases hk:kD args 0 with
 | false =>
  rw[hk]at cr;refine zf true O.length Tryz.func115 Tryz.ntmps115 ?_;dsimp only[Tmp,TypeId,slotsOf];refine ay (ai ?_);refine bU 4 0 ([aI i.to,aI i.op,aI i.n,aJ i.args]) rfl rfl (by rfl) ?_;simp -dsimp only[simprocAttr,↓aa,zp];refine bV (ai ?_);refine ah ?_;refine ay (ai ?_);apply aN rfl<;>intro h
  ·exact ab h (by omega)
  refine bV (ai ?_);refine jK (⟨82,[(0,.mp 2 0),(2,.aA 4 (args.map SV.enc) .sh),(4,.ip none [aI i.to,aI i.op,aI i.n,aJ i.args]),(6,.mp (O.length+1) 0),(7,aI 0),(9,aI i.op),(15,.v (.bool true))],O++[.gone,.cells [aI 0,aI 0,.aA 4 [] .ex,.v (.pointer none)]]⟩) ?_ ?_
  ·apply aN rfl<;>intro h
   ·refine aX ?_;show ba _ _;refine zq rfl ?_ ?_;simp -dsimp only[simprocAttr,↓aa,zp,zc]
    ·exact Sub.of_eq (by rw[h])
    rfl
   refine ay (ai ?_);apply aN rfl<;>intro h
   ·refine aX ?_;show ba _ _;refine zq rfl ?_ ?_;simp -dsimp only[simprocAttr,↓aa,zp,zc]
    ·exact Sub.of_eq (by rw[h])
    rfl
   refine ay (ai ?_);apply aN rfl<;>intro h
   ·refine aX ?_;show ba _ _;refine zq rfl ?_ ?_;simp -dsimp only[simprocAttr,↓aa,zp,zc]
    ·exact Sub.of_eq (by rw[h])
    rfl
   refine ay (ai ?_);apply aN rfl<;>intro h
   ·refine aX ?_;show ba _ _;refine zq rfl ?_ ?_;simp -dsimp only[simprocAttr,↓aa,zp,zc]
    ·exact Sub.of_eq (by rw[h])
    rfl
   refine ay (ai ?_);apply aN rfl<;>intro h
   ·refine aX ?_;show ba _ _;refine zq rfl ?_ ?_;simp -dsimp only[simprocAttr,↓aa,zp,zc]
    ·exact Sub.of_eq (by rw[h])
    rfl
   refine ay (ai ?_);apply aN rfl<;>intro h
   ·refine aX ?_;show ba _ _;refine zq rfl ?_ ?_;simp -dsimp only[simprocAttr,↓aa,zp,zc]
    ·exact Sub.of_eq (by rw[h])
    rfl
   refine cM ?_;refine a6 ?_;show ba _ _;refine zq rfl ?_ ?_;simp -dsimp only[simprocAttr,↓aa,zp,zc]
   ·exact Sub.of_eq (by rw[decide_eq_true (show i.op=7 by simp only[decide_eq_false_iff_not]at *;omega)])
   rfl
  refine cB rfl ?_;refine bV ?_;refine .inr (.inr ⟨_,cr _,ao (zj ?_)⟩);refine ai ?_;refine cB rfl ?_;refine ay (ai ?_);refine aq ?_;simp -dsimp only[simprocAttr,↓aa,zp,zr,Tryz.results115,ck];refine⟨bB,fu,?_⟩;simp[Mach.exec,jQ,h0,hk]
 | true =>
  rw[hk]at cr;have SL:x.kind=0:=by
   simp only[kD,List.all_eq_true,decide_eq_true_eq]at hk;exact hk x (List.mem_of_getElem? hx)
  have Za:y.kind=0:=by
   simp only[kD,List.all_eq_true,decide_eq_true_eq]at hk;exact hk y (List.mem_of_getElem? hy)
  have U':=sn i.op x.n y.n (V3 SL) (V6 Za);have Sb:=ph O.length i.op x.n y.n;have eh:m.exec i args=(m,c5 i.op x.n y.n):=by simp[Mach.exec,jQ,h0,hk,uH,Q4]
  rw[eh];generalize c5 i.op x.n y.n=B at *;refine zf true O.length Tryz.func115 Tryz.ntmps115 ?_;dsimp only[Tmp,TypeId,slotsOf];refine ay (ai ?_);refine bU 4 0 ([aI i.to,aI i.op,aI i.n,aJ i.args]) rfl rfl (by rfl) ?_;simp -dsimp only[simprocAttr,↓aa,zp];refine bV (ai ?_);refine ah ?_;refine ay (ai ?_);apply aN rfl<;>intro h
  ·exact ab h (by omega)
  refine bV (ai ?_);refine jK (⟨82,[(0,.mp 2 0),(2,.aA 4 (args.map SV.enc) .sh),(4,.ip none [aI i.to,aI i.op,aI i.n,aJ i.args]),(6,.mp (O.length+1) 0),(7,aI 0),(9,aI i.op),(15,.v (.bool true))],O++[.gone,.cells [aI 0,aI 0,.aA 4 [] .ex,.v (.pointer none)]]⟩) ?_ ?_
  ·apply aN rfl<;>intro h
   ·refine aX ?_;show ba _ _;refine zq rfl ?_ ?_;simp -dsimp only[simprocAttr,↓aa,zp,zc]
    ·exact Sub.of_eq (by rw[h])
    rfl
   refine ay (ai ?_);apply aN rfl<;>intro h
   ·refine aX ?_;show ba _ _;refine zq rfl ?_ ?_;simp -dsimp only[simprocAttr,↓aa,zp,zc]
    ·exact Sub.of_eq (by rw[h])
    rfl
   refine ay (ai ?_);apply aN rfl<;>intro h
   ·refine aX ?_;show ba _ _;refine zq rfl ?_ ?_;simp -dsimp only[simprocAttr,↓aa,zp,zc]
    ·exact Sub.of_eq (by rw[h])
    rfl
   refine ay (ai ?_);apply aN rfl<;>intro h
   ·refine aX ?_;show ba _ _;refine zq rfl ?_ ?_;simp -dsimp only[simprocAttr,↓aa,zp,zc]
    ·exact Sub.of_eq (by rw[h])
    rfl
   refine ay (ai ?_);apply aN rfl<;>intro h
   ·refine aX ?_;show ba _ _;refine zq rfl ?_ ?_;simp -dsimp only[simprocAttr,↓aa,zp,zc]
    ·exact Sub.of_eq (by rw[h])
    rfl
   refine ay (ai ?_);apply aN rfl<;>intro h
   ·refine aX ?_;show ba _ _;refine zq rfl ?_ ?_;simp -dsimp only[simprocAttr,↓aa,zp,zc]
    ·exact Sub.of_eq (by rw[h])
    rfl
   refine cM ?_;refine a6 ?_;show ba _ _;refine zq rfl ?_ ?_;simp -dsimp only[simprocAttr,↓aa,zp,zc]
   ·exact Sub.of_eq (by rw[decide_eq_true (show i.op=7 by simp only[decide_eq_false_iff_not]at *;omega)])
   rfl
  refine cB rfl ?_;refine bV ?_;refine .inr (.inr ⟨_,cr _,ao (zj ?_)⟩);refine ai ?_;refine cv rfl ?_;refine cj ?_;refine aQ ?_;simp -dsimp only[simprocAttr,↓aa,zp,hx,hy];refine zi U' ?_;refine⟨ob (by kernel_rfl),?_⟩;refine ai ?_;refine aq ?_;simp -dsimp only[simprocAttr,↓aa,zp,zr,Tryz.results115];exact⟨bB,vv Sb⟩
theorem Ic{u:cd}{m:Mach}{O:List ak}(bB:∀o∈O,o.upto O.length)(i:Ins)(args:List SV)(hl:∀v∈args,SV.bj O.length v)(jQ:i.op=8):bd Tryz.prog 115 O [.mp 2 0,i.enc,.aA 4 (args.map SV.enc) .sh] (fun r O'=>r=.cw [(m.exec i args).2.1.enc,aI (m.exec i args).2.2]∧O'=O):=by
 have hz:=(SV.bj.mk (k:=1) (m:=i.n) (a:=none) (by simp) hl).aO;rw[SV.jk]at hz;refine zf true O.length Tryz.func115 Tryz.ntmps115 ?_;dsimp only[Tmp,TypeId,slotsOf];refine ay (ai ?_);refine bU 4 0 ([aI i.to,aI i.op,aI i.n,aJ i.args]) rfl rfl (by rfl) ?_;simp -dsimp only[simprocAttr,↓aa,zp];refine bV (ai ?_);refine ah ?_;refine ay (ai ?_);apply aN rfl<;>intro h
 ·exact ab h (by omega)
 refine bV (ai ?_);apply aN rfl<;>intro h
 ·exact ab h (by omega)
 refine ay (ai ?_);apply aN rfl<;>intro h
 ·exact ab h (by omega)
 refine ay (ai ?_);apply aN rfl<;>intro h
 ·exact ab h (by omega)
 refine ay (ai ?_);apply aN rfl<;>intro h
 ·exact ab h (by omega)
 refine ay (ai ?_);apply aN rfl<;>intro h
 ·exact ab h (by omega)
 refine ay (ai ?_);apply aN rfl<;>intro h
 ·exact ab h (by omega)
 refine cM (ai ?_);apply aN rfl<;>intro h
 ·exact ab h (by omega)
 refine ay (ai ?_);apply aN rfl<;>intro h
 ·refine ay (ai ?_);refine aq ?_;simp -dsimp only[simprocAttr,↓aa,zp,zr,Tryz.results115];refine⟨bB,⟨hz,trivial,trivial⟩,?_⟩;simp[Mach.exec,jQ,SV.jk,eP]
 exact af h (by omega)
theorem FH{u:cd}{m:Mach}{O:List ak}(bB:∀o∈O,o.upto O.length)(i:Ins)(args:List SV)(hl:∀v∈args,SV.bj O.length v)(jQ:i.op=9):bd Tryz.prog 115 O [.mp 2 0,i.enc,.aA 4 (args.map SV.enc) .sh] (fun r O'=>r=.cw [(m.exec i args).2.1.enc,aI (m.exec i args).2.2]∧O'=O):=by
 have hz:=(SV.bj.mk (k:=2) (m:=i.n) (a:=none) (by simp) hl).aO;rw[SV.jk]at hz;refine zf true O.length Tryz.func115 Tryz.ntmps115 ?_;dsimp only[Tmp,TypeId,slotsOf];refine ay (ai ?_);refine bU 4 0 ([aI i.to,aI i.op,aI i.n,aJ i.args]) rfl rfl (by rfl) ?_;simp -dsimp only[simprocAttr,↓aa,zp];refine bV (ai ?_);refine ah ?_;refine ay (ai ?_);apply aN rfl<;>intro h
 ·exact ab h (by omega)
 refine bV (ai ?_);apply aN rfl<;>intro h
 ·exact ab h (by omega)
 refine ay (ai ?_);apply aN rfl<;>intro h
 ·exact ab h (by omega)
 refine ay (ai ?_);apply aN rfl<;>intro h
 ·exact ab h (by omega)
 refine ay (ai ?_);apply aN rfl<;>intro h
 ·exact ab h (by omega)
 refine ay (ai ?_);apply aN rfl<;>intro h
 ·exact ab h (by omega)
 refine ay (ai ?_);apply aN rfl<;>intro h
 ·exact ab h (by omega)
 refine cM (ai ?_);apply aN rfl<;>intro h
 ·exact ab h (by omega)
 refine ay (ai ?_);apply aN rfl<;>intro h
 ·exact ab h (by omega)
 refine ay (ai ?_);apply aN rfl<;>intro h
 ·refine ay (ai ?_);refine aq ?_;simp -dsimp only[simprocAttr,↓aa,zp,zr,Tryz.results115];refine⟨bB,⟨hz,trivial,trivial⟩,?_⟩;simp[Mach.exec,jQ,SV.jk,eP]
 exact af h (by omega)
theorem Ig{u:cd}{m:Mach}{O:List ak}(bB:∀o∈O,o.upto O.length)(i:Ins)(args:List SV)(hl:∀v∈args,SV.bj O.length v)(jQ:i.op=10∨i.op=11∨i.op=12∨i.op=21)(hC:bd Tryz.prog 135 O [i.enc,.aA 4 (args.map SV.enc) .sh] (fun r O'=>r=.cw [(cN i args).1.enc,aI (cN i args).2]∧O'=O))(hR:SV.bj O.length (cN i args).1):bd Tryz.prog 115 O [.mp 2 0,i.enc,.aA 4 (args.map SV.enc) .sh] (fun r O'=>r=.cw [(m.exec i args).2.1.enc,aI (m.exec i args).2.2]∧O'=O):=by
 have dr:=bd.frame hC rfl ⟨i.aO _,⟨SV.ag hl,trivial⟩,trivial⟩ bB;have eh:m.exec i args=(m,cN i args):=by
  unfold Mach.exec;rw[if_neg (by omega),if_neg (by omega),if_neg (by omega),if_neg (by omega),if_pos jQ]
 rw[eh];generalize cN i args=B at *;refine zf true O.length Tryz.func115 Tryz.ntmps115 ?_;dsimp only[Tmp,TypeId,slotsOf];refine ay (ai ?_);refine bU 4 0 ([aI i.to,aI i.op,aI i.n,aJ i.args]) rfl rfl (by rfl) ?_;simp -dsimp only[simprocAttr,↓aa,zp];refine bV (ai ?_);refine ah ?_;refine ay (ai ?_);apply aN rfl<;>intro h
 ·exact ab h (by omega)
 refine bV (ai ?_);apply aN rfl<;>intro h
 ·exact ab h (by omega)
 refine ay (ai ?_);apply aN rfl<;>intro h
 ·exact ab h (by omega)
 refine ay (ai ?_);apply aN rfl<;>intro h
 ·exact ab h (by omega)
 refine ay (ai ?_);apply aN rfl<;>intro h
 ·exact ab h (by omega)
 refine ay (ai ?_);apply aN rfl<;>intro h
 ·exact ab h (by omega)
 refine ay (ai ?_);apply aN rfl<;>intro h
 ·exact ab h (by omega)
 refine cM (ai ?_);apply aN rfl<;>intro h
 ·exact ab h (by omega)
 refine ay (ai ?_);apply aN rfl<;>intro h
 ·exact ab h (by omega)
 refine ay (ai ?_);apply aN rfl<;>intro h
 ·exact ab h (by omega)
 refine bV (ai ?_);refine jK (⟨82,[(0,.mp 2 0),(2,.aA 4 (args.map SV.enc) .sh),(4,.ip none [aI i.to,aI i.op,aI i.n,aJ i.args]),(6,.mp (O.length+1) 0),(7,aI 0),(9,aI i.op),(52,.v (.bool true))],O++[.gone,.cells [aI 0,aI 0,.aA 4 [] .ex,.v (.pointer none)]]⟩) ?_ ?_
 ·apply aN rfl<;>intro h
  ·refine aX ?_;show ba _ _;refine zq rfl ?_ ?_;simp -dsimp only[simprocAttr,↓aa,zp,zc]
   ·exact Sub.of_eq (by rw[h])
   rfl
  refine ay (ai ?_);apply aN rfl<;>intro h
  ·refine aX ?_;show ba _ _;refine zq rfl ?_ ?_;simp -dsimp only[simprocAttr,↓aa,zp,zc]
   ·exact Sub.of_eq (by rw[h])
   rfl
  refine ay (ai ?_);apply aN rfl<;>intro h
  ·refine aX ?_;show ba _ _;refine zq rfl ?_ ?_;simp -dsimp only[simprocAttr,↓aa,zp,zc]
   ·exact Sub.of_eq (by rw[h])
   rfl
  refine cM ?_;refine a6 ?_;show ba _ _;refine zq rfl ?_ ?_;simp -dsimp only[simprocAttr,↓aa,zp,zc]
  ·exact Sub.of_eq (by rw[decide_eq_true (show i.op=21 by simp only[decide_eq_false_iff_not]at *;omega)])
  rfl
 refine cB rfl ?_;refine ay ?_;refine .inr (.inr ⟨_,dr _,ao (zj ?_)⟩);refine ai ?_;refine aq ?_;simp -dsimp only[simprocAttr,↓aa,zp,zr,Tryz.results115];exact⟨bB,vv hR⟩
theorem Ih{u:cd}{m:Mach}{O:List ak}(bB:∀o∈O,o.upto O.length)(i:Ins)(args:List SV)(hl:∀v∈args,SV.bj O.length v)(jQ:i.op=22∨i.op=23∨i.op=24)(hC:bd Tryz.prog 136 O [i.enc,.aA 4 (args.map SV.enc) .sh] (fun r O'=>r=.cw [(c6 i args).1.enc,aI (c6 i args).2]∧O'=O))(hR:SV.bj O.length (c6 i args).1):bd Tryz.prog 115 O [.mp 2 0,i.enc,.aA 4 (args.map SV.enc) .sh] (fun r O'=>r=.cw [(m.exec i args).2.1.enc,aI (m.exec i args).2.2]∧O'=O):=by
 have dr:=bd.frame hC rfl ⟨i.aO _,⟨SV.ag hl,trivial⟩,trivial⟩ bB;have eh:m.exec i args=(m,c6 i args):=by
  unfold Mach.exec;rw[if_neg (by omega),if_neg (by omega),if_neg (by omega),if_neg (by omega),if_neg (by omega),if_pos jQ]
 rw[eh];generalize c6 i args=B at *;refine zf true O.length Tryz.func115 Tryz.ntmps115 ?_;dsimp only[Tmp,TypeId,slotsOf];refine ay (ai ?_);refine bU 4 0 ([aI i.to,aI i.op,aI i.n,aJ i.args]) rfl rfl (by rfl) ?_;simp -dsimp only[simprocAttr,↓aa,zp];refine bV (ai ?_);refine ah ?_;refine ay (ai ?_);apply aN rfl<;>intro h
 ·exact ab h (by omega)
 refine bV (ai ?_);apply aN rfl<;>intro h
 ·exact ab h (by omega)
 refine ay (ai ?_);apply aN rfl<;>intro h
 ·exact ab h (by omega)
 refine ay (ai ?_);apply aN rfl<;>intro h
 ·exact ab h (by omega)
 refine ay (ai ?_);apply aN rfl<;>intro h
 ·exact ab h (by omega)
 refine ay (ai ?_);apply aN rfl<;>intro h
 ·exact ab h (by omega)
 refine ay (ai ?_);apply aN rfl<;>intro h
 ·exact ab h (by omega)
 refine cM (ai ?_);apply aN rfl<;>intro h
 ·exact ab h (by omega)
 refine ay (ai ?_);apply aN rfl<;>intro h
 ·exact ab h (by omega)
 refine ay (ai ?_);apply aN rfl<;>intro h
 ·exact ab h (by omega)
 refine bV (ai ?_);apply aN rfl<;>intro h
 ·exact ab h (by omega)
 refine ay (ai ?_);apply aN rfl<;>intro h
 ·exact ab h (by omega)
 refine ay (ai ?_);apply aN rfl<;>intro h
 ·exact ab h (by omega)
 refine cM (ai ?_);apply aN rfl<;>intro h
 ·exact ab h (by omega)
 refine bV (ai ?_);refine jK (⟨82,[(0,.mp 2 0),(2,.aA 4 (args.map SV.enc) .sh),(4,.ip none [aI i.to,aI i.op,aI i.n,aJ i.args]),(6,.mp (O.length+1) 0),(7,aI 0),(9,aI i.op),(62,.v (.bool true))],O++[.gone,.cells [aI 0,aI 0,.aA 4 [] .ex,.v (.pointer none)]]⟩) ?_ ?_
 ·apply aN rfl<;>intro h
  ·refine aX ?_;show ba _ _;refine zq rfl ?_ ?_;simp -dsimp only[simprocAttr,↓aa,zp,zc]
   ·exact Sub.of_eq (by rw[h])
   rfl
  refine ay (ai ?_);apply aN rfl<;>intro h
  ·refine aX ?_;show ba _ _;refine zq rfl ?_ ?_;simp -dsimp only[simprocAttr,↓aa,zp,zc]
   ·exact Sub.of_eq (by rw[h])
   rfl
  refine cM ?_;refine a6 ?_;show ba _ _;refine zq rfl ?_ ?_;simp -dsimp only[simprocAttr,↓aa,zp,zc]
  ·exact Sub.of_eq (by rw[decide_eq_true (show i.op=24 by simp only[decide_eq_false_iff_not]at *;omega)])
  rfl
 refine cB rfl ?_;refine ay ?_;refine .inr (.inr ⟨_,dr _,ao (zj ?_)⟩);refine ai ?_;refine aq ?_;simp -dsimp only[simprocAttr,↓aa,zp,zr,Tryz.results115];exact⟨bB,vv hR⟩
theorem FI{u:cd}{m:Mach}{O:List ak}(bB:∀o∈O,o.upto O.length)(i:Ins)(args:List SV)(hl:∀v∈args,SV.bj O.length v)(jQ:i.op=100)(x:SV)(hx:args[0]?=some x):bd Tryz.prog 115 O [.mp 2 0,i.enc,.aA 4 (args.map SV.enc) .sh] (fun r O'=>r=.cw [(m.exec i args).2.1.enc,aI (m.exec i args).2.2]∧O'=O):=by
 have uH:=fC hx;have EK:=hl x (List.mem_of_getElem? hx);refine zf true O.length Tryz.func115 Tryz.ntmps115 ?_;dsimp only[Tmp,TypeId,slotsOf];refine ay (ai ?_);refine bU 4 0 ([aI i.to,aI i.op,aI i.n,aJ i.args]) rfl rfl (by rfl) ?_;simp -dsimp only[simprocAttr,↓aa,zp];refine bV (ai ?_);refine ah ?_;refine ay (ai ?_);apply aN rfl<;>intro h
 ·exact ab h (by omega)
 refine bV (ai ?_);apply aN rfl<;>intro h
 ·exact ab h (by omega)
 refine ay (ai ?_);apply aN rfl<;>intro h
 ·exact ab h (by omega)
 refine ay (ai ?_);apply aN rfl<;>intro h
 ·exact ab h (by omega)
 refine ay (ai ?_);apply aN rfl<;>intro h
 ·exact ab h (by omega)
 refine ay (ai ?_);apply aN rfl<;>intro h
 ·exact ab h (by omega)
 refine ay (ai ?_);apply aN rfl<;>intro h
 ·exact ab h (by omega)
 refine cM (ai ?_);apply aN rfl<;>intro h
 ·exact ab h (by omega)
 refine ay (ai ?_);apply aN rfl<;>intro h
 ·exact ab h (by omega)
 refine ay (ai ?_);apply aN rfl<;>intro h
 ·exact ab h (by omega)
 refine bV (ai ?_);apply aN rfl<;>intro h
 ·exact ab h (by omega)
 refine ay (ai ?_);apply aN rfl<;>intro h
 ·exact ab h (by omega)
 refine ay (ai ?_);apply aN rfl<;>intro h
 ·exact ab h (by omega)
 refine cM (ai ?_);apply aN rfl<;>intro h
 ·exact ab h (by omega)
 refine bV (ai ?_);apply aN rfl<;>intro h
 ·exact ab h (by omega)
 refine ay (ai ?_);apply aN rfl<;>intro h
 ·exact ab h (by omega)
 refine cM (ai ?_);apply aN rfl<;>intro h
 ·exact ab h (by omega)
 refine ay (ai ?_);apply aN rfl<;>intro h
 ·refine aQ ?_;simp -dsimp only[simprocAttr,↓aa,zp,hx];refine ai ?_;refine aq ?_;simp -dsimp only[simprocAttr,↓aa,zp,zr,Tryz.results115];refine⟨bB,vv EK,?_⟩;simp[Mach.exec,jQ,uH]
 exact af h (by omega)
theorem Ar(m:Mach)(i:Ins)(args:List SV)(h0:i.op≠0)(h1:¬(1<=i.op∧i.op<=7))(h8:i.op≠8)(h9:i.op≠9)(LI:i.op≠10∧i.op≠11∧i.op≠12∧i.op≠21)(T6:i.op≠22∧i.op≠23∧i.op≠24)(kH:i.op≠100):m.exec i args=m.effect i args:=by
 unfold Mach.exec;rw[if_neg h0,if_neg h1,if_neg h8,if_neg h9,if_neg (by omega),if_neg (by omega),if_neg kH]
theorem nL{O O':List ak}(bB:∀o∈O,o.upto O.length)(i:Ins)(args:List SV)(hl:∀v∈args,SV.bj O.length v)(h0:i.op≠0)(h1:¬(1<=i.op∧i.op<=7))(h8:i.op≠8)(h9:i.op≠9)(LI:i.op≠10∧i.op≠11∧i.op≠12∧i.op≠21)(T6:i.op≠22∧i.op≠23∧i.op≠24)(kH:i.op≠100)(lL:2<O.length)(v:SV)(t:Int)(hv:SV.bj O.length v)
  (hC:bd Tryz.prog 137 O [.mp 2 0,i.enc,.aA 4 (args.map SV.enc) .sh] (fun r O1=>r=.cw [v.enc,aI t]∧O1=O')) (hlen:O.length=O'.length) (nu:∀o∈O',o.upto O'.length) :
  bd Tryz.prog 115 O [.mp 2 0,i.enc,.aA 4 (args.map SV.enc) .sh] (fun r O1=>r=.cw [v.enc,aI t]∧O1=O'):=by
 have dr:=bd.frame hC hlen.symm ⟨lL,i.aO _,⟨SV.ag hl,trivial⟩,trivial⟩ bB;rw[hlen]at hv;refine zf true O.length Tryz.func115 Tryz.ntmps115 ?_;dsimp only[Tmp,TypeId,slotsOf];refine ay (ai ?_);refine bU 4 0 ([aI i.to,aI i.op,aI i.n,aJ i.args]) rfl rfl (by rfl) ?_;simp -dsimp only[simprocAttr,↓aa,zp];refine bV (ai ?_);refine ah ?_;refine ay (ai ?_);apply aN rfl<;>intro h
 ·exact ab h (by omega)
 refine bV (ai ?_);apply aN rfl<;>intro h
 ·exact ab h (by omega)
 refine ay (ai ?_);apply aN rfl<;>intro h
 ·exact ab h (by omega)
 refine ay (ai ?_);apply aN rfl<;>intro h
 ·exact ab h (by omega)
 refine ay (ai ?_);apply aN rfl<;>intro h
 ·exact ab h (by omega)
 refine ay (ai ?_);apply aN rfl<;>intro h
 ·exact ab h (by omega)
 refine ay (ai ?_);apply aN rfl<;>intro h
 ·exact ab h (by omega)
 refine cM (ai ?_);apply aN rfl<;>intro h
 ·exact ab h (by omega)
 refine ay (ai ?_);apply aN rfl<;>intro h
 ·exact ab h (by omega)
 refine ay (ai ?_);apply aN rfl<;>intro h
 ·exact ab h (by omega)
 refine bV (ai ?_);apply aN rfl<;>intro h
 ·exact ab h (by omega)
 refine ay (ai ?_);apply aN rfl<;>intro h
 ·exact ab h (by omega)
 refine ay (ai ?_);apply aN rfl<;>intro h
 ·exact ab h (by omega)
 refine cM (ai ?_);apply aN rfl<;>intro h
 ·exact ab h (by omega)
 refine bV (ai ?_);apply aN rfl<;>intro h
 ·exact ab h (by omega)
 refine ay (ai ?_);apply aN rfl<;>intro h
 ·exact ab h (by omega)
 refine cM (ai ?_);apply aN rfl<;>intro h
 ·exact ab h (by omega)
 refine ay (ai ?_);apply aN rfl<;>intro h
 ·exact ab h (by omega)
 refine kp ?_;refine ay ?_;refine .inr (.inl ⟨_,_,dr _,.inl (ao ?_)⟩);simp -dsimp only[simprocAttr,↓aa,zp,hlen];refine ai ?_;refine aq ?_;simp -dsimp only[simprocAttr,↓aa,zp,zr,Tryz.results115,hlen];exact⟨nu,vv hv⟩
theorem Lv{u:cd}{m:Mach}{O:List ak}(bB:∀o∈O,o.upto O.length)(Ep:O[2]?=some (.cells (aB u m)))(i:Ins)(size fill:SV)(hs:SV.bj O.length size)(hf:SV.bj O.length fill)
  (jQ:i.op=16) (FM:0<=m.left) (h2:m.left<=2 ^ 40) (rM:m.short=false) (hk:size.kind=0) (nS:0<=size.n) (vR:size.n<=1024) (hp:size.n<=m.left) :
  bd Tryz.prog 115 O [.mp 2 0,i.enc,.aA 4 [size.enc,fill.enc] .sh] (fun r O'=>r=.cw [.agg [aI 3,aI 0,.aA 4 [] .sh,.mp (O.length+8) 0],aI 0]∧O'=O.set 2 (.cells (aB u (m.fG size.n))) ++
   [.gone,.cells [aI 3,aI 0,.aA 4 [] .sh,.mp (O.length+8) 0],.gone,.cells [aI 3,aI 0,.aA 4 [] .sh,.mp (O.length+8) 0],.gone,.gone,.cells [aI 3,aI 0,.aA 4 [] .ex,.mp (O.length+8) 0],.cells (an ((List.replicate size.n.toNat fill).map SV.enc)),.cells [.ms (O.length+7) 0 size.n.toNat size.n.toNat]]):=by
 have F8:∀o∈O++[.gone,.cells [aI 0,aI 0,.aA 4 [] .ex,.v (.pointer none)]],o.upto (O++[ak.gone,.cells [aI 0,aI 0,.aA 4 [] .ex,.v (.pointer none)]]).length:=fun o ho=>by
  rcases List.mem_append.1 ho with ho|ho
  ·exact ak.b8 (by simp) (bB o ho)
  simp only[List.mem_cons,List.mem_nil_iff,or_false]at ho;rcases ho with rfl|rfl
  ·trivial
  simp[ak.upto,av,ae.upto]
 have VA:(O++[ak.gone,.cells [aI 0,aI 0,.aA 4 [] .ex,.v (.pointer none)]]).length=O.length+2:=by simp
 have dr:=FE F8 (cm Ep) i size fill (hs.mono (by simp)) (hf.mono (by simp)) jQ FM h2 rM hk nS vR hp;have dT:=bq bB Ep (ds:=aB u (m.fG size.n)) (fun h=>bS h (oU m size.n));rw[kS Ep,VA]at dr;obtain⟨O1,dH⟩:∃O1,O1=O.set 2 (.cells (aB u (m.fG size.n))):=⟨_,rfl⟩
 have hlen:O.length=O1.length:=by rw[dH];simp
 simp only[<-dH]at dr dT ⊢;rw[hlen]at dT;have fL:∀v∈List.replicate size.n.toNat fill,SV.bj (O1.length+9) v:=fun v hv=>by
  rw[(List.mem_replicate.1 hv).2];exact hf.mono (by omega)
 have hc:=SV.jj fL;have h0:i.op≠0:=by omega
 generalize da:an ((List.replicate size.n.toNat fill).map SV.enc)=row at *;refine zf true (O.length+9) Tryz.func115 Tryz.ntmps115 ?_;dsimp only[Tmp,TypeId,slotsOf];refine ay (ai ?_);refine bU 4 0 ([aI i.to,aI i.op,aI i.n,aJ i.args]) rfl rfl (by rfl) ?_;simp -dsimp only[simprocAttr,↓aa,zp];refine bV (ai ?_);refine ah ?_;refine ay (ai ?_);apply aN rfl<;>intro h
 ·exact ab h (by omega)
 refine bV (ai ?_);apply aN rfl<;>intro h
 ·exact ab h (by omega)
 refine ay (ai ?_);apply aN rfl<;>intro h
 ·exact ab h (by omega)
 refine ay (ai ?_);apply aN rfl<;>intro h
 ·exact ab h (by omega)
 refine ay (ai ?_);apply aN rfl<;>intro h
 ·exact ab h (by omega)
 refine ay (ai ?_);apply aN rfl<;>intro h
 ·exact ab h (by omega)
 refine ay (ai ?_);apply aN rfl<;>intro h
 ·exact ab h (by omega)
 refine cM (ai ?_);apply aN rfl<;>intro h
 ·exact ab h (by omega)
 refine ay (ai ?_);apply aN rfl<;>intro h
 ·exact ab h (by omega)
 refine ay (ai ?_);apply aN rfl<;>intro h
 ·exact ab h (by omega)
 refine bV (ai ?_);apply aN rfl<;>intro h
 ·exact ab h (by omega)
 refine ay (ai ?_);apply aN rfl<;>intro h
 ·exact ab h (by omega)
 refine ay (ai ?_);apply aN rfl<;>intro h
 ·exact ab h (by omega)
 refine cM (ai ?_);apply aN rfl<;>intro h
 ·exact ab h (by omega)
 refine bV (ai ?_);apply aN rfl<;>intro h
 ·exact ab h (by omega)
 refine ay (ai ?_);apply aN rfl<;>intro h
 ·exact ab h (by omega)
 refine cM (ai ?_);apply aN rfl<;>intro h
 ·exact ab h (by omega)
 refine ay (ai ?_);apply aN rfl<;>intro h
 ·exact ab h (by omega)
 refine kp ?_;refine ay ?_;refine .inr (.inl ⟨_,_,dr,.inl (ao ?_)⟩);simp -dsimp only[simprocAttr,↓aa,zp,hlen];refine ai ?_;refine aq ?_;simp -dsimp only[simprocAttr,↓aa,zp,zr,Tryz.results115,hlen];rw[oZ];refine⟨fun o ho=>?_,by simp[av,ae.upto],rfl⟩;rcases List.mem_append.1 ho with ho|ho
 ·exact ak.b8 (by omega) (dT o ho)
 simp only[List.take_succ_cons,List.take_zero,List.mem_cons,List.mem_nil_iff,or_false]at ho;rcases ho with rfl|rfl|rfl|rfl|rfl|rfl|rfl|rfl|rfl
 ·trivial
 ·simp[ak.upto,av,ae.upto]
 ·trivial
 ·simp[ak.upto,av,ae.upto]
 ·trivial
 ·trivial
 ·simp[ak.upto,av,ae.upto]
 ·exact hc
 simp[ak.upto,av,ae.upto]
theorem pD:∀{es:List (Int×SV)} {ps:List Int} {l:List SV} {j:Nat} {p:Int} {a:SV},ps[j]?=some p->l[j]?=some a->gl es (ps.take (j+1)) (l.take (j+1))=eT (gl es (ps.take j) (l.take j)) p a
 | es,q::ps,b::l,0,p,a,h1,h2=>by
  simp only[List.getElem?_cons_zero,Option.some.injEq]at h1 h2;subst h1;subst h2;simp[gl]
 | es,q::ps,b::l,j+1,p,a,h1,h2=>by
  have ih:=pD (es:=eT es q b) (ps:=ps) (l:=l) (j:=j) (by simpa using h1) (by simpa using h2);simp only[List.take_succ_cons,gl];exact ih
 | _,[],_,_,_,_,h1,_=>by simp at h1
 | _,_::_,[],_,_,_,_,h2=>by simp at h2
theorem tX(es:List (Int×SV))(ps:List Int)(l:List SV):gl es (ps.take 0) (l.take 0)=es:=by simp[gl]
theorem kv:∀{es:List (Int×SV)} {ps:List Int} {l:List SV} {e:Int×SV},e∈gl es ps l->e∈es∨e.2∈l
 | es,[],_,e,h=>.inl (by simpa[gl]using h)
 | es,_::_,[],e,h=>.inl (by simpa[gl]using h)
 | es,p::ps,a::l,e,h=>by
  simp only[gl]at h;rcases kv h with h|h
  ·rcases js h with h|h
   ·exact .inl h
   exact .inr (by simp[h])
  exact .inr (by simp[h])
theorem kh{u:cd}{k:Int}(h0:0<=k)(h1:k<u.fns.length):u.fns[k.toNat]?=some (cx u k):=by
 have bf:k.toNat<u.fns.length:=by omega
 simp[cx,bf]
theorem dP{f:Func}{k:Int}(h0:0<=k)(h1:k<f.blocks.length):f.blocks[k.toNat]?=some (aF f k):=by
 have bf:k.toNat<f.blocks.length:=by omega
 simp[aF,bf]
theorem Al{es:List (Int×SV)}{n:Nat}(h:∀e∈es,SV.bj n e.2):kW n (es.map gz):=by
 induction es with
 | nil=>trivial
 | cons e r ih=>exact⟨(h e (by simp)).aO,ih fun x hx=>h x (by simp[hx])⟩
theorem Au{u:cd}{m:Mach}{O:List ak}(bB:∀o∈O,o.upto O.length)(h0:O[2]?=some (.cells (aB u m)))(f:Fr)(hf:O[f.bR]?=some (.cells (aW f)))(hv:O[f.dn]?=some (.map (.int .i64) (f.vals.map gz)))
  (hu:∀e∈f.vals,SV.bj O.length e.2) (ZM:2≠f.bR) (ZN:2≠f.dn) (tF:f.bR≠f.dn) (qM:0<=f.fn∧f.fn<u.fns.length) (e:Edge) (he:x7 (cx u f.fn) e) (f':Fr)
  (ff:f' = { f with blk:=e.block,pos:=0,vals:=gl f.vals (aF (cx u f.fn) e.block).params (fZ f.vals e.args) }) :
  bd Tryz.prog 129 O [.mp 2 0,.mp f.bR 0,e.enc] (fun r O'=>r=.cw []∧O'=(O.set f.bR (.cells (aW f'))).set f.dn (.map (.int .i64) (f'.vals.map gz))):=by
 have gH:=jw bB hf hv hu e.args he.len;have hF:=kh qM.1 qM.2;have hB:=dP he.lo he.hi;have mG:=he.args;have ix:=he.lo;have WY:=he.len;have ga:=I hf;have Ot:=I hv;have eK:=I h0;have XG:=ot hu e.args;have jc:(fZ f.vals e.args).length=e.args.length:=by simp[fZ]
 generalize hTk:fZ f.vals e.args=T at *;generalize aF (cx u f.fn) e.block=B at *;generalize cx u f.fn=F at *;have hTm:=SV.ag XG;have hc:[aI f.fn,aI e.block,aI 0,aI f.to,.mm f.dn]=aW f':=by
  rw[ff];rfl
 obtain⟨O1,dH⟩:∃O1,O1=O.set f.bR (.cells (aW f')):=⟨_,rfl⟩
 have hlen:O.length=O1.length:=by rw[dH];simp
 have hs:=dk hf;have rp:O1[2]?=some (.cells (aB u m)):=by rw[dH];exact br h0 ZM.symm
 have nC:O1[f.bR]?=some (.cells (aW f')):=by rw[dH];exact hs _
 have AU:O1[f.dn]?=some (.map (.int .i64) (f.vals.map gz)):=by rw[dH];exact br hv tF
 have dT:∀o∈O1,o.upto O1.length:=by
  rw[<-hlen,dH];refine bq bB hf fun h=>?_;simp only[aW,av,ae.upto,true_and,and_true]at h ⊢;rw[ff];exact h
 rw[<-dH];have Zg:∀x,(O1.set f.dn x)[2]?=some (.cells (aB u m)):=fun x=>br rp ZN.symm;have IC:∀x,(O1.set f.dn x)[f.bR]?=some (.cells (aW f')):=fun x=>br nC tF.symm;have TC:∀x,(O1.set f.dn x)[f.dn]?=some x:=dk AU;unfold aB at rp Zg;have eE:=hf;unfold aW at eE;have SC:aW f'=[aI f.fn,aI e.block,aI 0,aI f.to,.mm f.dn]:=hc.symm;have Sx:=nC;have Sz:=IC;rw[SC]at Sx Sz;have uU:O1.set f.dn (.map (.int .i64) (f.vals.map gz))=O1:=l8 AU;have eo:∀x,(O1.set f.dn x).take O1.length=O1.set f.dn x:=fun x=>ct;refine zf true O.length Tryz.func129 Tryz.ntmps129 ?_;dsimp only[Tmp,TypeId,slotsOf];refine ay (ai ?_);refine aV 5 ([aI e.block,aJ e.args]) [(0,.mp 2 0),(1,.mp f.bR 0),(5,.ip none [aI e.block,aJ e.args])] rfl (by rfl) (by omega) (by simp[bw,a8,Go.Av.look]) ?_ ?_ ?_
 ·exact bB
 ·simp[av,ae.upto,ax,ga,eK]
 refine ay ?_;refine .inr (.inr ⟨_,gH,ao (zj ?_)⟩);refine ai ?_;refine aQ ?_;simp -dsimp only[simprocAttr,↓aa,zp,eE,hs,List.set_set,hc,<-dH];refine ai ?_;refine aQ ?_;simp -dsimp only[simprocAttr,↓aa,zp,rp,Sx,hF,hB]
 repeat(refine⟨by omega,?_⟩)
 refine⟨ob (by kernel_rfl),?_⟩;refine ai ?_;refine ah (aL (ι:={j:Nat // j<=B.params.length}) (fun j=>⟨54,[(0,.mp 2 0),(1,.mp f.bR 0),(5,.ip none [aI e.block,aJ e.args]),(6,.aA 4 (T.map SV.enc) .sh),(37,aJ B.params),(38,aI B.params.length),(39,aI j.1)],O1.set f.dn (.map (.int .i64) ((gl f.vals (B.params.take j.1) (T.take j.1)).map gz))⟩) (fun j=>B.params.length-j.1) ⟨0,by omega⟩ ?_ ?_)
 ·refine zq rfl ?_ ?_;simp -dsimp only[simprocAttr,↓aa,zp,zc];rw[tX,uU]
 rintro⟨j,hj⟩;refine ay (ai ?_);apply gJ rfl<;>intro h
 ·refine cj ?_;have bf:j<B.params.length:=by simpa using h
  obtain⟨p,hp⟩:∃p,B.params[j]?=some p:=⟨B.params[j],by simp[bf]⟩
  obtain⟨a,ha⟩:∃a,T[j]?=some a:=⟨T[j]'(by omega),List.getElem?_eq_getElem _⟩
  refine aH (ah ?_);refine aQ ?_;simp -dsimp only[simprocAttr,↓aa,zp,hp];refine ai ?_;refine jX ?_;simp -dsimp only[simprocAttr,↓aa,zp,Sz,ha,TC,qU,<-pD hp ha,List.set_set]
  repeat(refine⟨by omega,?_⟩)
  refine⟨ob (by kernel_rfl),?_⟩;refine ai ?_;refine cM ?_
  repeat(refine⟨by omega,?_⟩)
  refine eZ ?_;refine⟨⟨j+1,bf⟩,by simp;omega,?_⟩;refine zq rfl ?_ ?_;simp -dsimp only[simprocAttr,↓aa,zp,zc]
  ·exact Sub.int (by simp)
  rfl
 refine aK ?_;simp -dsimp only[bI,ne_eq,Nat.reduceEqDiff,reduceCtorEq];have rL:j=B.params.length:=by simp at h;omega
 subst rL;have yA:T.take B.params.length=T:=List.take_of_length_le (by omega)
 skip
 simp -dsimp only[simprocAttr,↓aa,zp,zr,Tryz.results129,hlen,yA,List.take_length,eo,List.length_set];refine⟨bt dT (Al fun x hx=>?_),trivial,by rw[ff]⟩;rw[<-hlen];rcases kv hx with q|q
 ·exact hu x q
 exact XG _ q
def kF(l:List Int):Nat->Int
 | 0=>0
 | k+1 =>
  match l[l.length-(k+1)]? with
  | none=>0
  | some c=>if !decide (fv c)then 4 else if nP (l.take (l.length-(k+1))) c then 7 else kF l k
def nJ(f:Func):List Edge->Int
 | []=>0
 | e::r=>if !within e.block 1 ((f.blocks.length:Int)-1)then 4 else if e.args.length≠(aF f e.block).params.length then 3 else nJ f r
def k7(f:Func)(t:Term):Int :=
 if !dV t then 3
 else if 256<t.cases.length then 2
 else if t.kind=4∧within t.n 1 6=false then 4
 else if kF t.cases t.cases.length≠0 then kF t.cases t.cases.length
 else nJ f t.to
theorem zV{l:List Int}{j:Nat}{c:Int}(h:l[j]?=some c):kF l (l.length-j)=if !decide (fv c)then 4 else if nP (l.take j) c then 7 else kF l (l.length-(j+1)):=by
 have bf:=I h;obtain⟨k,hk⟩:∃k,l.length-j=k+1:=⟨l.length-j-1,by omega⟩
 have hj:l.length-(k+1)=j:=by omega
 rw[hk];simp only[kF,hj,h];rw[show l.length-(j+1)=k by omega]
theorem Ah{f:Func}{l:List Edge}{j:Nat}{e:Edge}(h:l[j]?=some e):nJ f (l.drop j)=if !within e.block 1 ((f.blocks.length:Int)-1)then 4 else if e.args.length≠(aF f e.block).params.length then 3 else nJ f (l.drop (j+1)):=by
 have bf:=I h;rw[List.getElem?_eq_getElem bf]at h;simp only[Option.some.injEq]at h;rw[List.drop_eq_getElem_cons bf,h];rfl
theorem within_iff{n lo hi:Int}:within n lo hi=true↔lo<=n∧n<=hi:=by
 simp[within]
theorem Ak(f:Func)(t:Term)(gg:t.cases.length<=2 ^ 60)(pN:f.blocks.length<=2 ^ 60):bA Tryz.prog 80 [f.enc,t.enc] (aI (k7 f t)):=by
 have lD:=DS t gg;have hw:=dF t.n 1 6;obtain⟨R,hR⟩:∃R,R=k7 f t:=⟨_,rfl⟩
 rw[<-hR];unfold k7 at hR;generalize dV t=sh at *;have AE:∀e:Edge,bA Tryz.prog 30 [aI e.block,aI 1,aI ((f.blocks.length:Int)-1)] (.v (.bool (within e.block 1 ((f.blocks.length:Int)-1)))):=fun e=>dF _ _ _;have Y':(t.kind=4∧within t.n 1 6=false)∨(¬(t.kind=4∧within t.n 1 6=false)∧((decide (t.kind=4)=false)∨(decide (t.kind=4)=true∧within t.n 1 6=true))):=by
  by_cases h4:t.kind=4
  ·cases OK:within t.n 1 6
   ·exact .inl ⟨h4,rfl⟩
   exact .inr ⟨by simp,.inr ⟨decide_eq_true h4,rfl⟩⟩
  exact .inr ⟨fun q=>h4 q.1,.inl (decide_eq_false h4)⟩
 refine zf true 0 Tryz.func80 Tryz.ntmps80 ?_;dsimp only[Tmp,TypeId,slotsOf];refine ay (ai ?_);refine aC 2 0 (.ip none [aI f.name,aw f.blocks]) rfl (by simp[ak.aD]) trivial rfl ?_ ?_;rotate_left;simp -dsimp only[simprocAttr,↓aa,zp]
 ·refine aC 3 1 (.ip none [aI t.kind,aI t.arg,aI t.n,aJ t.cases,aG t.to]) rfl (by simp[ak.aD]) trivial rfl ?_ ?_;rotate_left;simp -dsimp only[simprocAttr,↓aa,zp]
  ·by_cases yD:sh=false∨256<t.cases.length∨(t.kind=4∧within t.n 1 6=false)
   ·refine aH (ah ?_);refine ay ?_;refine zi lD ?_;refine ai ?_;cases sh with
    | false =>
     refine cB rfl ?_;refine ay (ai ?_);refine aq ?_;simp -dsimp only[simprocAttr,↓aa,zp,zr,Tryz.results80];simp[hR]
    | true =>
     refine cv rfl ?_;by_cases hc:256<t.cases.length
     ·have hd:decide ((256:Int)<t.cases.length)=true:=decide_eq_true (by omega);refine aQ ?_;simp -dsimp only[simprocAttr,↓aa,zp,hd];refine ai ?_;refine cB rfl ?_;refine ay (ai ?_);refine aq ?_;simp -dsimp only[simprocAttr,↓aa,zp,zr,Tryz.results80];simp[hR,hc]
     have hd:decide ((256:Int)<t.cases.length)=false:=decide_eq_false (by omega);have hk:t.kind=4∧within t.n 1 6=false:=by
      rcases yD with q|q|q
      ·cases q
      ·exact absurd q hc
      exact q
     have LW:decide (t.kind=4)=true:=decide_eq_true hk.1;rw[hk.2]at hw;refine aQ ?_;simp -dsimp only[simprocAttr,↓aa,zp,hd];refine ai ?_;refine cv rfl ?_;refine aQ ?_;simp -dsimp only[simprocAttr,↓aa,zp,LW];refine zi hw ?_;refine ai ?_;refine cB rfl ?_;refine ay (ai ?_);refine aq ?_;simp -dsimp only[simprocAttr,↓aa,zp,zr,Tryz.results80];simp[hR,hc,hk]
   have VU:sh=true:=by
    cases sh
    ·exact absurd (.inl rfl) yD
    rfl
   subst VU;have hc:¬256<t.cases.length:=fun q=>yD (.inr (.inl q));have hk:¬(t.kind=4∧within t.n 1 6=false):=fun q=>yD (.inr (.inr q));have hd:decide ((256:Int)<t.cases.length)=false:=decide_eq_false (by omega);rw[if_neg (by simp),if_neg hc,if_neg hk]at hR;have Vz:=Y'.resolve_left hk;refine fY (⟨78,[(2,.ip none [aI f.name,aw f.blocks]),(3,.ip none [aI t.kind,aI t.arg,aI t.n,aJ t.cases,aG t.to]),(4,aI 0)],[.gone,.gone]⟩) ?_ ?_
   ·refine ah ?_;refine ay ?_;refine zi lD ?_;refine ai ?_;refine cv rfl ?_;refine aQ ?_;simp -dsimp only[simprocAttr,↓aa,zp,hd];refine ai ?_;refine cv rfl ?_;rcases Vz.2 with LW|⟨LW,rP⟩
    ·refine aQ ?_;simp -dsimp only[simprocAttr,↓aa,zp,LW];refine ai ?_;refine cv rfl ?_;refine aX ?_;show ba _ _;refine zq rfl ?_ ?_;simp -dsimp only[simprocAttr,↓aa,zp,zc];rfl
    rw[rP]at hw;refine aQ ?_;simp -dsimp only[simprocAttr,↓aa,zp,LW];refine zi hw ?_;refine ai ?_;refine cv rfl ?_;refine aX ?_;show ba _ _;refine zq rfl ?_ ?_;simp -dsimp only[simprocAttr,↓aa,zp,zc];rfl
   refine bV (ai ?_);refine ah (aL (ι:={j:Nat // j<=t.cases.length∧kF t.cases t.cases.length=kF t.cases (t.cases.length-j)}) (fun j=>⟨78,[(2,.ip none [aI f.name,aw f.blocks]),(3,.ip none [aI t.kind,aI t.arg,aI t.n,aJ t.cases,aG t.to]),(4,aI 0),(29,aJ t.cases),(30,aI t.cases.length),(31,aI j.1)],[.gone,.gone]⟩) (fun j=>t.cases.length-j.1) ⟨0,by omega,rfl⟩ ?_ ?_)
   ·refine zq rfl ?_ ?_;simp -dsimp only[simprocAttr,↓aa,zp,zc];rfl
   rintro⟨j,hj,gh⟩;refine ay (ai ?_);apply gJ rfl<;>intro h
   ·refine cj ?_;have bf:j<t.cases.length:=by simpa using h
    obtain⟨c,Q5⟩:∃c,t.cases[j]?=some c:=⟨t.cases[j],by simp[bf]⟩
    have cc:=zV Q5;rw[<-gh]at cc;have Vw:=sy c;have CZ:=pk (t.cases.take j) c;refine aH (ah ?_);refine aQ ?_;simp -dsimp only[simprocAttr,↓aa,zp,Q5];refine ai ?_;refine ah ?_;refine ay ?_;refine zi Vw ?_;refine ai ?_;cases hw:decide (fv c)with
    | false =>
     rw[hw]at cc;refine cB rfl ?_;refine ay (ai ?_);refine aq ?_;simp -dsimp only[simprocAttr,↓aa,zp,zr,Tryz.results80];simp[hR,cc]
    | true =>
     rw[hw]at cc;refine cv rfl ?_;refine aQ ?_;simp -dsimp only[simprocAttr,↓aa,zp,Int.toNat_natCast,List.drop_zero,<-List.map_take]
     repeat(refine⟨by omega,?_⟩)
     refine zi CZ ?_;refine ai ?_;cases hh:nP (t.cases.take j) c with
     | true =>
      rw[hh]at cc;refine cB rfl ?_;refine ay (ai ?_);refine aq ?_;simp -dsimp only[simprocAttr,↓aa,zp,zr,Tryz.results80];simp[hR,cc]
     | false =>
      rw[hh]at cc;refine cv rfl ?_;refine Wn ?_;refine cM ?_
      repeat(refine⟨by omega,?_⟩)
      refine eZ ?_;refine⟨⟨j+1,bf,by rw[cc];simp⟩,by simp;omega,?_⟩;refine zq rfl ?_ ?_;simp -dsimp only[simprocAttr,↓aa,zp,zc]
      ·exact Sub.int (by simp)
      rfl
   refine aK ?_;simp -dsimp only[bI,ne_eq,Nat.reduceEqDiff,reduceCtorEq];have rL:j=t.cases.length:=by simp at h;omega
   subst rL;have hz:kF t.cases t.cases.length=0:=by rw[gh,Nat.sub_self];rfl
   rw[hz,if_neg (by simp)]at hR;refine bV (ai ?_);refine fD 49 rfl (fun jc=>?_);simp only[List.length_map]at jc;refine ah (aL (ι:={j:Nat // j<=t.to.length∧R=nJ f (t.to.drop j)}) (fun j=>⟨78,[(2,.ip none [aI f.name,aw f.blocks]),(4,aI 0),(49,aG t.to),(50,aI t.to.length),(51,aI j.1)],[.gone,.gone]⟩) (fun j=>t.to.length-j.1) ⟨0,by omega,hR⟩ ?_ ?_)
   ·refine zq rfl ?_ ?_;simp -dsimp only[simprocAttr,↓aa,zp,zc];rfl
   rintro⟨j,hj,gh⟩;refine ay (ai ?_);apply gJ rfl<;>intro h
   ·refine cj ?_;have bf:j<t.to.length:=by simpa using h
    obtain⟨e,tx⟩:∃e,t.to[j]?=some e:=⟨t.to[j],by simp[bf]⟩
    have cc:=Ah (f:=f) tx;rw[<-gh]at cc;have F9:=AE e;refine aH (ah ?_);refine aQ ?_;simp -dsimp only[simprocAttr,↓aa,zp,tx];refine ai ?_;refine aC 8 2 (.ip none [aI e.block,aJ e.args]) rfl (by simp[ak.aD]) trivial rfl ?_ ?_;rotate_left;simp -dsimp only[simprocAttr,↓aa,zp]
    ·refine bp 2 [(2,.ip none [aI f.name,aw f.blocks]),(4,aI 0),(8,.ip none [aI e.block,aJ e.args]),(49,aG t.to),(50,aI t.to.length),(51,aI j)] (by simp) (by omega) [.gone,.gone] ?_ ?_ ?_ ?_ ?_
     ·rfl
     ·simp[ak.upto]
     ·simp[eQ,St.get,bw,a8,Go.Av.look,Sub.refl]
     ·simp[av,ae.upto,ax,Block.ag,Edge.ag]
     cases hw:within e.block 1 ((f.blocks.length:Int)-1)with
     | false =>
      rw[hw]at cc F9;refine ah ?_;refine ay ?_
      repeat(refine⟨by omega,?_⟩)
      refine zi F9 ?_;refine ai ?_;refine cB rfl ?_;refine ay (ai ?_);refine aq ?_;simp -dsimp only[simprocAttr,↓aa,zp,zr,Tryz.results80];simp[cc]
     | true =>
      rw[hw]at cc F9;have hwi:=within_iff.1 hw;have hB:=dP (f:=f) (k:=e.block) (by omega) (by omega);generalize aF f e.block=B at *;by_cases hl:e.args.length=B.params.length
      ·have kK:decide ((e.args.length:Int)=B.params.length)=true:=decide_eq_true (by omega);refine ah ?_;refine ay ?_
       repeat(refine⟨by omega,?_⟩)
       refine zi F9 ?_;refine ai ?_;refine cv rfl ?_;refine aQ ?_;simp -dsimp only[simprocAttr,↓aa,zp,hB,kK]
       repeat(refine⟨by omega,?_⟩)
       refine⟨ob (by kernel_rfl),?_⟩;refine ai ?_;refine cv rfl ?_;refine Wn ?_;refine cM ?_
       repeat(refine⟨by omega,?_⟩)
       refine eZ ?_;refine⟨⟨j+1,bf,by rw[cc];simp[hl]⟩,by simp;omega,?_⟩;refine zq rfl ?_ ?_;simp -dsimp only[simprocAttr,↓aa,zp,zc]
       ·exact Sub.int (by simp)
       rfl
      have kK:decide ((e.args.length:Int)=B.params.length)=false:=decide_eq_false (by omega);refine ah ?_;refine ay ?_
      repeat(refine⟨by omega,?_⟩)
      refine zi F9 ?_;refine ai ?_;refine cv rfl ?_;refine aQ ?_;simp -dsimp only[simprocAttr,↓aa,zp,hB,kK]
      repeat(refine⟨by omega,?_⟩)
      refine⟨ob (by kernel_rfl),?_⟩;refine ai ?_;refine cB rfl ?_;refine ay (ai ?_);refine aq ?_;simp -dsimp only[simprocAttr,↓aa,zp,zr,Tryz.results80];simp[cc,hl]
    exact bM.mp rfl rfl
   refine aK ?_;simp -dsimp only[bI,ne_eq,Nat.reduceEqDiff,reduceCtorEq];have rL:j=t.to.length:=by simp at h;omega
   subst rL;rw[List.drop_length]at gh;refine ay (ai ?_);refine aq ?_;simp -dsimp only[simprocAttr,↓aa,zp,zr,Tryz.results80];simp[gh,nJ]
  exact bM.mp rfl rfl
 exact bM.mp rfl rfl
abbrev Defs:=List (Int×Int×Int)
def eD(p:Int×Int):ae:=.agg [aI p.1,aI p.2]
def fa(e:Int×Int×Int):Value×ae:=(.int .i64 e.1,eD e.2)
def fB:Defs->Int->Option (Int×Int)
 | [],_=>none
 | (k,p)::r,key=>if k=key then some p else fB r key
theorem jr(es:Defs)(k:Int):eY (es.map fa) (.int .i64 k)=(fB es k).map eD:=by
 induction es with
 | nil=>rfl
 | cons p r ih =>
  obtain⟨a,v⟩:=p;simp only[List.map_cons,fa,eY,fB,oG,decide_eq_true_eq];split
  ·rfl
  exact ih
theorem JB{es:Defs}{k:Int}(p:Int×Int)(h:fB es k=none):gf (es.map fa) (.int .i64 k) (.agg [aI p.1,aI p.2])=(es++[(k,p)]).map fa:=by
 induction es with
 | nil=>rfl
 | cons q r ih =>
  obtain⟨a,v⟩:=q;simp only[fB]at h;split at h
  ·cases h
  rename_i cq;simp only[List.map_cons,fa,gf,oG,decide_eq_true_eq,if_neg cq,List.cons_append];rw[<-ih h]
theorem fj(n:Nat)(es:Defs):kW n (es.map fa):=by
 induction es with
 | nil=>trivial
 | cons p r ih=>exact⟨⟨trivial,trivial,trivial⟩,ih⟩
def c9(ds:Defs)(v:Int)(p:Int×Int):Int×Defs :=
 if !within v 0 4095 then(4,ds)else if(fB ds v).isSome then(7,ds)else(0,ds++[(v,p)])
theorem Ae{O:List ak}(bB:∀o∈O,o.upto O.length){c d:Nat}{f:Func}{ds:Defs}(hc:O[c]?=some (.cells [aI f.name,aw f.blocks,.mm d]))(hd:O[d]?=some (.map (.int .i64) (ds.map fa)))(v:Int)(p:Int×Int) :
  bd Tryz.prog 86 O [.mp c 0,aI v,.agg [aI p.1,aI p.2]] (fun r O'=>r=aI (c9 ds v p).1∧O'=O.set d (.map (.int .i64) ((c9 ds v p).2.map fa))):=by
 have hw:=dF v 0 4095;have gg:=I hc;have eF:O.set d (.map (.int .i64) (ds.map fa))=O:=l8 hd;unfold c9;cases hv:within v 0 4095 with
 | false =>
  rw[hv]at hw;refine zf true O.length Tryz.func86 Tryz.ntmps86 ?_;dsimp only[Tmp,TypeId,slotsOf];refine ay (ai ?_);refine aV 5 ([aI p.1,aI p.2]) [(0,.mp c 0),(1,aI v),(5,.ip none [aI p.1,aI p.2]),(6,aI 0)] rfl (by rfl) (by omega) (by simp[bw,a8,Go.Av.look]) ?_ ?_ ?_
  ·exact bB
  ·simp[ae.upto,av,gg]
  refine bV ?_;refine zi hw ?_;refine ai ?_;refine cB rfl ?_;refine ay (ai ?_);refine aq ?_;simp -dsimp only[simprocAttr,↓aa,zp,zr,Tryz.results86];exact⟨bB,eF.symm⟩
 | true =>
  rw[hv]at hw;cases hl:fB ds v with
  | some q =>
   have hq:eD q=.agg [aI q.1,aI q.2]:=rfl;refine zf true O.length Tryz.func86 Tryz.ntmps86 ?_;dsimp only[Tmp,TypeId,slotsOf];refine ay (ai ?_);refine aV 5 ([aI p.1,aI p.2]) [(0,.mp c 0),(1,aI v),(5,.ip none [aI p.1,aI p.2]),(6,aI 0)] rfl (by rfl) (by omega) (by simp[bw,a8,Go.Av.look]) ?_ ?_ ?_
   ·exact bB
   ·simp[ae.upto,av,gg]
   refine bV ?_;refine zi hw ?_;refine ai ?_;refine cv rfl ?_;refine cj ?_;refine c7 ?_;simp -dsimp only[simprocAttr,↓aa,zp,hc,hd,jr,hl,hq,Option.map_some,Option.getD_some,Option.isSome_some];refine ai ?_;refine ay (ai ?_);refine cB rfl ?_;refine ay (ai ?_);refine aq ?_;simp -dsimp only[simprocAttr,↓aa,zp,zr,Tryz.results86];exact⟨bB,eF.symm⟩
  | none =>
   have jn:=JB p hl;have fb:=bt (k:=d) (x:=.map (.int .i64) ((ds++[(v,p)]).map fa)) bB (fj _ _);have eo:=ct (O:=O) (k:=d) (x:=.map (.int .i64) ((ds++[(v,p)]).map fa));refine zf true O.length Tryz.func86 Tryz.ntmps86 ?_;dsimp only[Tmp,TypeId,slotsOf];refine ay (ai ?_);refine aV 5 ([aI p.1,aI p.2]) [(0,.mp c 0),(1,aI v),(5,.ip none [aI p.1,aI p.2]),(6,aI 0)] rfl (by rfl) (by omega) (by simp[bw,a8,Go.Av.look]) ?_ ?_ ?_
   ·exact bB
   ·simp[ae.upto,av,gg]
   refine bV ?_;refine zi hw ?_;refine ai ?_;refine cv rfl ?_;refine cj ?_;refine c7 ?_;simp -dsimp only[simprocAttr,↓aa,zp,hc,hd,jr,hl,Option.map_none,Option.getD_none,Option.isSome_none];refine ai ?_;refine aV 7 ([aI 0,aI 0]) [(0,.mp c 0),(1,aI v),(5,.ip none [aI p.1,aI p.2]),(6,aI 0),(8,.v (.bool false))] rfl (by rfl) (by omega) (by simp[bw,a8,Go.Av.look]) ?_ ?_ ?_
   ·exact bB
   ·simp[ae.upto,av,gg]
   refine ay (ai ?_);refine cv rfl ?_;refine cj ?_;refine aQ ?_;simp -dsimp only[simprocAttr,↓aa,zp,hc,hd,jn];refine⟨ob (by kernel_rfl),?_⟩;refine ai ?_;refine ay (ai ?_);refine aq ?_;simp -dsimp only[simprocAttr,↓aa,zp,zr,Tryz.results86,eo,List.length_set];exact fb
def dw(k:Int):Defs->List Int->Int×Defs
 | ds,[]=>(0,ds)
 | ds,p::r=>if(c9 ds p (k,0)).1≠0 then c9 ds p (k,0)else dw k (c9 ds p (k,0)).2 r
def mK(k:Int):Int->Defs->List Ins->Int×Defs
 | _,ds,[]=>(0,ds)
 | n,ds,i::r=>if(c9 ds i.to (k,n+1)).1≠0 then c9 ds i.to (k,n+1)else if ka i≠0 then(ka i,(c9 ds i.to (k,n+1)).2)else mK k (n+1) (c9 ds i.to (k,n+1)).2 r
def fE(f:Func)(ds:Defs)(k:Int):Int×Defs :=
 if(dw k ds (aF f k).params).1≠0 then dw k ds (aF f k).params
 else if(mK k 0 (dw k ds (aF f k).params).2 (aF f k).ins).1≠0 then mK k 0 (dw k ds (aF f k).params).2 (aF f k).ins
 else(k7 f (aF f k).term,(mK k 0 (dw k ds (aF f k).params).2 (aF f k).ins).2)
theorem bK{α:Type}{l:List α}{j:Nat}{x:α}(h:l[j]?=some x):l.drop j=x::l.drop (j+1):=by
 have bf:=I h;rw[List.getElem?_eq_getElem bf]at h;simp only[Option.some.injEq]at h;rw[List.drop_eq_getElem_cons bf,h]
theorem Cm{O:List ak}(bB:∀o∈O,o.upto O.length){c d:Nat}(Vd:c≠d){f:Func}{ds:Defs}(hc:O[c]?=some (.cells [aI f.name,aw f.blocks,.mm d]))(hd:O[d]?=some (.map (.int .i64) (ds.map fa)))(k:Int)(KR:0<=k)(EA:k<f.blocks.length)
  (pN:f.blocks.length<=2 ^ 60) (gg:(aF f k).term.cases.length<=2 ^ 60) :
  bd Tryz.prog 58 O [.mp c 0,aI k] (fun r O'=>r=aI (fE f ds k).1∧O'=O.set d (.map (.int .i64) ((fE f ds k).2.map fa))):=by
 have hB:=dP KR EA;have Sg:=I hc;obtain⟨R,hR⟩:∃R,R=fE f ds k:=⟨_,rfl⟩
 rw[<-hR];unfold fE at hR;have mH:=Ak f (aF f k).term gg pN;generalize aF f k=B at *;have W2:∀x,(O.set d x)[c]?=some (.cells [aI f.name,aw f.blocks,.mm d]):=fun x=>br hc Vd.symm;have YI:=dk hd;have F8:∀(es:Defs),∀o∈O.set d (.map (.int .i64) (es.map fa)),o.upto (O.set d (.map (.int .i64) (es.map fa))).length:=fun es=>by
  rw[List.length_set];exact bt bB (fj _ _)
 have Sk:∀(es:Defs) (v:Int) (p:Int×Int),bd Tryz.prog 86 (O.set d (.map (.int .i64) (es.map fa))) [.mp c 0,aI v,.agg [aI p.1,aI p.2]] (fun r O'=>r=aI (c9 es v p).1∧O'=O.set d (.map (.int .i64) ((c9 es v p).2.map fa))):=fun es v p=>by
  have h:=Ae (F8 es) (W2 _) (YI (.map (.int .i64) (es.map fa))) v p;rw[List.set_set]at h;exact h
 have eF:O.set d (.map (.int .i64) (ds.map fa))=O:=l8 hd;have eo:∀es:Defs,(O.set d (.map (.int .i64) (es.map fa))).take O.length=O.set d (.map (.int .i64) (es.map fa)):=fun es=>ct;have AS:∀es:Defs,∀o∈O.set d (.map (.int .i64) (es.map fa)),o.upto O.length:=fun es=>bt bB (fj _ _);refine zf true O.length Tryz.func58 Tryz.ntmps58 ?_;dsimp only[Tmp,TypeId,slotsOf];refine ay (ai ?_);refine aQ ?_;simp -dsimp only[simprocAttr,↓aa,zp,hc,hB]
 repeat(refine⟨by omega,?_⟩)
 refine ai ?_;refine aV 5 ([aJ B.params,a7 B.ins,aI B.term.kind,aI B.term.arg,aI B.term.n,aJ B.term.cases,aG B.term.to]) [(0,.mp c 0),(1,aI k),(4,aI 0),(5,.ip none [aJ B.params,a7 B.ins,aI B.term.kind,aI B.term.arg,aI B.term.n,aJ B.term.cases,aG B.term.to])] rfl (by rfl) (by omega) (by simp[bw,a8,Go.Av.look]) ?_ ?_ ?_
 ·exact bB
 ·simp[ae.upto,av,Sg,ax,Edge.ag,Ins.ag]
 refine bV (ai ?_);refine fD 22 rfl (fun wz=>?_);simp only[List.length_map]at wz;refine ah (aL (ι:={x:Nat×Defs // x.1<=B.params.length∧dw k ds B.params=dw k x.2 (B.params.drop x.1)}) (fun x=>⟨69,[(0,.mp c 0),(1,aI k),(4,aI 0),(5,.ip none [aJ B.params,a7 B.ins,aI B.term.kind,aI B.term.arg,aI B.term.n,aJ B.term.cases,aG B.term.to]),(22,aJ B.params),(23,aI B.params.length),(24,aI x.1.1)],O.set d (.map (.int .i64) (x.1.2.map fa))⟩) (fun x=>B.params.length-x.1.1) ⟨(0,ds),by simp,rfl⟩ ?_ ?_)
 ·refine zq rfl ?_ ?_;simp -dsimp only[simprocAttr,↓aa,zp,zc];rw[eF]
 rintro⟨⟨j,es⟩,hj,gh⟩;simp only at hj gh;refine ay (ai ?_);apply gJ rfl<;>intro h
 ·refine cj ?_;have bf:j<B.params.length:=by simpa using h
  obtain⟨p,hp⟩:∃p,B.params[j]?=some p:=⟨B.params[j],by simp[bf]⟩
  have cc:=gh;rw[bK hp]at cc;simp only[dw]at cc;have PK:=Sk es p (k,0);generalize c9 es p (k,0)=X at *;refine aH (ah ?_);refine aQ ?_;simp -dsimp only[simprocAttr,↓aa,zp,hp];refine ai ?_;refine ay ?_;refine .inr (.inl ⟨_,_,PK,.inl (ao (zj ?_))⟩);refine ai ?_;by_cases hX:X.1=0
  ·have IB:decide (X.1=0)=true:=decide_eq_true hX;rw[if_neg (by simp[hX])]at cc;refine aQ ?_;simp -dsimp only[simprocAttr,↓aa,zp,IB];refine ai ?_;refine cv rfl ?_;refine kp ?_;refine cM ?_
   repeat(refine⟨by omega,?_⟩)
   refine eZ ?_;refine⟨⟨(j+1,X.2),by simp only;omega,cc⟩,by simp;omega,?_⟩;refine zq rfl ?_ ?_;simp -dsimp only[simprocAttr,↓aa,zp,zc]
   ·exact Sub.int (by simp)
   rfl
  have IB:decide (X.1=0)=false:=decide_eq_false hX;rw[if_pos hX]at cc;rw[cc,if_pos hX]at hR;refine aQ ?_;simp -dsimp only[simprocAttr,↓aa,zp,IB];refine ai ?_;refine cB rfl ?_;refine ay (ai ?_);refine aq ?_;simp -dsimp only[simprocAttr,↓aa,zp,zr,Tryz.results58,eo,List.length_set];rw[hR];exact⟨AS X.2,rfl,rfl⟩
 refine aK ?_;simp -dsimp only[bI,ne_eq,Nat.reduceEqDiff,reduceCtorEq];have rL:j=B.params.length:=by simp at h;omega
 subst rL;rw[List.drop_length]at gh;simp only[dw]at gh;rw[gh,if_neg (by simp)]at hR;simp only at hR;refine bV (ai ?_);refine fD 38 rfl (fun BZ=>?_);simp only[List.length_map]at BZ;refine ah (aL (ι:={x:Nat×Defs // x.1<=B.ins.length∧mK k 0 es B.ins=mK k x.1 x.2 (B.ins.drop x.1)}) (fun x=>⟨69,[(0,.mp c 0),(1,aI k),(4,aI 0),(5,.ip none [aJ B.params,a7 B.ins,aI B.term.kind,aI B.term.arg,aI B.term.n,aJ B.term.cases,aG B.term.to]),(38,a7 B.ins),(39,aI B.ins.length),(40,aI x.1.1)],O.set d (.map (.int .i64) (x.1.2.map fa))⟩) (fun x=>B.ins.length-x.1.1) ⟨(0,es),by simp,rfl⟩ ?_ ?_)
 ·refine zq rfl ?_ ?_;simp -dsimp only[simprocAttr,↓aa,zp,zc];rfl
 rintro⟨⟨j,Of⟩,hj,gh⟩;simp only at hj gh;refine ay (ai ?_);apply gJ rfl<;>intro h
 ·refine cj ?_;have bf:j<B.ins.length:=by simpa using h
  obtain⟨i,hi⟩:∃i,B.ins[j]?=some i:=⟨B.ins[j],by simp[bf]⟩
  have cc:=gh;rw[bK hi]at cc;simp only[mK]at cc;have PK:=Sk Of i.to (k,(j:Int)+1);have SB:=xh i;generalize ka i=e at *;generalize c9 Of i.to (k,(j:Int)+1)=X at *;refine aH (ah ?_);refine aQ ?_;simp -dsimp only[simprocAttr,↓aa,zp,hi];refine ai ?_;refine aV 10 ([aI i.to,aI i.op,aI i.n,aJ i.args]) [(0,.mp c 0),(1,aI k),(4,aI 0),(5,.ip none [aJ B.params,a7 B.ins,aI B.term.kind,aI B.term.arg,aI B.term.n,aJ B.term.cases,aG B.term.to]),(38,a7 B.ins),(39,aI B.ins.length),(40,aI j),(9,aI j),(10,.ip none [aI i.to,aI i.op,aI i.n,aJ i.args])] (by simp[bw,a8,Go.Av.look]) (by rfl) (by simp) (by simp[bw,a8,Go.Av.look]) ?_ ?_ ?_
  ·exact F8 Of
  ·simp[ae.upto,av,Sg,ax,Edge.ag,Ins.ag]
  refine bV ?_
  repeat(refine⟨by omega,?_⟩)
  refine .inr (.inl ⟨_,_,PK,.inl (ao (zj ?_))⟩);refine ai ?_;by_cases hX:X.1=0
  ·have IB:decide (X.1=0)=true:=decide_eq_true hX;rw[if_neg (by simp[hX])]at cc;refine aQ ?_;simp -dsimp only[simprocAttr,↓aa,zp,IB];refine ai ?_;refine cv rfl ?_;refine cj ?_;refine ay ?_;refine zi SB ?_;refine ai ?_;by_cases he:e=0
   ·have j5:decide (e=0)=true:=decide_eq_true he;rw[if_neg (by simp[he])]at cc;refine aQ ?_;simp -dsimp only[simprocAttr,↓aa,zp,j5];refine ai ?_;refine cv rfl ?_;refine kp ?_;refine cM ?_
    repeat(refine⟨by omega,?_⟩)
    refine eZ ?_;refine⟨⟨(j+1,X.2),by simp only;omega,cc⟩,by simp;omega,?_⟩;refine zq rfl ?_ ?_;simp -dsimp only[simprocAttr,↓aa,zp,zc]
    ·exact Sub.int (by simp)
    rfl
   have j5:decide (e=0)=false:=decide_eq_false he;rw[if_pos he]at cc;rw[cc,if_pos he]at hR;refine aQ ?_;simp -dsimp only[simprocAttr,↓aa,zp,j5];refine ai ?_;refine cB rfl ?_;refine ay (ai ?_);refine aq ?_;simp -dsimp only[simprocAttr,↓aa,zp,zr,Tryz.results58,eo,List.length_set];rw[hR];exact⟨AS X.2,rfl,rfl⟩
  have IB:decide (X.1=0)=false:=decide_eq_false hX;rw[if_pos hX]at cc;rw[cc,if_pos hX]at hR;refine aQ ?_;simp -dsimp only[simprocAttr,↓aa,zp,IB];refine ai ?_;refine cB rfl ?_;refine ay (ai ?_);refine aq ?_;simp -dsimp only[simprocAttr,↓aa,zp,zr,Tryz.results58,eo,List.length_set];rw[hR];exact⟨AS X.2,rfl,rfl⟩
 refine aK ?_;simp -dsimp only[bI,ne_eq,Nat.reduceEqDiff,reduceCtorEq];have rL:j=B.ins.length:=by simp at h;omega
 subst rL;rw[List.drop_length]at gh;simp only[mK]at gh;rw[gh,if_neg (by simp)]at hR;simp only at hR;refine aQ ?_;simp -dsimp only[simprocAttr,↓aa,zp,W2];refine zi mH ?_;refine⟨ob (by kernel_rfl),?_⟩;refine ai ?_;refine aq ?_;simp -dsimp only[simprocAttr,↓aa,zp,zr,Tryz.results58,eo,List.length_set];rw[hR];exact⟨AS Of,rfl,rfl⟩
theorem MC:tM Tryz.prog 142 .u64:=by
 obtain⟨⟨i,z,q1,q2,_⟩,_⟩:=hT 140 _ E6;exact yT ⟨140,i,Tryz.underlying142,q1,q2,Tryz.underlying140,by kernel_rfl⟩
theorem Pb(N V:Bs):(decide ((N.a:Int)=V.a)&&decide ((N.b:Int)=V.b))=decide (N=V):=by
 obtain⟨n1,n2⟩:=N;obtain⟨v1,v2⟩:=V;simp only[Bs.mk.injEq,Int.natCast_inj];by_cases q1:n1=v1<;>by_cases q2:n2=v2<;>simp[q1,q2]
theorem vI(N V:Bs)(K:fS):pz Tryz.prog .neq 142 N.enc V.enc K=K (.v (.bool (!decide (N=V)))) .pure:=by
 show((IntKind.u64=IntKind.u64∧IntKind.u64=IntKind.u64∧IntKind.u64=IntKind.u64∧tM Tryz.prog 142 .u64)∧on (jF .neq (decide ((N.a:Int)=V.a)&&decide ((N.b:Int)=V.b))) fun r=>K (.v (.bool r)) .pure)=_;rw[Pb];simp only[MC,jF,yR,and_self,true_and]
theorem qq{sz:Nat}:∀{xs:List ae} {k:Nat} {x:ae},(∀y∈xs,y.cells.length=sz)->xs[k]?=some x->((an xs).drop (k*sz)).take sz=x.cells
 | q::r,0,x,cH,h=>by
  simp only[List.getElem?_cons_zero,Option.some.injEq]at h;subst h;have hq:=cH q (by simp);simp only[an,List.flatMap_cons,Nat.zero_mul,List.drop_zero];rw[List.take_append_of_le_length (by omega),List.take_of_length_le (by omega)]
 | q::r,k+1,x,cH,h=>by
  have ih:=qq (xs:=r) (k:=k) (x:=x) (fun y hy=>cH y (by simp[hy])) (by simpa using h);have hq:=cH q (by simp);have e1:(k+1)*sz-sz=k*sz:=by rw[Nat.succ_mul];omega
  have e3:sz<=(k+1)*sz:=by rw[Nat.succ_mul];omega
  simp only[an,List.flatMap_cons]at ih ⊢;rw[List.drop_append,List.drop_of_length_le (by omega),hq,e1,List.nil_append];exact ih
theorem Ei(l:List Bs):∀y∈l.map Bs.enc,y.cells.length=2:=fun y hy=>by
 obtain⟨s,_,rfl⟩:=List.mem_map.1 hy;rfl
theorem yf(l:List Bs):(an (l.map Bs.enc)).length=l.length*2:=by
 rw[bz (Ei l),List.length_map]
theorem Hx{l:List Bs}{k:Nat}{s:Bs}(h:l[k]?=some s):((an (l.map Bs.enc)).drop (k*2)).take 2=[.v (.int .u64 s.a),.v (.int .u64 s.b)]:=qq (Ei l) (x:=s.enc) (by simp[h])
theorem Co{l:List Bs}{k:Nat}(h:k<l.length)(s:Bs):bh (an (l.map Bs.enc)) (k*2) [.v (.int .u64 s.a),.v (.int .u64 s.b)]=an ((l.set k s).map Bs.enc):=by
 have:=mq (Ei l) (k:=k) (by simpa using h) (y:=s.enc) rfl;rw[<-List.map_set]at this;exact this
theorem gT(n:Nat)(l:List Bs):av n (l.map Bs.enc):=by
 rw[aT];intro x hx;obtain⟨s,_,rfl⟩:=List.mem_map.1 hx;exact s.aO n
theorem iF(n:Nat)(l:List Bs):av n (an (l.map Bs.enc)):=by
 rw[aT];intro c hc;simp only[an,List.mem_flatMap,List.mem_map]at hc;obtain⟨_,⟨p,_,rfl⟩,hc⟩:=hc;simp only[Bs.aj,List.mem_cons,List.mem_nil_iff,or_false]at hc;rcases hc with rfl|rfl<;>trivial
theorem az(s:Bs):ae.agg [.v (.int .u64 s.a),.v (.int .u64 s.b)]=s.enc:=rfl
theorem tN:∀n,n<=128->(vV n).fit
 | 0,_=>Bs.nN
 | n+1,h=>Bs.oJ (tN n (by omega)) (by omega)
theorem zN:∀n,n<=128->∀k,k<n->(vV n).has k=true
 | n+1,h,k,hk=>by
  simp only[vV];rw[Bs.has_add _ _ _ (by omega) (by omega)];by_cases e:k=n
  ·simp[e]
  rw[zN n (by omega) k (by omega)];rfl
theorem yn{f:Func}(h0:f.blocks≠[])(h1:f.blocks.length<=128):kZ f.blocks.length (mw f) where
 few:=h1
 len:=by simp[mw]
 fit:=fun s hs=>by
  rcases List.mem_or_eq_of_mem_set hs with q|q
  ·rw[(List.mem_replicate.1 q).2];exact tN _ h1
  rw[q];exact Bs.oJ Bs.nN (by omega)
 seen:=Bs.oJ Bs.nN (by omega)
 self:=fun k hk=>by
  unfold Ds.at_ mw;by_cases e:k=0
  ·subst e;rw[List.getElem?_set_self (by simpa using hk)];decide
  rw[List.getElem?_set_ne (Ne.symm e)];simp only[List.getElem?_replicate,hk,if_true,Option.getD_some];exact zN _ h1 k hk
theorem Qt{l:List Nat}{b:Nat}(h:∀x∈l,x<=b):l.sum<=l.length*b:=by
 induction l with
 | nil=>simp
 | cons a r ih =>
  have:=h a (by simp);have:=ih fun x hx=>h x (by simp[hx]);simp only[List.sum_cons,List.length_cons,Nat.succ_mul];omega
theorem xY{n:Nat}{S:Ds}(h:kZ n S):S.weight<=16512:=by
 have h1:(S.over.map Bs.size).sum<=(S.over.map Bs.size).length*128:=Qt fun x hx=>by
  obtain⟨s,_,rfl⟩:=List.mem_map.1 hx;exact s.sN
 have h2:=h.few;have h3:=h.len;simp only[List.length_map]at h1;have h4:S.over.length*128<=128*128:=Nat.mul_le_mul_right _ (by omega);simp only[Ds.weight];omega
theorem w9{f:Func}{S:Ds}(h:S.again=false)(n:Nat):iY f n S=S:=by
 cases n with
 | zero=>rfl
 | succ n=>simp[iY,h]
theorem s7(f:Func)(h0:f.blocks≠[])(h1:f.blocks.length<=128)(he:∀b∈f.blocks,∀e∈b.term.to,0<=e.block∧e.block.toNat<f.blocks.length) :
  bA Tryz.prog 88 [f.enc] (.cw [.aA 2 ((k6 f).1.map Bs.enc) .sh,(k6 f).2.enc]):=by
 have hS:=yn h0 h1;have F6:=List.length_pos_iff.2 h0;have EI:∀(s:Bs) (k:Nat),s.fit->k<128->bA Tryz.prog 119 [s.enc,aI k] (s.add k).enc:=fun s k hs hk=>G1 s hs k hk;obtain⟨R,hR⟩:∃R,R=iY f 20000 (mw f):=⟨_,rfl⟩
 have hM:k6 f=(R.over,R.seen):=by rw[hR];rfl
 rw[hM];obtain⟨n,hn⟩:∃n,n=f.blocks.length:=⟨_,rfl⟩
 rw[<-hn]at hS F6 h1 he;have Ox:ae.agg [.v (.int .u64 0),.v (.int .u64 0)]=Bs.none.enc:=rfl;refine zf true 0 Tryz.func88 Tryz.ntmps88 ?_;dsimp only[Tmp,TypeId,slotsOf];refine aQ ?_;simp -dsimp only[simprocAttr,↓aa,zp,Bs.aj,Bs.au,Bs.al,az];refine ai ?_;refine aC 1 0 (.ip none [aI f.name,aw f.blocks]) rfl (by simp[ak.aD]) trivial rfl ?_ ?_;rotate_left;simp -dsimp only[simprocAttr,↓aa,zp,Bs.aj,Bs.au,Bs.al,az]
 ·refine aQ ?_;simp -dsimp only[simprocAttr,↓aa,zp,Bs.aj,Bs.au,Bs.al,az];refine ai ?_;refine c7 ?_;simp -dsimp only[simprocAttr,↓aa,zp,Bs.aj,Bs.au,Bs.al,az,<-hn];refine ai ?_;refine ah (aL (ι:={j:Nat // j<=n}) (fun j=>⟨106,[(1,.ip none [aI f.name,aw f.blocks]),(3,.mp 1 0),(4,.mp 2 0),(17,aI n),(18,aI j.1)],[.gone,.cells [.v (.int .u64 0),.v (.int .u64 0)],.cells (vV j.1).enc.cells]⟩) (fun j=>n-j.1) ⟨0,by omega⟩ ?_ ?_)
  ·refine zq rfl ?_ ?_;simp -dsimp only[simprocAttr,↓aa,zp,Bs.aj,Bs.au,Bs.al,az,zc]
   all_goals rfl
  rintro⟨j,hj⟩;have ZE:=fun h=>EI (vV j) j (tN j (by omega)) h;refine aQ ?_;simp -dsimp only[simprocAttr,↓aa,zp,Bs.aj,Bs.au,Bs.al,az];refine ai ?_;apply gJ rfl<;>intro h
  ·refine cj ?_;have bf:j<n:=by simpa using h
   refine aH (ah ?_);refine aQ ?_;simp -dsimp only[simprocAttr,↓aa,zp,Bs.aj,Bs.au,Bs.al,az];refine ai ?_;refine jX ?_;simp -dsimp only[simprocAttr,↓aa,zp,Bs.aj,Bs.au,Bs.al,az];refine .inl ⟨_,(ZE (by omega)),by simp only[av,ae.upto,zt,zu,ax,Bs.aO,Bs.al],ao ?_⟩;simp -dsimp only[simprocAttr,↓aa,zp,Bs.aj,Bs.au,Bs.al,az];refine ai ?_;refine jX ?_;simp -dsimp only[simprocAttr,↓aa,zp,Bs.aj,Bs.au,Bs.al,az]
   repeat(refine⟨by omega,?_⟩)
   refine eZ ?_;refine⟨⟨j+1,bf⟩,by simp;omega,?_⟩;refine zq rfl ?_ ?_;simp -dsimp only[simprocAttr,↓aa,zp,Bs.aj,Bs.au,Bs.al,az,zc]
   all_goals first|rfl|exact Sub.refl _
  refine aK ?_;simp -dsimp only[bI,ne_eq,Nat.reduceEqDiff,reduceCtorEq];have rL:j=n:=by simp at h;omega
  subst rL;refine aQ ?_;simp -dsimp only[simprocAttr,↓aa,zp,Bs.aj,Bs.au,Bs.al,az,<-hn]
  repeat(refine⟨by omega,?_⟩)
  refine ai ?_;refine c7 ?_;simp -dsimp only[simprocAttr,↓aa,zp,Bs.aj,Bs.au,Bs.al,az,<-hn];refine ai ?_;obtain⟨A,hA⟩:∃A,A=vV j:=⟨_,rfl⟩
  rw[<-hA];refine ah (aL (ι:={i:Nat // i<=j}) (fun i=>⟨106,[(1,.ip none [aI f.name,aw f.blocks]),(3,.mp 1 0),(4,.mp 2 0),(6,.ms 3 0 j j),(30,aI j),(31,aI i.1)],[.gone,.cells [.v (.int .u64 0),.v (.int .u64 0)],.cells A.enc.cells,.cells (an ((List.replicate i.1 A++List.replicate (j-i.1) Bs.none).map Bs.enc))]⟩) (fun i=>j-i.1) ⟨0,by omega⟩ ?_ ?_)
  ·refine zq rfl ?_ ?_;simp -dsimp only[simprocAttr,↓aa,zp,Bs.aj,Bs.au,Bs.al,az,zc];simp[an,List.flatMap,Bs.aj,Bs.none]
  rintro⟨i,hi⟩;have da:(List.replicate i A++List.replicate (j-i) Bs.none).length=j:=by simp;omega
  refine aQ ?_;simp -dsimp only[simprocAttr,↓aa,zp,Bs.aj,Bs.au,Bs.al,az];refine ai ?_;apply gJ rfl<;>intro h
  ·refine cj ?_;have bf:i<j:=by simpa using h
   have gL:=Co (l:=List.replicate i A++List.replicate (j-i) Bs.none) (k:=i) (by rw[da];exact bf) A;have ng:(List.replicate i A++List.replicate (j-i) Bs.none).set i A=List.replicate (i+1) A++List.replicate (j-(i+1)) Bs.none:=by
    obtain⟨q,hq⟩:∃q,j-i=q+1:=⟨j-i-1,by omega⟩
    rw[hq,show j-(i+1)=q by omega,List.set_append_right _ _ (by simp),List.replicate_succ' (n:=i)];simp[List.replicate_succ]
   rw[ng]at gL;have hlen:=yf (List.replicate i A++List.replicate (j-i) Bs.none);rw[da]at hlen;refine aH (ah ?_);refine aQ ?_;simp -dsimp only[simprocAttr,↓aa,zp,Bs.aj,Bs.au,Bs.al,az];refine ai ?_;refine jX ?_;simp -dsimp only[simprocAttr,↓aa,zp,Bs.aj,Bs.au,Bs.al,az,gL,hlen]
   repeat(refine⟨by omega,?_⟩)
   refine ai ?_;refine jX ?_;simp -dsimp only[simprocAttr,↓aa,zp,Bs.aj,Bs.au,Bs.al,az]
   repeat(refine⟨by omega,?_⟩)
   refine eZ ?_;refine⟨⟨i+1,bf⟩,by simp;omega,?_⟩;refine zq rfl ?_ ?_;simp -dsimp only[simprocAttr,↓aa,zp,Bs.aj,Bs.au,Bs.al,az,zc]
   all_goals first|rfl|exact Sub.refl _
  refine aK ?_;simp -dsimp only[bI,ne_eq,Nat.reduceEqDiff,reduceCtorEq];have rK:i=j:=by simp at h;omega
  subst rK;have UL:=EI Bs.none 0 Bs.nN (by omega);have hlen:=yf (List.replicate i A++List.replicate (i-i) Bs.none);rw[da]at hlen;have gL:=Co (l:=List.replicate i A++List.replicate (i-i) Bs.none) (k:=0) (by rw[da];exact F6) (Bs.none.add 0);have rM:(List.replicate i A++List.replicate (i-i) Bs.none).set 0 (Bs.none.add 0)=(mw f).over:=by
   simp[mw,<-hn,hA]
  rw[rM,Nat.zero_mul]at gL;have Se:aI ((0:Nat):Int)=aI 0:=rfl;rw[Se]at UL;refine aQ ?_;simp -dsimp only[simprocAttr,↓aa,zp,Bs.aj,Bs.au,Bs.al,az,Ox];refine .inl ⟨_,UL,by simp only[av,ae.upto,zt,zu,ax,Bs.aO,Bs.al],ao ?_⟩;simp -dsimp only[simprocAttr,↓aa,zp,Bs.aj,Bs.au,Bs.al,az,gL,hlen];refine⟨by omega,by omega,?_⟩;refine ai ?_;refine aQ ?_;simp -dsimp only[simprocAttr,↓aa,zp,Bs.aj,Bs.au,Bs.al,az,Ox];refine .inl ⟨_,UL,by simp only[av,ae.upto,zt,zu,ax,Bs.aO,Bs.al],ao ?_⟩;simp -dsimp only[simprocAttr,↓aa,zp,Bs.aj,Bs.au,Bs.al,az];refine ai ?_;refine c7 ?_;simp -dsimp only[simprocAttr,↓aa,zp,Bs.aj,Bs.au,Bs.al,az];refine ai ?_;have ZB:=xY hS;refine ah (aL (ι:={x:Ds×Nat // kZ i x.1∧R=iY f x.2 x.1∧(x.1.again=true->x.1.weight<x.2)}) (fun x=>⟨106,[(1,.ip none [aI f.name,aw f.blocks]),(3,.mp 1 0),(6,.ms 3 0 i i),(8,.mp 4 0),(9,.v (.bool x.1.1.again))],[.gone,.cells [.v (.int .u64 0),.v (.int .u64 0)],.cells A.enc.cells,.cells (an (x.1.1.over.map Bs.enc)),.cells x.1.1.seen.enc.cells]⟩) (fun x=>x.1.1.weight+if x.1.1.again then 1 else 0) ⟨(mw f,20000),hS,hR,fun _=>by simp only;omega⟩ ?_ ?_)
  ·refine zq rfl ?_ ?_;simp -dsimp only[simprocAttr,↓aa,zp,Bs.aj,Bs.au,Bs.al,az,zc]
   all_goals first|rfl|exact Sub.refl _
  rintro⟨⟨S,q⟩,FO,LN,Qk⟩;simp only at FO LN Qk;refine c7 ?_;simp -dsimp only[simprocAttr,↓aa,zp,Bs.aj,Bs.au,Bs.al,az];refine ai ?_;apply aN rfl<;>intro h
  ·refine cj ?_;have mf:S.again=true:=h;have Qk:=Qk mf;obtain⟨q,rfl⟩:∃q',q=q'+1:=⟨q-1,by omega⟩
   have Iv:R=iY f q (lz 0 ⟨S.over,S.seen,false⟩ f.blocks):=by
    rw[LN];simp[iY,mf]
   have Pz:kZ i ⟨S.over,S.seen,false⟩:=⟨FO.few,FO.len,FO.fit,FO.seen,FO.self⟩
   have XE:=qD f.blocks (k:=0) Pz he;obtain⟨S1,R0⟩:∃S1,S1=lz 0 ⟨S.over,S.seen,false⟩ f.blocks:=⟨_,rfl⟩
   rw[<-R0]at Iv XE;obtain⟨Uz,UA,OQ⟩:=XE;have Uy:(⟨S.over,S.seen,false⟩:Ds).weight=S.weight:=rfl;rw[Uy]at UA OQ;refine ah ?_;refine aQ ?_;simp -dsimp only[simprocAttr,↓aa,zp,Bs.aj,Bs.au,Bs.al,az];refine ai ?_;refine aQ ?_;simp -dsimp only[simprocAttr,↓aa,zp,Bs.aj,Bs.au,Bs.al,az,<-hn];refine ai ?_;refine ah (aL (ι:={y:Nat×Ds // y.1<=i∧kZ i y.2∧S1=lz y.1 y.2 (f.blocks.drop y.1)}) (fun y=>⟨106,[(1,.ip none [aI f.name,aw f.blocks]),(3,.mp 1 0),(6,.ms 3 0 i i),(8,.mp 4 0),(47,aw f.blocks),(48,aI i),(9,.v (.bool y.1.2.again)),(49,aI y.1.1)],[.gone,.cells [.v (.int .u64 0),.v (.int .u64 0)],.cells A.enc.cells,.cells (an (y.1.2.over.map Bs.enc)),.cells y.1.2.seen.enc.cells]⟩) (fun y=>i-y.1.1) ⟨(0,⟨S.over,S.seen,false⟩),by simp,Pz,R0⟩ ?_ ?_)
   ·refine zq rfl ?_ ?_;simp -dsimp only[simprocAttr,↓aa,zp,Bs.aj,Bs.au,Bs.al,az,zc]
    all_goals rfl
   rintro⟨⟨k,T⟩,hk,G9,CU⟩;simp only at hk G9 CU;refine aQ ?_;simp -dsimp only[simprocAttr,↓aa,zp,Bs.aj,Bs.au,Bs.al,az];refine ai ?_;apply gJ rfl<;>intro h
   ·refine cj ?_;have bf:k<i:=by simpa using h
    obtain⟨b,hb⟩:∃b,f.blocks[k]?=some b:=⟨f.blocks[k]'(by omega),List.getElem?_eq_getElem _⟩
    have mg:=List.mem_of_getElem? hb;rw[bK hb]at CU;simp only[lz]at CU;have W6:=Ek (k:=k) G9 (he b mg);have L8:=qJ T.seen G9.seen k (by omega);refine aH (ah ?_);refine aQ ?_;simp -dsimp only[simprocAttr,↓aa,zp,Bs.aj,Bs.au,Bs.al,az,hb];refine ai ?_;refine aC 11 5 (.ip none [aJ b.params,a7 b.ins,aI b.term.kind,aI b.term.arg,aI b.term.n,aJ b.term.cases,aG b.term.to]) rfl (by simp[ak.aD]) trivial rfl ?_ ?_;rotate_left;simp -dsimp only[simprocAttr,↓aa,zp,Bs.aj,Bs.au,Bs.al,az]
    ·refine bp 5 [(1,.ip none [aI f.name,aw f.blocks]),(3,.mp 1 0),(6,.ms 3 0 i i),(8,.mp 4 0),(47,aw f.blocks),(48,aI i),(9,.v (.bool T.again)),(10,aI k),(11,.ip none [aJ b.params,a7 b.ins,aI b.term.kind,aI b.term.arg,aI b.term.n,aJ b.term.cases,aG b.term.to]),(49,aI k)] (by simp) (by omega) [.gone,.cells [.v (.int .u64 0),.v (.int .u64 0)],.cells A.enc.cells,.cells (an (T.over.map Bs.enc)),.cells T.seen.enc.cells] ?_ ?_ ?_ ?_ ?_
     ·rfl
     ·simp[ak.upto,av,ae.upto,ax,Block.ag,Edge.ag,Ins.ag,iF,Bs.aj]
     ·simp[eQ,St.get,bw,a8,Go.Av.look,Sub.refl]
     ·simp[ak.upto,av,ae.upto,ax,Block.ag,Edge.ag,Ins.ag,iF,Bs.aj]
     cases zI:T.seen.has k with
     | false =>
      rw[zI]at L8;have Vh:qC k T b=T:=by simp[qC,zI]
      rw[Vh]at CU;refine c7 ?_;simp -dsimp only[simprocAttr,↓aa,zp,Bs.aj,Bs.au,Bs.al,az];refine .inl ⟨_,L8,by simp only[av,ae.upto,zt,zu,ax,Bs.aO,Bs.al],ao ?_⟩;simp -dsimp only[simprocAttr,↓aa,zp,Bs.aj,Bs.au,Bs.al,az];refine ai ?_;refine cB rfl ?_;refine aK ?_;simp -dsimp only[bI,ne_eq,Nat.reduceEqDiff,reduceCtorEq];refine jX ?_;simp -dsimp only[simprocAttr,↓aa,zp,Bs.aj,Bs.au,Bs.al,az]
      repeat(refine⟨by omega,?_⟩)
      refine eZ ?_;refine⟨⟨(k+1,T),by simp only;omega,G9,CU⟩,by simp;omega,?_⟩;refine zq rfl ?_ ?_;simp -dsimp only[simprocAttr,↓aa,zp,Bs.aj,Bs.au,Bs.al,az,zc]
      all_goals first|rfl|exact Sub.refl _
     | true =>
      rw[zI]at L8;have Vh:qC k T b=b.term.to.foldl (ig k) T:=by simp[qC,zI]
      rw[Vh]at CU W6;refine c7 ?_;simp -dsimp only[simprocAttr,↓aa,zp,Bs.aj,Bs.au,Bs.al,az];refine .inl ⟨_,L8,by simp only[av,ae.upto,zt,zu,ax,Bs.aO,Bs.al],ao ?_⟩;simp -dsimp only[simprocAttr,↓aa,zp,Bs.aj,Bs.au,Bs.al,az];refine ai ?_;apply aN rfl<;>intro h
      ·cases h
      refine cj ?_;refine aQ ?_;simp -dsimp only[simprocAttr,↓aa,zp,Bs.aj,Bs.au,Bs.al,az];refine ai ?_;refine fD 60 rfl (fun jc=>?_);simp only[List.length_map]at jc;obtain⟨T1,Iw⟩:∃T1,T1=b.term.to.foldl (ig k) T:=⟨_,rfl⟩
      rw[<-Iw]at CU W6;refine ah (aL (ι:={y:Nat×Ds // y.1<=b.term.to.length∧kZ i y.2∧T1=(b.term.to.drop y.1).foldl (ig k) y.2}) (fun y=>⟨106,[(1,.ip none [aI f.name,aw f.blocks]),(3,.mp 1 0),(6,.ms 3 0 i i),(8,.mp 4 0),(47,aw f.blocks),(48,aI i),(9,.v (.bool y.1.2.again)),(10,aI k),(49,aI k),(60,aG b.term.to),(61,aI b.term.to.length),(62,aI y.1.1)],[.gone,.cells [.v (.int .u64 0),.v (.int .u64 0)],.cells A.enc.cells,.cells (an (y.1.2.over.map Bs.enc)),.cells y.1.2.seen.enc.cells]⟩) (fun y=>b.term.to.length-y.1.1) ⟨(0,T),by simp,G9,Iw⟩ ?_ ?_)
      ·refine zq rfl ?_ ?_;simp -dsimp only[simprocAttr,↓aa,zp,Bs.aj,Bs.au,Bs.al,az,zc]
       all_goals rfl
      rintro⟨⟨z,U⟩,hz,FP,LQ⟩;simp only at hz FP LQ;refine aQ ?_;simp -dsimp only[simprocAttr,↓aa,zp,Bs.aj,Bs.au,Bs.al,az];refine ai ?_;apply gJ rfl<;>intro h
      ·refine cj ?_;have Mc:z<b.term.to.length:=by simpa using h
       obtain⟨e,tx⟩:∃e,b.term.to[z]?=some e:=⟨b.term.to[z],by simp[Mc]⟩
       obtain⟨KO,qL⟩:=he b mg e (List.mem_of_getElem? tx);rw[bK tx]at LQ;simp only[List.foldl_cons]at LQ;have j5:=El (k:=k) FP KO qL;obtain⟨ej,Q6⟩:∃ej:Nat,e.block=ej:=⟨e.block.toNat,by omega⟩
       have Ss:e.block.toNat=ej:=by omega
       rw[Ss]at qL;have S5:U.over[ej]?=some (U.at_ ej):=by
        have:ej<U.over.length:=by rw[FP.len];exact qL
        simp[Ds.at_,this]
       have k8:U.over[k]?=some (U.at_ k):=by
        have:k<U.over.length:=by rw[FP.len];exact bf
        simp[Ds.at_,this]
       have R9:=Fp (U.at_ ej) (U.at_ k) (FP.yd ej) (FP.yd k);have KP:=Bs.As (t:=U.at_ k) (FP.yd ej);have PA:=EI ((U.at_ ej).meet (U.at_ k)) ej KP (by omega);have qM:=Bs.oJ KP (k:=ej) (by omega);have uY:=qJ U.seen FP.seen ej (by omega);have OD:=EI U.seen ej FP.seen (by omega);have pq:=Hx S5;have SD:=Hx k8;have xu:=yf U.over;rw[FP.len]at xu;have Vg:ig k U e=if((U.at_ ej).meet (U.at_ k)).add ej≠U.at_ ej∨U.seen.has ej=false then⟨U.over.set ej (((U.at_ ej).meet (U.at_ k)).add ej),U.seen.add ej,true⟩else U:=by
        simp only[ig,Ss]
       generalize Z8:(U.at_ ej).meet (U.at_ k)=M1 at *;generalize hN:M1.add ej=N at *;generalize hV:U.at_ ej=V at *;have gL:=Co (l:=U.over) (k:=ej) (by rw[FP.len];exact qL) N;refine aH (ah ?_);refine aQ ?_;simp -dsimp only[simprocAttr,↓aa,zp,Bs.aj,Bs.au,Bs.al,az,tx];refine ai ?_;refine aC 13 5 (.ip none [aI e.block,aJ e.args]) rfl (by simp[ak.aD]) trivial rfl ?_ ?_;rotate_left;simp -dsimp only[simprocAttr,↓aa,zp,Bs.aj,Bs.au,Bs.al,az]
       ·refine bp 5 [(1,.ip none [aI f.name,aw f.blocks]),(3,.mp 1 0),(6,.ms 3 0 i i),(8,.mp 4 0),(47,aw f.blocks),(48,aI i),(9,.v (.bool U.again)),(10,aI k),(13,.ip none [aI e.block,aJ e.args]),(49,aI k),(60,aG b.term.to),(61,aI b.term.to.length),(62,aI z)] (by simp) (by omega) [.gone,.cells [.v (.int .u64 0),.v (.int .u64 0)],.cells A.enc.cells,.cells (an (U.over.map Bs.enc)),.cells U.seen.enc.cells] ?_ ?_ ?_ ?_ ?_
        ·rfl
        ·simp[ak.upto,av,ae.upto,ax,Block.ag,Edge.ag,Ins.ag,iF,Bs.aj]
        ·simp[eQ,St.get,bw,a8,Go.Av.look,Sub.refl]
        ·simp[ak.upto,av,ae.upto,ax,Block.ag,Edge.ag,Ins.ag,iF,Bs.aj]
        refine aQ ?_;simp -dsimp only[simprocAttr,↓aa,zp,Bs.aj,Bs.au,Bs.al,az,Q6,Int.toNat_natCast,pq,SD,xu];refine⟨by omega,by omega,by omega,by omega,?_⟩;refine .inl ⟨_,R9,by simp only[av,ae.upto,zt,zu,ax,Bs.aO,Bs.al],ao ?_⟩;simp -dsimp only[simprocAttr,↓aa,zp,Bs.aj,Bs.au,Bs.al,az];refine .inl ⟨_,PA,by simp only[av,ae.upto,zt,zu,ax,Bs.aO,Bs.al],ao ?_⟩;simp -dsimp only[simprocAttr,↓aa,zp,Bs.aj,Bs.au,Bs.al,az];refine⟨ob (by kernel_rfl),?_⟩;refine ai ?_;have Sb:=iF 5 (U.over.set ej N);rw[List.map_set]at Sb;by_cases Ua:N=V
        ·have Ug:decide (N=V)=true:=decide_eq_true Ua;cases IY:U.seen.has ej with
         | true =>
          rw[IY]at uY;have C2:ig k U e=U:=by rw[Vg,if_neg (by simp[Ua,IY])]
          refine aQ ?_;simp -dsimp only[simprocAttr,↓aa,zp,Bs.aj,Bs.au,Bs.al,az,Q6,Int.toNat_natCast,pq,xu,vI,Ug]
          repeat(refine⟨by omega,?_⟩)
          refine .inl ⟨_,uY,by simp only[av,ae.upto,zt,zu,ax,Bs.aO,Bs.al],ao ?_⟩;simp -dsimp only[simprocAttr,↓aa,zp,Bs.aj,Bs.au,Bs.al,az];refine⟨ob (by kernel_rfl),?_⟩;refine ai ?_;refine cv rfl ?_;refine kp ?_;refine bp 5 [(1,.ip none [aI f.name,aw f.blocks]),(3,.mp 1 0),(6,.ms 3 0 i i),(8,.mp 4 0),(47,aw f.blocks),(48,aI i),(9,.v (.bool U.again)),(10,aI k),(49,aI k),(60,aG b.term.to),(61,aI b.term.to.length),(62,aI z)] (by simp) (by omega) [.gone,.cells [.v (.int .u64 0),.v (.int .u64 0)],.cells A.enc.cells,.cells (an ((U.over).map Bs.enc)),.cells (U.seen).enc.cells] ?_ ?_ ?_ ?_ ?_
          ·rfl
          ·simp[ak.upto,av,ae.upto,ax,Block.ag,Edge.ag,Ins.ag,iF,Bs.aj]
          ·simp[eQ,St.get,bw,a8,Go.Av.look,Sub.refl]
          ·simp[ak.upto,av,ae.upto,ax,Block.ag,Edge.ag,Ins.ag,iF,Bs.aj]
          refine jX ?_;simp -dsimp only[simprocAttr,↓aa,zp,Bs.aj,Bs.au,Bs.al,az]
          repeat(refine⟨by omega,?_⟩)
          refine eZ ?_;refine⟨⟨(z+1,U),by simp only;omega,FP,by rw[LQ,C2]⟩,by simp;omega,?_⟩;refine zq rfl ?_ ?_;simp -dsimp only[simprocAttr,↓aa,zp,Bs.aj,Bs.au,Bs.al,az,zc]
          all_goals first|rfl|exact Sub.refl _
         | false =>
          rw[IY]at uY;have C2:ig k U e=⟨U.over.set ej N,U.seen.add ej,true⟩:=by rw[Vg,if_pos (.inr IY)]
          refine aQ ?_;simp -dsimp only[simprocAttr,↓aa,zp,Bs.aj,Bs.au,Bs.al,az,Q6,Int.toNat_natCast,pq,xu,vI,Ug]
          repeat(refine⟨by omega,?_⟩)
          refine .inl ⟨_,uY,by simp only[av,ae.upto,zt,zu,ax,Bs.aO,Bs.al],ao ?_⟩;simp -dsimp only[simprocAttr,↓aa,zp,Bs.aj,Bs.au,Bs.al,az];refine⟨ob (by kernel_rfl),?_⟩;refine ai ?_;refine cB rfl ?_;refine jX ?_;simp -dsimp only[simprocAttr,↓aa,zp,Bs.aj,Bs.au,Bs.al,az,Q6,Int.toNat_natCast,gL,xu]
          repeat(refine⟨by omega,?_⟩)
          refine .inl ⟨_,OD,by simp only[av,ae.upto,zt,zu,ax,Bs.aO,Bs.al],ao ?_⟩;simp -dsimp only[simprocAttr,↓aa,zp,Bs.aj,Bs.au,Bs.al,az,gL,xu]
          repeat(refine⟨by omega,?_⟩)
          refine⟨ob (by kernel_rfl),?_⟩;refine ai ?_;refine bp 5 [(1,.ip none [aI f.name,aw f.blocks]),(3,.mp 1 0),(6,.ms 3 0 i i),(8,.mp 4 0),(47,aw f.blocks),(48,aI i),(9,.v (.bool true)),(10,aI k),(49,aI k),(60,aG b.term.to),(61,aI b.term.to.length),(62,aI z)] (by simp) (by omega) [.gone,.cells [.v (.int .u64 0),.v (.int .u64 0)],.cells A.enc.cells,.cells (an ((U.over.set ej N).map Bs.enc)),.cells (U.seen.add ej).enc.cells] ?_ ?_ ?_ ?_ ?_
          ·rfl
          ·simp[ak.upto,av,ae.upto,ax,Block.ag,Edge.ag,Ins.ag,iF,Bs.aj,Sb]
          ·simp[eQ,St.get,bw,a8,Go.Av.look,Sub.refl]
          ·simp[ak.upto,av,ae.upto,ax,Block.ag,Edge.ag,Ins.ag,iF,Bs.aj]
          refine jX ?_;simp -dsimp only[simprocAttr,↓aa,zp,Bs.aj,Bs.au,Bs.al,az]
          repeat(refine⟨by omega,?_⟩)
          refine eZ ?_;refine⟨⟨(z+1,⟨U.over.set ej N,U.seen.add ej,true⟩),by simp only;omega,by rw[<-C2];exact j5.1,by rw[LQ,C2]⟩,by simp;omega,?_⟩;refine zq rfl ?_ ?_;simp -dsimp only[simprocAttr,↓aa,zp,Bs.aj,Bs.au,Bs.al,az,zc]
          all_goals first|rfl|exact Sub.refl _
        have Ug:decide (N=V)=false:=decide_eq_false Ua;have C2:ig k U e=⟨U.over.set ej N,U.seen.add ej,true⟩:=by rw[Vg,if_pos (.inl Ua)]
        refine aQ ?_;simp -dsimp only[simprocAttr,↓aa,zp,Bs.aj,Bs.au,Bs.al,az,Q6,Int.toNat_natCast,pq,xu,vI,Ug]
        repeat(refine⟨by omega,?_⟩)
        refine⟨ob (by kernel_rfl),?_⟩;refine ai ?_;refine cB rfl ?_;refine jX ?_;simp -dsimp only[simprocAttr,↓aa,zp,Bs.aj,Bs.au,Bs.al,az,Q6,Int.toNat_natCast,gL,xu]
        repeat(refine⟨by omega,?_⟩)
        refine .inl ⟨_,OD,by simp only[av,ae.upto,zt,zu,ax,Bs.aO,Bs.al],ao ?_⟩;simp -dsimp only[simprocAttr,↓aa,zp,Bs.aj,Bs.au,Bs.al,az,gL,xu]
        repeat(refine⟨by omega,?_⟩)
        refine⟨ob (by kernel_rfl),?_⟩;refine ai ?_;refine bp 5 [(1,.ip none [aI f.name,aw f.blocks]),(3,.mp 1 0),(6,.ms 3 0 i i),(8,.mp 4 0),(47,aw f.blocks),(48,aI i),(9,.v (.bool true)),(10,aI k),(49,aI k),(60,aG b.term.to),(61,aI b.term.to.length),(62,aI z)] (by simp) (by omega) [.gone,.cells [.v (.int .u64 0),.v (.int .u64 0)],.cells A.enc.cells,.cells (an ((U.over.set ej N).map Bs.enc)),.cells (U.seen.add ej).enc.cells] ?_ ?_ ?_ ?_ ?_
        ·rfl
        ·simp[ak.upto,av,ae.upto,ax,Block.ag,Edge.ag,Ins.ag,iF,Bs.aj,Sb]
        ·simp[eQ,St.get,bw,a8,Go.Av.look,Sub.refl]
        ·simp[ak.upto,av,ae.upto,ax,Block.ag,Edge.ag,Ins.ag,iF,Bs.aj]
        refine jX ?_;simp -dsimp only[simprocAttr,↓aa,zp,Bs.aj,Bs.au,Bs.al,az]
        repeat(refine⟨by omega,?_⟩)
        refine eZ ?_;refine⟨⟨(z+1,⟨U.over.set ej N,U.seen.add ej,true⟩),by simp only;omega,by rw[<-C2];exact j5.1,by rw[LQ,C2]⟩,by simp;omega,?_⟩;refine zq rfl ?_ ?_;simp -dsimp only[simprocAttr,↓aa,zp,Bs.aj,Bs.au,Bs.al,az,zc]
        all_goals first|rfl|exact Sub.refl _
       exact bM.mp rfl rfl
      refine aK ?_;simp -dsimp only[bI,ne_eq,Nat.reduceEqDiff,reduceCtorEq];have lM:z=b.term.to.length:=by simp at h;omega
      subst lM;rw[List.drop_length]at LQ;simp only[List.foldl_nil]at LQ;refine jX ?_;simp -dsimp only[simprocAttr,↓aa,zp,Bs.aj,Bs.au,Bs.al,az]
      repeat(refine⟨by omega,?_⟩)
      refine eZ ?_;refine⟨⟨(k+1,U),by simp only;omega,FP,by rw[CU,LQ]⟩,by simp;omega,?_⟩;refine zq rfl ?_ ?_;simp -dsimp only[simprocAttr,↓aa,zp,Bs.aj,Bs.au,Bs.al,az,zc]
      all_goals first|rfl|exact Sub.refl _
    exact bM.mp rfl rfl
   refine aK ?_;simp -dsimp only[bI,ne_eq,Nat.reduceEqDiff,reduceCtorEq];have Vy:k=i:=by simp at h;omega
   subst Vy;rw[hn,List.drop_length]at CU;simp only[lz]at CU;subst CU;have IK:S1.again=true->S1.weight<q:=fun hh=>by
    rcases OQ hh with r|r
    ·cases r
    omega
   refine⟨⟨(S1,q),Uz,Iv,IK⟩,?_,?_⟩
   ·simp only[mf,if_true];cases uU:S1.again
    ·simp;omega
    rcases OQ uU with r|r
    ·cases r
    simp;omega
   refine zq rfl ?_ ?_;simp -dsimp only[simprocAttr,↓aa,zp,Bs.aj,Bs.au,Bs.al,az,zc]
   all_goals rfl
  refine aK ?_;simp -dsimp only[bI,ne_eq,Nat.reduceEqDiff,reduceCtorEq];have mf:S.again=false:=h;rw[w9 mf]at LN;subst LN;have cH:=FO.len;refine aC 6 3 (.aA 2 (R.over.map Bs.enc) .sh) rfl (by simp[ak.aD]) trivial rfl ?_ ?_;rotate_left;simp -dsimp only[simprocAttr,↓aa,zp,Bs.aj,Bs.au,Bs.al,az]
  ·refine aQ ?_;simp -dsimp only[simprocAttr,↓aa,zp,Bs.aj,Bs.au,Bs.al,az];refine⟨ob (by kernel_rfl),?_⟩;refine ai ?_;refine aq ?_;simp -dsimp only[simprocAttr,↓aa,zp,Bs.aj,Bs.au,Bs.al,az,zr,Tryz.results88];exact⟨⟨gT _ _,trivial⟩,Bs.aO _ _,trivial⟩
  refine bM.ms rfl (Ei R.over) (by simp[cH]) ?_;rw[List.drop_zero,List.take_of_length_le (by rw[yf,cH];exact Nat.le_refl _),<-fi];simp[List.map_map,Function.comp_def,Bs.al]
 exact bM.mp rfl rfl
abbrev HB(f:Func)(ds:Defs)(over:List Bs)(seen:Bs)(k:Nat)(A:Nat):List ae:=[.ip none [.ip none [aI f.name,aw f.blocks,.im (.int .i64) (ds.map fa)]],.ip none [aI (k:Int)],.mp A 0,.ip none [.aA 2 (over.map Bs.enc) .sh],.ip none [.v (.int .u64 seen.a),.v (.int .u64 seen.b)]]
def jb(ds:Defs)(over:List Bs)(seen:Bs)(k:Nat)(at_:Int)(v:Int):Bool :=
 match fB ds v with
 | none=>false
 | some p=>(decide (p.1=k)&&decide (p.2<=at_)) || ((!decide (p.1=k)&&(over[k]?.getD .none).has p.1.toNat) || !seen.has k)
def B3(n:Nat)(ds:Defs):Prop:=∀v p,fB ds v=some p->0<=p.1∧p.1.toNat<n
theorem FJ{O:List ak}(bB:∀o∈O,o.upto O.length){f:Func}{ds:Defs}{over:List Bs}{seen:Bs}{k A:Nat}{at_:Int}(hA:O[A]?=some (.cells [aI at_]))(hn:over.length<=128)(hk:k<over.length)(bo:∀s∈over,s.fit)(Vn:seen.fit)(tw:B3 over.length ds)(v:Int) :
  bd Tryz.prog 89 O (aI v::HB f ds over seen k A) (fun r O'=>r=.v (.bool (jb ds over seen k at_ v))∧O'=O):=by
 have LL:=I hA;have k8:over[k]?=some over[k]:=List.getElem?_eq_getElem hk;have Xc:=bo _ (List.getElem_mem hk);obtain⟨s,hs⟩:∃s,s=over[k]:=⟨_,rfl⟩
 rw[<-hs]at k8 Xc;have uY:=qJ seen Vn k (by omega);unfold jb;have Z6:∀X,(O++X)[A]?=some (.cells [aI at_]):=fun X=>cm hA;have hdu:=fj O.length ds;rw[k8];simp only[Option.getD_some];generalize zI:seen.has k=sk at *;cases hl:fB ds v with
 | none =>
  refine zf true O.length Tryz.func89 Tryz.ntmps89 ?_;dsimp only[Tmp,TypeId,slotsOf];refine aQ ?_;simp -dsimp only[simprocAttr,↓aa,zp,Bs.aj,Bs.au,Bs.al,az];refine ai ?_;refine aQ ?_;simp -dsimp only[simprocAttr,↓aa,zp,Bs.aj,Bs.au,Bs.al,az,jr,hl,Option.map_none,Option.getD_none,Option.isSome_none];refine ai ?_;refine aV 8 ([aI 0,aI 0]) [(9,.v (.bool false))] rfl (by rfl) (by omega) (by simp[bw,a8,Go.Av.look]) ?_ ?_ ?_
  ·exact bB
  ·simp[ae.upto]
  refine aQ ?_;simp -dsimp only[simprocAttr,↓aa,zp,Bs.aj,Bs.au,Bs.al,az];refine⟨ob (by kernel_rfl),?_⟩;refine ai ?_;refine aq ?_;simp -dsimp only[simprocAttr,↓aa,zp,Bs.aj,Bs.au,Bs.al,az,zr,Tryz.results89];exact bB
 | some p =>
  have hq:eD p=.agg [aI p.1,aI p.2]:=rfl;obtain⟨b0,b1⟩:=tw v p hl;have rM:=qJ s Xc p.1.toNat (by omega)
  rw[show((p.1.toNat:Nat):Int)=p.1 by omega]at rM;simp only;generalize s.has p.1.toNat=sv at *;by_cases ED:p.1=k
  ·have hd:decide (p.1=(k:Int))=true:=decide_eq_true ED;by_cases P':p.2<=at_
   ·have oM:decide (p.2<=at_)=true:=decide_eq_true P';rw[hd,oM];refine zf true O.length Tryz.func89 Tryz.ntmps89 ?_;dsimp only[Tmp,TypeId,slotsOf];refine aQ ?_;simp -dsimp only[simprocAttr,↓aa,zp,Bs.aj,Bs.au,Bs.al,az];refine ai ?_;refine aQ ?_;simp -dsimp only[simprocAttr,↓aa,zp,Bs.aj,Bs.au,Bs.al,az,jr,hl,hq,Option.map_some,Option.getD_some,Option.isSome_some];refine ai ?_;refine aV 8 ([aI p.1,aI p.2]) [(2,.ip none [aI k]),(3,.mp A 0),(4,.ip none [.aA 2 (over.map Bs.enc) .sh]),(5,.ip none [.v (.int .u64 seen.a),.v (.int .u64 seen.b)]),(8,.ip none [aI p.1,aI p.2]),(9,.v (.bool true))] rfl (by rfl) (by omega) (by simp[bw,a8,Go.Av.look]) ?_ ?_ ?_
    ·exact bB
    ·simp[ae.upto,av,LL,gT]
    refine aQ ?_;simp -dsimp only[simprocAttr,↓aa,zp,Bs.aj,Bs.au,Bs.al,az,hA,k8,Int.toNat_natCast,hd,oM];refine⟨ob (by kernel_rfl),?_⟩;refine ai ?_;refine aq ?_;simp -dsimp only[simprocAttr,↓aa,zp,Bs.aj,Bs.au,Bs.al,az,zr,Tryz.results89];exact⟨bB,by simp⟩
   have oM:decide (p.2<=at_)=false:=decide_eq_false P';rw[hd,oM];refine zf true O.length Tryz.func89 Tryz.ntmps89 ?_;dsimp only[Tmp,TypeId,slotsOf];refine aQ ?_;simp -dsimp only[simprocAttr,↓aa,zp,Bs.aj,Bs.au,Bs.al,az];refine ai ?_;refine aQ ?_;simp -dsimp only[simprocAttr,↓aa,zp,Bs.aj,Bs.au,Bs.al,az,jr,hl,hq,Option.map_some,Option.getD_some,Option.isSome_some];refine ai ?_;refine aV 8 ([aI p.1,aI p.2]) [(2,.ip none [aI k]),(3,.mp A 0),(4,.ip none [.aA 2 (over.map Bs.enc) .sh]),(5,.ip none [.v (.int .u64 seen.a),.v (.int .u64 seen.b)]),(8,.ip none [aI p.1,aI p.2]),(9,.v (.bool true))] rfl (by rfl) (by omega) (by simp[bw,a8,Go.Av.look]) ?_ ?_ ?_
   ·exact bB
   ·simp[ae.upto,av,LL,gT]
   refine aQ ?_;simp -dsimp only[simprocAttr,↓aa,zp,Bs.aj,Bs.au,Bs.al,az,hA,k8,Int.toNat_natCast,hd,oM];refine .inl ⟨_,uY,by simp only[av,ae.upto,zt,zu,ax,Bs.aO,Bs.al],ao ?_⟩;simp -dsimp only[simprocAttr,↓aa,zp,Bs.aj,Bs.au,Bs.al,az,hd,oM,hA,k8,Int.toNat_natCast];refine⟨ob (by kernel_rfl),?_⟩;refine ai ?_;refine aq ?_;simp -dsimp only[simprocAttr,↓aa,zp,Bs.aj,Bs.au,Bs.al,az,zr,Tryz.results89];exact⟨bB,by simp⟩
  have hd:decide (p.1=(k:Int))=false:=decide_eq_false ED;rw[hd];cases sv with
  | true =>
   refine zf true O.length Tryz.func89 Tryz.ntmps89 ?_;dsimp only[Tmp,TypeId,slotsOf];refine aQ ?_;simp -dsimp only[simprocAttr,↓aa,zp,Bs.aj,Bs.au,Bs.al,az];refine ai ?_;refine aQ ?_;simp -dsimp only[simprocAttr,↓aa,zp,Bs.aj,Bs.au,Bs.al,az,jr,hl,hq,Option.map_some,Option.getD_some,Option.isSome_some];refine ai ?_;refine aV 8 ([aI p.1,aI p.2]) [(2,.ip none [aI k]),(3,.mp A 0),(4,.ip none [.aA 2 (over.map Bs.enc) .sh]),(5,.ip none [.v (.int .u64 seen.a),.v (.int .u64 seen.b)]),(8,.ip none [aI p.1,aI p.2]),(9,.v (.bool true))] rfl (by rfl) (by omega) (by simp[bw,a8,Go.Av.look]) ?_ ?_ ?_
   ·exact bB
   ·simp[ae.upto,av,LL,gT]
   refine aQ ?_;simp -dsimp only[simprocAttr,↓aa,zp,Bs.aj,Bs.au,Bs.al,az,hA,k8,Int.toNat_natCast,hd];refine .inl ⟨_,rM,by simp only[av,ae.upto,zt,zu,ax,Bs.aO,Bs.al],ao ?_⟩;simp -dsimp only[simprocAttr,↓aa,zp,Bs.aj,Bs.au,Bs.al,az,hd,hA,k8,Int.toNat_natCast];refine⟨ob (by kernel_rfl),?_⟩;refine ai ?_;refine aq ?_;simp -dsimp only[simprocAttr,↓aa,zp,Bs.aj,Bs.au,Bs.al,az,zr,Tryz.results89];exact⟨bB,by simp⟩
  | false =>
   refine zf true O.length Tryz.func89 Tryz.ntmps89 ?_;dsimp only[Tmp,TypeId,slotsOf];refine aQ ?_;simp -dsimp only[simprocAttr,↓aa,zp,Bs.aj,Bs.au,Bs.al,az];refine ai ?_;refine aQ ?_;simp -dsimp only[simprocAttr,↓aa,zp,Bs.aj,Bs.au,Bs.al,az,jr,hl,hq,Option.map_some,Option.getD_some,Option.isSome_some];refine ai ?_;refine aV 8 ([aI p.1,aI p.2]) [(2,.ip none [aI k]),(3,.mp A 0),(4,.ip none [.aA 2 (over.map Bs.enc) .sh]),(5,.ip none [.v (.int .u64 seen.a),.v (.int .u64 seen.b)]),(8,.ip none [aI p.1,aI p.2]),(9,.v (.bool true))] rfl (by rfl) (by omega) (by simp[bw,a8,Go.Av.look]) ?_ ?_ ?_
   ·exact bB
   ·simp[ae.upto,av,LL,gT]
   refine aQ ?_;simp -dsimp only[simprocAttr,↓aa,zp,Bs.aj,Bs.au,Bs.al,az,hA,k8,Int.toNat_natCast,hd];refine .inl ⟨_,rM,by simp only[av,ae.upto,zt,zu,ax,Bs.aO,Bs.al],ao ?_⟩;simp -dsimp only[simprocAttr,↓aa,zp,Bs.aj,Bs.au,Bs.al,az,hd,hA,k8,Int.toNat_natCast];refine .inl ⟨_,uY,by simp only[av,ae.upto,zt,zu,ax,Bs.aO,Bs.al],ao ?_⟩;simp -dsimp only[simprocAttr,↓aa,zp,Bs.aj,Bs.au,Bs.al,az,hd,hA,k8,Int.toNat_natCast];refine⟨ob (by kernel_rfl),?_⟩;refine ai ?_;refine aq ?_;simp -dsimp only[simprocAttr,↓aa,zp,Bs.aj,Bs.au,Bs.al,az,zr,Tryz.results89];exact⟨bB,by simp⟩
def ou(t:Term)(p:Int->Bool):Bool:=((decide (t.kind=1) ||decide (t.kind=4)) ||p t.arg)&&t.to.all fun e=>e.args.all p
theorem tO{α:Type}{l:List α}{p:α->Bool}{j:Nat}{x:α}(h:l[j]?=some x):(l.drop j).all p=(p x&&(l.drop (j+1)).all p):=by
 rw[bK h];rfl
theorem GY{O:List ak}(bB:∀o∈O,o.upto O.length)(id:Nat)(yg:List ae)(tv:av O.length yg)(p:Int->Bool)(hp:∀v,bd Tryz.prog id O (aI v::yg) (fun r O'=>r=.v (.bool (p v))∧O'=O))(t:Term) :
  bd Tryz.prog 91 O [t.enc,.fn (.func id) [] yg] (fun r O'=>r=.v (.bool (ou t p))∧O'=O):=by
 obtain⟨R,hR⟩:∃R,R=ou t p:=⟨_,rfl⟩
 rw[<-hR];unfold ou at hR;have LU:ae.upto O.length (.fn (.func id) [] yg):=⟨trivial,tv⟩
 have P':=hp t.arg;refine zf true O.length Tryz.func91 Tryz.ntmps91 ?_;dsimp only[Tmp,TypeId,slotsOf];refine aQ ?_;simp -dsimp only[simprocAttr,↓aa,zp,Bs.aj,Bs.au,Bs.al,az];refine ai ?_;refine aV 2 ([aI t.kind,aI t.arg,aI t.n,aJ t.cases,aG t.to]) [(1,.fn (.func id) [] yg),(2,.ip none [aI t.kind,aI t.arg,aI t.n,aJ t.cases,aG t.to]),(4,.v (.bool false))] rfl (by rfl) (by omega) (by simp[bw,a8,Go.Av.look]) ?_ ?_ ?_
 ·exact bB
 ·simp[ae.upto,av,ax,Edge.ag,tv]
 cases hb:(decide (t.kind=1) ||decide (t.kind=4)) ||p t.arg with
 | false =>
  rw[hb]at hR;obtain⟨h1,h4,Es⟩:decide (t.kind=1)=false∧decide (t.kind=4)=false∧p t.arg=false:=by
   revert hb;cases decide (t.kind=1)<;>cases decide (t.kind=4)<;>cases p t.arg<;>simp
  rw[Es]at P';refine c7 ?_;simp -dsimp only[simprocAttr,↓aa,zp,Bs.aj,Bs.au,Bs.al,az,h1,h4];refine .inr (.inr ⟨_,P',ao ?_⟩);simp -dsimp only[simprocAttr,↓aa,zp,Bs.aj,Bs.au,Bs.al,az];refine ai ?_;refine cB rfl ?_;refine aQ ?_;simp -dsimp only[simprocAttr,↓aa,zp,Bs.aj,Bs.au,Bs.al,az];refine ai ?_;refine aq ?_;simp -dsimp only[simprocAttr,↓aa,zp,Bs.aj,Bs.au,Bs.al,az,zr,Tryz.results91];exact⟨bB,by rw[hR];rfl⟩
 | true =>
  rw[hb,Bool.true_and]at hR;refine fY (⟨44,[(1,.fn (.func id) [] yg),(2,.ip none [aI t.kind,aI t.arg,aI t.n,aJ t.cases,aG t.to]),(4,.v (.bool false))],O⟩) ?_ ?_
  ·cases h1:decide (t.kind=1)with
   | true =>
    refine aQ ?_;simp -dsimp only[simprocAttr,↓aa,zp,Bs.aj,Bs.au,Bs.al,az,h1];refine ai ?_;refine cv rfl ?_;refine aX ?_;show ba _ _;refine zq rfl ?_ ?_;simp -dsimp only[simprocAttr,↓aa,zp,Bs.aj,Bs.au,Bs.al,az,zc];rfl
   | false =>
    cases h4:decide (t.kind=4)with
    | true =>
     refine aQ ?_;simp -dsimp only[simprocAttr,↓aa,zp,Bs.aj,Bs.au,Bs.al,az,h1,h4];refine ai ?_;refine cv rfl ?_;refine aX ?_;show ba _ _;refine zq rfl ?_ ?_;simp -dsimp only[simprocAttr,↓aa,zp,Bs.aj,Bs.au,Bs.al,az,zc];rfl
    | false =>
     have Es:p t.arg=true:=by
      rw[h1,h4]at hb;simpa using hb
     rw[Es]at P';refine aQ ?_;simp -dsimp only[simprocAttr,↓aa,zp,Bs.aj,Bs.au,Bs.al,az,h1,h4];refine .inr (.inr ⟨_,P',ao ?_⟩);simp -dsimp only[simprocAttr,↓aa,zp,Bs.aj,Bs.au,Bs.al,az];refine ai ?_;refine cv rfl ?_;refine aX ?_;show ba _ _;refine zq rfl ?_ ?_;simp -dsimp only[simprocAttr,↓aa,zp,Bs.aj,Bs.au,Bs.al,az,zc];rfl
  skip
  refine c7 ?_;simp -dsimp only[simprocAttr,↓aa,zp,Bs.aj,Bs.au,Bs.al,az];refine ai ?_;refine fD 25 rfl (fun jc=>?_);simp only[List.length_map]at jc;refine ah (aL (ι:={j:Nat // j<=t.to.length∧R=(t.to.drop j).all fun e=>e.args.all p}) (fun j=>⟨44,[(1,.fn (.func id) [] yg),(4,.v (.bool false)),(25,aG t.to),(26,aI t.to.length),(27,aI j.1)],O⟩) (fun j=>t.to.length-j.1) ⟨0,by omega,hR⟩ ?_ ?_)
  ·refine zq rfl ?_ ?_;simp -dsimp only[simprocAttr,↓aa,zp,Bs.aj,Bs.au,Bs.al,az,zc];rfl
  rintro⟨j,hj,gh⟩;refine aQ ?_;simp -dsimp only[simprocAttr,↓aa,zp,Bs.aj,Bs.au,Bs.al,az];refine ai ?_;apply gJ rfl<;>intro h
  ·refine cj ?_;have bf:j<t.to.length:=by simpa using h
   obtain⟨e,tx⟩:∃e,t.to[j]?=some e:=⟨t.to[j],by simp[bf]⟩
   rw[tO tx]at gh;refine aH (ah ?_);refine aQ ?_;simp -dsimp only[simprocAttr,↓aa,zp,Bs.aj,Bs.au,Bs.al,az,tx];refine ai ?_;refine aV 6 ([aI e.block,aJ e.args]) [(1,.fn (.func id) [] yg),(4,.v (.bool false)),(6,.ip none [aI e.block,aJ e.args]),(25,aG t.to),(26,aI t.to.length),(27,aI j)] rfl (by rfl) (by omega) (by simp[bw,a8,Go.Av.look]) ?_ ?_ ?_
   ·exact bB
   ·simp[ae.upto,av,ax,Edge.ag,tv]
   refine aQ ?_;simp -dsimp only[simprocAttr,↓aa,zp,Bs.aj,Bs.au,Bs.al,az];refine ai ?_;refine fD 32 rfl (fun mG=>?_);simp only[List.length_map]at mG;refine ah (aL (ι:={z:Nat // z<=e.args.length∧R=((e.args.drop z).all p&&(t.to.drop (j+1)).all fun e=>e.args.all p)}) (fun z=>⟨44,[(1,.fn (.func id) [] yg),(4,.v (.bool false)),(25,aG t.to),(26,aI t.to.length),(27,aI j),(32,aJ e.args),(33,aI e.args.length),(34,aI z.1)],O⟩) (fun z=>e.args.length-z.1) ⟨0,by omega,gh⟩ ?_ ?_)
   ·refine zq rfl ?_ ?_;simp -dsimp only[simprocAttr,↓aa,zp,Bs.aj,Bs.au,Bs.al,az,zc];rfl
   rintro⟨z,hz,lM⟩;refine aQ ?_;simp -dsimp only[simprocAttr,↓aa,zp,Bs.aj,Bs.au,Bs.al,az];refine ai ?_;apply gJ rfl<;>intro h
   ·refine cj ?_;have Mc:z<e.args.length:=by simpa using h
    obtain⟨v,hv⟩:∃v,e.args[z]?=some v:=⟨e.args[z],by simp[Mc]⟩
    rw[tO hv]at lM;have Zq:=hp v;refine aH (ah ?_);refine aQ ?_;simp -dsimp only[simprocAttr,↓aa,zp,Bs.aj,Bs.au,Bs.al,az,hv];refine ai ?_;refine aQ ?_;simp -dsimp only[simprocAttr,↓aa,zp,Bs.aj,Bs.au,Bs.al,az];refine .inr (.inr ⟨_,Zq,ao ?_⟩);simp -dsimp only[simprocAttr,↓aa,zp,Bs.aj,Bs.au,Bs.al,az];refine ai ?_;cases Es:p v with
    | true =>
     rw[Es,Bool.true_and]at lM;refine cv rfl ?_;refine kp ?_;refine jX ?_;simp -dsimp only[simprocAttr,↓aa,zp,Bs.aj,Bs.au,Bs.al,az]
     repeat(refine⟨by omega,?_⟩)
     refine eZ ?_;refine⟨⟨z+1,Mc,lM⟩,by simp;omega,?_⟩;refine zq rfl ?_ ?_;simp -dsimp only[simprocAttr,↓aa,zp,Bs.aj,Bs.au,Bs.al,az,zc]
     ·exact Sub.int (by simp)
     rfl
    | false =>
     rw[Es]at lM;refine cB rfl ?_;refine aQ ?_;simp -dsimp only[simprocAttr,↓aa,zp,Bs.aj,Bs.au,Bs.al,az];refine ai ?_;refine aq ?_;simp -dsimp only[simprocAttr,↓aa,zp,Bs.aj,Bs.au,Bs.al,az,zr,Tryz.results91];exact⟨bB,by rw[lM];rfl⟩
   refine aK ?_;simp -dsimp only[bI,ne_eq,Nat.reduceEqDiff,reduceCtorEq];have Gb:z=e.args.length:=by simp at h;omega
   subst Gb;rw[List.drop_length]at lM;refine jX ?_;simp -dsimp only[simprocAttr,↓aa,zp,Bs.aj,Bs.au,Bs.al,az]
   repeat(refine⟨by omega,?_⟩)
   refine eZ ?_;refine⟨⟨j+1,bf,by simpa using lM⟩,by simp;omega,?_⟩;refine zq rfl ?_ ?_;simp -dsimp only[simprocAttr,↓aa,zp,Bs.aj,Bs.au,Bs.al,az,zc]
   ·exact Sub.int (by simp)
   rfl
  refine aK ?_;simp -dsimp only[bI,ne_eq,Nat.reduceEqDiff,reduceCtorEq];have rL:j=t.to.length:=by simp at h;omega
  subst rL;rw[List.drop_length]at gh;refine aQ ?_;simp -dsimp only[simprocAttr,↓aa,zp,Bs.aj,Bs.au,Bs.al,az];refine ai ?_;refine aq ?_;simp -dsimp only[simprocAttr,↓aa,zp,Bs.aj,Bs.au,Bs.al,az,zr,Tryz.results91];exact⟨bB,by rw[gh];rfl⟩
def jD(ds:Defs)(over:List Bs)(seen:Bs)(k:Nat):Nat->List Ins->Bool
 | _,[]=>true
 | n,i::r=>i.args.all (jb ds over seen k n)&&jD ds over seen k (n+1) r
def lf(ds:Defs)(over:List Bs)(seen:Bs)(k:Nat)(b:Block):Bool:=jD ds over seen k 0 b.ins&&ou b.term (jb ds over seen k b.ins.length)
def gZ(ds:Defs)(over:List Bs)(seen:Bs):Nat->List Block->Bool
 | _,[]=>true
 | k,b::r=>lf ds over seen k b&&gZ ds over seen (k+1) r
def rf(f:Func)(ds:Defs):Int:=if gZ ds (k6 f).1 (k6 f).2 0 f.blocks then 0 else 6
theorem Lr(f:Func)(h0:f.blocks≠[])(h1:f.blocks.length<=128)(he:∀b∈f.blocks,∀e∈b.term.to,0<=e.block∧e.block.toNat<f.blocks.length):(k6 f).1.length=f.blocks.length∧(∀s∈(k6 f).1,s.fit)∧(k6 f).2.fit:=by
 have key:∀(n:Nat) (S:Ds),kZ f.blocks.length S->kZ f.blocks.length (iY f n S):=fun n=>by
  induction n with
  | zero=>exact fun S h=>h
  | succ n ih =>
   intro S h;simp only[iY];split
   ·exact ih _ (qD f.blocks (k:=0) (S:=⟨S.over,S.seen,false⟩) ⟨h.few,h.len,h.fit,h.seen,h.self⟩ he).1
   exact h
 have h:=key 20000 _ (yn h0 h1);exact⟨h.len,h.fit,h.seen⟩
theorem GZ(f:Func)(ds:Defs)(h0:f.blocks≠[])(h1:f.blocks.length<=128)(he:∀b∈f.blocks,∀e∈b.term.to,0<=e.block∧e.block.toNat<f.blocks.length)(tw:B3 f.blocks.length ds) :
  bA Tryz.prog 59 [.ip none [aI f.name,aw f.blocks,.im (.int .i64) (ds.map fa)]] (aI (rf f ds)):=by
 have Sm:=s7 f h0 h1 he;obtain⟨d1,d2,d3⟩:=Lr f h0 h1 he;obtain⟨R,hR⟩:∃R,R=rf f ds:=⟨_,rfl⟩
 rw[<-hR];unfold rf at hR;generalize k6 f=D at *;obtain⟨over,seen⟩:=D;simp only at Sm d1 d2 d3 hR;have IA:=fj 6 ds;have LY:=fj 3 ds;have YL:=fj 0 ds;have xo:∀(k:Nat) (at_:Int) (v:Int),k<f.blocks.length->bd Tryz.prog 89 [.gone,.gone,.gone,.gone,.gone,.cells [aI at_]] (aI v::HB f ds over seen k 5) (fun r O'=>r=.v (.bool (jb ds over seen k at_ v))∧O'=[.gone,.gone,.gone,.gone,.gone,.cells [aI at_]]):=fun k at_ v hk=>by
  refine FJ (O:=[.gone,.gone,.gone,.gone,.gone,.cells [aI at_]]) ?_ rfl (by omega) (by omega) d2 d3 (by rw[d1];exact tw) v;simp[ak.upto,av,ae.upto]
 refine zf true 0 Tryz.func59 Tryz.ntmps59 ?_;dsimp only[Tmp,TypeId,slotsOf];refine aQ ?_;simp -dsimp only[simprocAttr,↓aa,zp,Bs.aj,Bs.au,Bs.al,az];refine ai ?_;refine aC 1 0 (.ip none [.ip none [aI f.name,aw f.blocks,.im (.int .i64) (ds.map fa)]]) rfl (by simp[ak.aD]) trivial rfl ?_ ?_;rotate_left;simp -dsimp only[simprocAttr,↓aa,zp,Bs.aj,Bs.au,Bs.al,az]
 ·refine aQ ?_;simp -dsimp only[simprocAttr,↓aa,zp,Bs.aj,Bs.au,Bs.al,az];refine .inl ⟨_,Sm,by simp only[av,ae.upto,zt,zu,ax,Bs.aO,Bs.al],ao ?_⟩;simp -dsimp only[simprocAttr,↓aa,zp,Bs.aj,Bs.au,Bs.al,az];refine ai ?_;refine aC 3 1 (.ip none [.aA 2 (over.map Bs.enc) .sh]) rfl (by simp[ak.aD]) trivial rfl ?_ ?_;rotate_left;simp -dsimp only[simprocAttr,↓aa,zp,Bs.aj,Bs.au,Bs.al,az]
  ·refine aC 4 2 (.ip none [.v (.int .u64 seen.a),.v (.int .u64 seen.b)]) rfl (by simp[ak.aD]) trivial rfl ?_ ?_;rotate_left;simp -dsimp only[simprocAttr,↓aa,zp,Bs.aj,Bs.au,Bs.al,az]
   ·refine c7 ?_;simp -dsimp only[simprocAttr,↓aa,zp,Bs.aj,Bs.au,Bs.al,az];refine ai ?_;refine ah (aL (ι:={k:Nat // k<=f.blocks.length∧R=if gZ ds over seen k (f.blocks.drop k)then 0 else 6}) (fun k=>⟨64,[(1,.ip none [.ip none [aI f.name,aw f.blocks,.im (.int .i64) (ds.map fa)]]),(2,aI 0),(3,.ip none [.aA 2 (over.map Bs.enc) .sh]),(4,.ip none [.v (.int .u64 seen.a),.v (.int .u64 seen.b)]),(25,aw f.blocks),(26,aI f.blocks.length),(27,aI k.1)],[.gone,.gone,.gone]⟩) (fun k=>f.blocks.length-k.1) ⟨0,by omega,hR⟩ ?_ ?_)
    ·refine zq rfl ?_ ?_;simp -dsimp only[simprocAttr,↓aa,zp,Bs.aj,Bs.au,Bs.al,az,zc];rfl
    rintro⟨k,hk,di⟩;refine aQ ?_;simp -dsimp only[simprocAttr,↓aa,zp,Bs.aj,Bs.au,Bs.al,az];refine ai ?_;apply gJ rfl<;>intro h
    ·refine cj ?_;have bf:k<f.blocks.length:=by simpa using h
     obtain⟨b,hb⟩:∃b,f.blocks[k]?=some b:=⟨f.blocks[k],by simp[bf]⟩
     rw[bK hb]at di;simp only[gZ,lf]at di;refine aH (ah ?_);refine aQ ?_;simp -dsimp only[simprocAttr,↓aa,zp,Bs.aj,Bs.au,Bs.al,az,hb];refine ai ?_;refine aC 5 3 (.ip none [aI k]) rfl (by simp[ak.aD]) trivial rfl ?_ ?_;rotate_left;simp -dsimp only[simprocAttr,↓aa,zp,Bs.aj,Bs.au,Bs.al,az]
     ·refine aC 6 4 (.ip none [aJ b.params,a7 b.ins,aI b.term.kind,aI b.term.arg,aI b.term.n,aJ b.term.cases,aG b.term.to]) rfl (by simp[ak.aD]) trivial rfl ?_ ?_;rotate_left;simp -dsimp only[simprocAttr,↓aa,zp,Bs.aj,Bs.au,Bs.al,az]
      ·refine aQ ?_;simp -dsimp only[simprocAttr,↓aa,zp,Bs.aj,Bs.au,Bs.al,az];refine ai ?_;refine aQ ?_;simp -dsimp only[simprocAttr,↓aa,zp,Bs.aj,Bs.au,Bs.al,az];refine ai ?_;refine c7 ?_;simp -dsimp only[simprocAttr,↓aa,zp,Bs.aj,Bs.au,Bs.al,az];refine ai ?_;refine fD 34 rfl (fun BZ=>?_);simp only[List.length_map]at BZ;refine ah (aL (ι:={x:Nat×Int // x.1<=b.ins.length∧R=if(jD ds over seen k x.1 (b.ins.drop x.1)&&ou b.term (jb ds over seen k b.ins.length))&&gZ ds over seen (k+1) (f.blocks.drop (k+1))then 0 else 6}) (fun x=>⟨64,[(1,.ip none [.ip none [aI f.name,aw f.blocks,.im (.int .i64) (ds.map fa)]]),(2,aI 0),(3,.ip none [.aA 2 (over.map Bs.enc) .sh]),(4,.ip none [.v (.int .u64 seen.a),.v (.int .u64 seen.b)]),(25,aw f.blocks),(26,aI f.blocks.length),(27,aI k),(6,.ip none [aJ b.params,a7 b.ins,aI b.term.kind,aI b.term.arg,aI b.term.n,aJ b.term.cases,aG b.term.to]),(7,.mp 5 0),(8,.fn (.func 89) [] [.ip none [.ip none [aI f.name,aw f.blocks,.im (.int .i64) (ds.map fa)]],.ip none [aI k],.mp 5 0,.ip none [.aA 2 (over.map Bs.enc) .sh],.ip none [.v (.int .u64 seen.a),.v (.int .u64 seen.b)]]),(34,a7 b.ins),(35,aI b.ins.length),(36,aI x.1.1)],[.gone,.gone,.gone,.gone,.gone,.cells [aI x.1.2]]⟩) (fun x=>b.ins.length-x.1.1) ⟨(0,0),by simp,di⟩ ?_ ?_)
       ·refine zq rfl ?_ ?_;simp -dsimp only[simprocAttr,↓aa,zp,Bs.aj,Bs.au,Bs.al,az,zc];rfl
       rintro⟨⟨j,z⟩,hj,gh⟩;simp only at hj gh;refine aQ ?_;simp -dsimp only[simprocAttr,↓aa,zp,Bs.aj,Bs.au,Bs.al,az];refine ai ?_;apply gJ rfl<;>intro h
       ·refine cj ?_;have xr:j<b.ins.length:=by simpa using h
        obtain⟨i,hi⟩:∃i,b.ins[j]?=some i:=⟨b.ins[j],by simp[xr]⟩
        rw[bK hi]at gh;simp only[jD]at gh;refine aH (ah ?_);refine aQ ?_;simp -dsimp only[simprocAttr,↓aa,zp,Bs.aj,Bs.au,Bs.al,az,hi];refine ai ?_;refine aC 10 6 (.ip none [aI i.to,aI i.op,aI i.n,aJ i.args]) rfl (by simp[ak.aD]) trivial rfl ?_ ?_;rotate_left;simp -dsimp only[simprocAttr,↓aa,zp,Bs.aj,Bs.au,Bs.al,az]
        ·refine bp 6 [(1,.ip none [.ip none [aI f.name,aw f.blocks,.im (.int .i64) (ds.map fa)]]),(2,aI 0),(3,.ip none [.aA 2 (over.map Bs.enc) .sh]),(4,.ip none [.v (.int .u64 seen.a),.v (.int .u64 seen.b)]),(25,aw f.blocks),(26,aI f.blocks.length),(27,aI k),(6,.ip none [aJ b.params,a7 b.ins,aI b.term.kind,aI b.term.arg,aI b.term.n,aJ b.term.cases,aG b.term.to]),(7,.mp 5 0),(8,.fn (.func 89) [] [.ip none [.ip none [aI f.name,aw f.blocks,.im (.int .i64) (ds.map fa)]],.ip none [aI k],.mp 5 0,.ip none [.aA 2 (over.map Bs.enc) .sh],.ip none [.v (.int .u64 seen.a),.v (.int .u64 seen.b)]]),(34,a7 b.ins),(35,aI b.ins.length),(36,aI j),(9,aI j),(10,.ip none [aI i.to,aI i.op,aI i.n,aJ i.args])] (by simp) (by omega) [.gone,.gone,.gone,.gone,.gone,.cells [aI z]] ?_ ?_ ?_ ?_ ?_
         ·rfl
         ·simp[ak.upto,av,ae.upto,ax,Block.ag,Edge.ag,Ins.ag,gT,IA,LY]
         ·simp[eQ,St.get,bw,a8,Go.Av.look,Sub.refl]
         ·simp[ak.upto,av,ae.upto,ax,Block.ag,Edge.ag,Ins.ag,gT,IA,LY]
         refine aQ ?_;simp -dsimp only[simprocAttr,↓aa,zp,Bs.aj,Bs.au,Bs.al,az];refine ai ?_;refine aQ ?_;simp -dsimp only[simprocAttr,↓aa,zp,Bs.aj,Bs.au,Bs.al,az];refine ai ?_;refine fD 43 rfl (fun mG=>?_);simp only[List.length_map]at mG;refine ah (aL (ι:={y:Nat // y<=i.args.length∧R=if(((i.args.drop y).all (jb ds over seen k j)&&jD ds over seen k (j+1) (b.ins.drop (j+1)))&&ou b.term (jb ds over seen k b.ins.length))&&gZ ds over seen (k+1) (f.blocks.drop (k+1))then 0 else 6}) (fun y=>⟨64,[(1,.ip none [.ip none [aI f.name,aw f.blocks,.im (.int .i64) (ds.map fa)]]),(2,aI 0),(3,.ip none [.aA 2 (over.map Bs.enc) .sh]),(4,.ip none [.v (.int .u64 seen.a),.v (.int .u64 seen.b)]),(25,aw f.blocks),(26,aI f.blocks.length),(27,aI k),(6,.ip none [aJ b.params,a7 b.ins,aI b.term.kind,aI b.term.arg,aI b.term.n,aJ b.term.cases,aG b.term.to]),(7,.mp 5 0),(8,.fn (.func 89) [] [.ip none [.ip none [aI f.name,aw f.blocks,.im (.int .i64) (ds.map fa)]],.ip none [aI k],.mp 5 0,.ip none [.aA 2 (over.map Bs.enc) .sh],.ip none [.v (.int .u64 seen.a),.v (.int .u64 seen.b)]]),(34,a7 b.ins),(35,aI b.ins.length),(36,aI j),(43,aJ i.args),(44,aI i.args.length),(45,aI y.1)],[.gone,.gone,.gone,.gone,.gone,.cells [aI j]]⟩) (fun y=>i.args.length-y.1) ⟨0,by omega,gh⟩ ?_ ?_)
         ·refine zq rfl ?_ ?_;simp -dsimp only[simprocAttr,↓aa,zp,Bs.aj,Bs.au,Bs.al,az,zc];rfl
         rintro⟨y,hy,Ql⟩;refine aQ ?_;simp -dsimp only[simprocAttr,↓aa,zp,Bs.aj,Bs.au,Bs.al,az];refine ai ?_;apply gJ rfl<;>intro h
         ·refine cj ?_;have SU:y<i.args.length:=by simpa using h
          obtain⟨v,hv⟩:∃v,i.args[y]?=some v:=⟨i.args[y],by simp[SU]⟩
          rw[tO hv]at Ql;have PU:=xo k j v bf;refine aH (ah ?_);refine aQ ?_;simp -dsimp only[simprocAttr,↓aa,zp,Bs.aj,Bs.au,Bs.al,az,hv];refine ai ?_;refine aQ ?_;simp -dsimp only[simprocAttr,↓aa,zp,Bs.aj,Bs.au,Bs.al,az];refine .inr (.inr ⟨_,PU,ao ?_⟩);simp -dsimp only[simprocAttr,↓aa,zp,Bs.aj,Bs.au,Bs.al,az];refine ai ?_;cases Es:jb ds over seen k j v with
          | true =>
           rw[Es,Bool.true_and]at Ql;refine cv rfl ?_;refine kp ?_;refine jX ?_;simp -dsimp only[simprocAttr,↓aa,zp,Bs.aj,Bs.au,Bs.al,az]
           repeat(refine⟨by omega,?_⟩)
           refine eZ ?_;refine⟨⟨y+1,SU,Ql⟩,by simp;omega,?_⟩;refine zq rfl ?_ ?_;simp -dsimp only[simprocAttr,↓aa,zp,Bs.aj,Bs.au,Bs.al,az,zc]
           ·exact Sub.int (by simp)
           rfl
          | false =>
           rw[Es]at Ql;refine cB rfl ?_;refine aQ ?_;simp -dsimp only[simprocAttr,↓aa,zp,Bs.aj,Bs.au,Bs.al,az];refine ai ?_;refine aq ?_;simp -dsimp only[simprocAttr,↓aa,zp,Bs.aj,Bs.au,Bs.al,az,zr,Tryz.results59];rw[Ql];simp
         refine aK ?_;simp -dsimp only[bI,ne_eq,Nat.reduceEqDiff,reduceCtorEq];have V7:y=i.args.length:=by simp at h;omega
         subst V7;rw[List.drop_length]at Ql;refine jX ?_;simp -dsimp only[simprocAttr,↓aa,zp,Bs.aj,Bs.au,Bs.al,az]
         repeat(refine⟨by omega,?_⟩)
         refine eZ ?_;refine⟨⟨(j+1,j),xr,by simpa using Ql⟩,by simp;omega,?_⟩;refine zq rfl ?_ ?_;simp -dsimp only[simprocAttr,↓aa,zp,Bs.aj,Bs.au,Bs.al,az,zc]
         ·exact Sub.int (by simp)
         rfl
        exact bM.mp rfl rfl
       refine aK ?_;simp -dsimp only[bI,ne_eq,Nat.reduceEqDiff,reduceCtorEq];have rL:j=b.ins.length:=by simp at h;omega
       subst rL;rw[List.drop_length]at gh;simp only[jD,Bool.true_and]at gh;have Uw:=GY (O:=[.gone,.gone,.gone,.gone,.gone,.cells [aI b.ins.length]]) (by simp[ak.upto,av,ae.upto]) 89 (HB f ds over seen k 5) (by simp[ak.upto,av,ae.upto,ax,Block.ag,gT,IA]) (jb ds over seen k b.ins.length) (fun v=>xo k b.ins.length v bf) b.term;refine aQ ?_;simp -dsimp only[simprocAttr,↓aa,zp,Bs.aj,Bs.au,Bs.al,az];refine ai ?_;refine aQ ?_;simp -dsimp only[simprocAttr,↓aa,zp,Bs.aj,Bs.au,Bs.al,az];refine .inr (.inr ⟨_,Uw,ao ?_⟩);simp -dsimp only[simprocAttr,↓aa,zp,Bs.aj,Bs.au,Bs.al,az];refine ai ?_;cases Es:ou b.term (jb ds over seen k b.ins.length)with
       | true =>
        rw[Es,Bool.true_and]at gh;refine cv rfl ?_;refine kp ?_;refine bp 3 [(1,.ip none [.ip none [aI f.name,aw f.blocks,.im (.int .i64) (ds.map fa)]]),(2,aI 0),(3,.ip none [.aA 2 (over.map Bs.enc) .sh]),(4,.ip none [.v (.int .u64 seen.a),.v (.int .u64 seen.b)]),(25,aw f.blocks),(26,aI f.blocks.length),(27,aI k)] (by simp) (by omega) [.gone,.gone,.gone] ?_ ?_ ?_ ?_ ?_
        ·rfl
        ·simp[ak.upto,av,ae.upto,ax,Block.ag,Edge.ag,Ins.ag,gT,IA,LY]
        ·simp[eQ,St.get,bw,a8,Go.Av.look,Sub.refl]
        ·simp[ak.upto,av,ae.upto,ax,Block.ag,Edge.ag,Ins.ag,gT,IA,LY]
        refine jX ?_;simp -dsimp only[simprocAttr,↓aa,zp,Bs.aj,Bs.au,Bs.al,az]
        repeat(refine⟨by omega,?_⟩)
        refine eZ ?_;refine⟨⟨k+1,bf,gh⟩,by simp;omega,?_⟩;refine zq rfl ?_ ?_;simp -dsimp only[simprocAttr,↓aa,zp,Bs.aj,Bs.au,Bs.al,az,zc]
        ·exact Sub.int (by simp)
        rfl
       | false =>
        rw[Es]at gh;refine cB rfl ?_;refine aQ ?_;simp -dsimp only[simprocAttr,↓aa,zp,Bs.aj,Bs.au,Bs.al,az];refine ai ?_;refine aq ?_;simp -dsimp only[simprocAttr,↓aa,zp,Bs.aj,Bs.au,Bs.al,az,zr,Tryz.results59];rw[gh];simp
      exact bM.mp rfl rfl
     exact bM.mp rfl rfl
    refine aK ?_;simp -dsimp only[bI,ne_eq,Nat.reduceEqDiff,reduceCtorEq];have gi:k=f.blocks.length:=by simp at h;omega
    subst gi;rw[List.drop_length]at di;refine aQ ?_;simp -dsimp only[simprocAttr,↓aa,zp,Bs.aj,Bs.au,Bs.al,az];refine ai ?_;refine aq ?_;simp -dsimp only[simprocAttr,↓aa,zp,Bs.aj,Bs.au,Bs.al,az,zr,Tryz.results59];simp[di,gZ]
   exact bM.mp rfl rfl
  exact bM.mp rfl rfl
 exact bM.mp rfl rfl
end Go.Proofs.YtjdnhamngpafmaaGreat
namespace Go.Av
theorem jM{P:Program}{ops all:Array Oper}{k:Nat}(hk:∀i o,ops[i]?=some o->all[k+i]?=some o)(hg:∀o∈all.toList,o.guard=none):∀{l:List (Nat×Kind)} {σ τ:St},eO P ops l σ τ->eO P all (l.map fun p=>(k+p.1,p.2)) σ τ
 | [],_,_,h=>h
 | (i,q)::r,_,_,h=>by
  obtain⟨fw,⟨o,ho,h1⟩,h2⟩:=h;refine⟨fw,⟨o,hk i o ho,?_⟩,jM hk hg h2⟩;have iD:=hk i o ho;have Ex:o.guard=none:=hg o (by
   rw[<-Array.getElem?_toList]at iD;exact List.mem_of_getElem? iD)
  have w1:∀(a:Array Oper) (σ:St),cU a o σ=some true:=fun a σ=>by simp[cU,Ex]
  rcases h1 with⟨_,h1⟩|⟨h1,_⟩
  ·exact .inl ⟨w1 _ _,h1⟩
  rw[w1]at h1;cases h1
def Hl(P:Program)(aR:ez)(md:Md)(o:Oper)(l2:List Oper)(Q:dt->St->Prop)(τ:St):Prop:=∃x m,Cert P o τ x m∧dR P aR md l2 0 [] ⟨τ.n,pc o.dst x τ.bn,m.post τ.objs⟩ [] fun ρ _=>At ρ (Q .norm)
theorem pC{P:Program}{kb:Nat}{aR:ez}(md:Md)(hT:bT P aR){id:Nat}{l l1 l2:List Oper}{o:Oper}{Q:dt->St->Prop}{σ:St}(k:Nat)(h1:l.take k=l1)(h2:l[k]?=some o)(h3:l.drop (k+1)=l2)(hg:∀o∈l,o.guard=none)
  (h:dR P aR md l1 0 [] σ [] fun τ _=>Hl P aR md o l2 Q τ):bX P kb (.region id l.toArray false) Q σ:=by
 have bf:=I h2;obtain⟨τ,xz,c1,n1,x,m,hc,h⟩:=ef (all:=l1.toArray) hT l1 0 [] σ [] (fun j=>by simp) (fun j t hj=>by simp[iV]at hj) h;obtain⟨ρ,OM,c2,n2,hQ⟩:=ef (all:=l2.toArray) hT l2 0 [] _ [] (fun j=>by simp) (fun j t hj=>by simp[iV]at hj) h;intro base a g hb hr;have Ex:o.guard=none:=hg o (List.mem_of_getElem? h2);have Wc:l1.length=k:=by rw[<-h1,List.length_take];omega
 have XO:l2.length=l.length-(k+1):=by rw[<-h3,List.length_drop]
 have d1:=jM (all:=l.toArray) (k:=0) (fun i o' hi=>by
  have gP:l1[i]?=some o':=by simpa using hi
  have:=I gP;rw[<-h1,List.getElem?_take]at gP;split at gP
  ·simpa using gP
  cases gP) (by simpa using hg) c1
 have d2:=jM (all:=l.toArray) (k:=k+1) (fun i o' hi=>by
  have gP:l2[i]?=some o':=by simpa using hi
  rw[<-h3,List.getElem?_drop]at gP;simpa using gP) (by simpa using hg) c2
 have dm:eO P l.toArray [(k,m.kind)] τ ⟨τ.n,pc o.dst x τ.bn,m.post τ.objs⟩:=⟨_,⟨o,by simpa using h2,.inl ⟨by simp[cU,Ex],x,m,hc,rfl,rfl⟩⟩,gQ.refl _⟩
 have pn:=mr d1 (mr dm d2);obtain⟨ks,Xo⟩:∃ks,ks=xz++m.kind::OM:=⟨_,rfl⟩
 have e:(List.range l.toArray.size).map (fun i=>(i,ks.getD i .write))=(List.map (fun p=>(0+p.1,p.2)) (List.map (fun p=>(p.2,p.1)) (xz.zipIdx 0))++([(k,m.kind)]++List.map (fun p=>(k+1+p.1,p.2)) (List.map (fun p=>(p.2,p.1)) (OM.zipIdx 0)))):=by
  have cH:l.toArray.size=ks.length:=by
   rw[Xo];simp only[List.size_toArray,List.length_append,List.length_cons];omega
  rw[cH];apply List.ext_getElem?;intro i;rw[Xo];simp only[List.getElem?_map];by_cases q1:i<xz.length
  ·rw[List.getElem?_append_left (by simpa using q1),List.getElem?_range (by simp;omega)];simp[q1,List.getElem?_append_left]
  rw[List.getElem?_append_right (by simp;omega)];simp only[List.length_map,List.length_zipIdx];by_cases q2:i=xz.length
  ·subst q2;rw[List.getElem?_range (by simp)];simp[n1,Wc]
  rw[List.getElem?_append_right (by simp;omega)];obtain⟨j,hj⟩:∃j,i=xz.length+1+j:=⟨i-xz.length-1,by omega⟩
  subst hj;simp only[List.length_cons,List.length_nil,show xz.length+1+j-xz.length-(0+1)=j by omega,List.getElem?_map,List.getElem?_zipIdx];by_cases q3:j<OM.length
  ·rw[List.getElem?_range (by simp;omega)];simp only[Option.map_some,List.getElem?_eq_getElem q3,Option.some.injEq,Prod.mk.injEq];refine⟨by omega,?_⟩;rw[List.getD_eq_getElem?_getD,List.getElem?_append_right (by omega),show xz.length+1+j-xz.length=j+1 by omega,List.getElem?_cons_succ,List.getElem?_eq_getElem q3];rfl
  rw[List.getElem?_eq_none (l:=List.range _) (by simp;omega),List.getElem?_eq_none (l:=OM) (by omega)];rfl
 rw[<-e]at pn;exact lK pn hr fun a g Da=>⟨g,ρ,rfl,Da,hQ⟩
theorem yh{P:Program}{o:Oper}{σ:St}{t t':TypeId}{x y:Operand}{k:IntKind}{m n:Int}
  (ho:o.op=.binOp .add t x y t') (hd:∀d,o.dst=some d->d<σ.n) (hx:σ.ev x=some (.v (.int k m))) (hy:σ.ev y=some (.v (.int k n))) :
  Cert P o σ (.v (.int k (k.wrap (m+n)))) .pure :=
 Cert.bL .pure (.inl rfl) hd fun a g _ h _=>by
  have ex:=(h x (by simp[ho,Op.operands]) _ hx).bZ.1;have ey:=(h y (by simp[ho,Op.operands]) _ hy).bZ.1;have hg:=cK (P:=P) .add t x y (.int k m) (.int k n) g.w (by simp) (by simp);refine⟨.int k (k.wrap (m+n)),?_,.v (wrap_within k _)⟩;have hb:(binOp .add t (.int k m) (.int k n)).run P g.w=.ok (.int k (k.wrap (m+n))) g.w:=by
   simp[binOp,Op.intArith]
  simp[execOp,ho,ex,ey,hg,hb]
theorem xJ{P:Program}{aR:ez}{md:Md}{o:Oper}{l2:List Oper}{Q:dt->St->Prop}{τ:St}{t t':TypeId}{x y:Operand}{k:IntKind}{m n:Int}{d:Nat}
  (ho:o.op=.binOp .add t x y t') (iZ:o.dst=some d) (hd:d<τ.n) (hx:τ.ev x=some (.v (.int k m))) (hy:τ.ev y=some (.v (.int k n)))
  (h:dR P aR md l2 0 [] ⟨τ.n,pc o.dst (.v (.int k (k.wrap (m+n)))) τ.bn,τ.objs⟩ [] fun ρ _=>At ρ (Q .norm)):Hl P aR md o l2 Q τ :=
 ⟨_,.pure,yh ho (fun d' e=>by rw[iZ]at e;cases e;exact hd) hx hy,h⟩
end Go.Av
namespace Go.Proofs.YtjdnhamngpafmaaGreat
open Go.Av
theorem Dl(ds:Defs)(k v:Int)(p:Int×Int):fB (ds++[(k,p)]) v=match fB ds v with|some q=>some q|none=>if k=v then some p else none:=by
 induction ds with
 | nil=>rfl
 | cons e r ih =>
  obtain⟨a,q⟩:=e;simp only[List.cons_append,fB];split
  ·rfl
  exact ih
structure kB(n:Nat)(ds:Defs):Prop where
 ok:B3 n ds
 nodup:(ds.map (·.1)).Nodup
 range:∀e∈ds,0<=e.1∧e.1<=4095
theorem Dk{ds:Defs}{v:Int}(h:fB ds v=none):∀e∈ds,e.1≠v:=by
 induction ds with
 | nil=>simp
 | cons e r ih =>
  obtain⟨a,q⟩:=e;simp only[fB]at h;split at h
  ·cases h
  rename_i cq;intro e he;rcases List.mem_cons.1 he with q|q
  ·subst q;exact cq
  exact ih h e q
theorem n6:∀(n:Nat) (l:List Nat),l.Nodup->(∀x∈l,x<n)->l.length<=n
 | 0,l,_,h=>by
  cases l with
  | nil=>simp
  | cons a r=>exact absurd (h a (by simp)) (by omega)
 | n+1,l,hn,h=>by
  by_cases hm:n∈l
  ·have:=n6 n (l.erase n) (hn.erase n) (fun x hx=>by
    have h1:=(List.Nodup.mem_erase_iff hn).1 hx;have h2:=h x h1.2;have h3:=h1.1;omega)
   rw[List.length_erase_of_mem hm]at this;omega
  have:=n6 n l hn (fun x hx=>by
   have h2:=h x hx;have:x≠n:=fun e=>hm (e ▸ hx);omega)
  omega
theorem kB.few{n:Nat}{ds:Defs}(h:kB n ds):ds.length<=4096:=by
 have h1:(ds.map fun e=>e.1.toNat).Nodup:=by
  have h0:=h.nodup;have hr:=h.range;clear h;induction ds with
  | nil=>simp
  | cons e r ih =>
   simp only[List.map_cons,List.nodup_cons,List.mem_map,not_exists,not_and]at h0 ⊢;refine⟨fun x hx q=>h0.1 x hx ?_,ih h0.2 (fun e he=>hr e (by simp[he]))⟩;have a:=hr e (by simp);have b:=hr x (by simp[hx]);omega
 have:=n6 4096 _ h1 (fun x hx=>by
  obtain⟨e,he,rfl⟩:=List.mem_map.1 hx;have:=h.range e he;omega)
 simpa using this
theorem uA{n:Nat}{ds:Defs}(h:kB n ds)(v:Int){p:Int×Int}(h0:0<=p.1)(h1:p.1.toNat<n):kB n (c9 ds v p).2∧((c9 ds v p).1=0->(c9 ds v p).2.length=ds.length+1):=by
 unfold c9;split
 ·exact⟨h,fun q=>by simp at q⟩
 rename_i hw;split
 ·exact⟨h,fun q=>by simp at q⟩
 rename_i hl;have zF:fB ds v=none:=by simpa using hl
 have wE:0<=v∧v<=4095:=by simpa[within]using hw
 refine⟨⟨fun w q hq=>?_,?_,fun e he=>?_⟩,fun _=>by simp⟩
 ·rw[Dl]at hq;cases hd:fB ds w with
  | some q' =>
   rw[hd]at hq;simp only[Option.some.injEq]at hq;exact hq ▸ h.ok w q' hd
  | none =>
   rw[hd]at hq;simp only at hq;split at hq
   ·simp only[Option.some.injEq]at hq;exact hq ▸ ⟨h0,h1⟩
   cases hq
 ·rw[List.map_append,List.map_cons,List.map_nil,List.nodup_append];refine⟨h.nodup,by simp,fun a ha b hb=>?_⟩;obtain⟨e,he,rfl⟩:=List.mem_map.1 ha;simp only[List.mem_singleton]at hb;subst hb;exact Dk zF e he
 rcases List.mem_append.1 he with q|q
 ·exact h.range e q
 simp only[List.mem_singleton]at q;subst q;exact wE
theorem vm{n:Nat}{k:Int}(h0:0<=k)(h1:k.toNat<n):∀(l:List Int) (ds:Defs),kB n ds->kB n (dw k ds l).2∧((dw k ds l).1=0->(dw k ds l).2.length=ds.length+l.length)
 | [],ds,h=>⟨h,fun _=>by simp[dw]⟩
 | p::r,ds,h=>by
  have hd:=uA h p (p:=(k,0)) h0 h1;simp only[dw];split
  ·rename_i cq;exact⟨hd.1,fun q=>absurd q cq⟩
  rename_i he;have ih:=vm h0 h1 r _ hd.1;refine⟨ih.1,fun q=>?_⟩;rw[ih.2 q,hd.2 (by simpa using he)];simp only[List.length_cons];omega
theorem ES{n:Nat}{k:Int}(h0:0<=k)(h1:k.toNat<n):∀(l:List Ins) (j:Int) (ds:Defs),kB n ds->kB n (mK k j ds l).2∧((mK k j ds l).1=0->(mK k j ds l).2.length=ds.length+l.length∧∀i∈l,ka i=0)
 | [],j,ds,h=>⟨h,fun _=>by simp[mK]⟩
 | i::r,j,ds,h=>by
  have hd:=uA h i.to (p:=(k,j+1)) h0 h1;simp only[mK];split
  ·rename_i cq;exact⟨hd.1,fun q=>absurd q cq⟩
  rename_i he;split
  ·rename_i hf;exact⟨hd.1,fun q=>absurd q hf⟩
  rename_i hf;have ih:=ES h0 h1 r (j+1) _ hd.1;refine⟨ih.1,fun q=>?_⟩;obtain⟨a,b⟩:=ih.2 q;refine⟨?_,fun x hx=>?_⟩
  ·rw[a,hd.2 (by simpa using he)];simp only[List.length_cons];omega
  rcases List.mem_cons.1 hx with e|e
  ·subst e;simpa using hf
  exact b x e
structure K2(f:Func)(b:Block):Prop where
 Eo:∀i∈b.ins,ka i=0
 fin:k7 f b.term=0
 few:b.params.length+b.ins.length<=4096
theorem Fo{f:Func}{ds:Defs}{k:Int}(h:kB f.blocks.length ds)(h0:0<=k)(h1:k.toNat<f.blocks.length):kB f.blocks.length (fE f ds k).2∧((fE f ds k).1=0->K2 f (aF f k)):=by
 have hp:=vm h0 h1 (aF f k).params ds h;have hi:=ES h0 h1 (aF f k).ins 0 _ hp.1;unfold fE;split
 ·rename_i cq;exact⟨hp.1,fun q=>absurd q cq⟩
 rename_i IV;split
 ·rename_i cq;exact⟨hi.1,fun q=>absurd q cq⟩
 rename_i Y0;refine⟨hi.1,fun q=>?_⟩;have a:=hp.2 (by simpa using IV);have b:=hi.2 (by simpa using Y0);have c:=hi.1.few;exact⟨b.2,q,by rw[b.1,a]at c;omega⟩
theorem mB{f:Func}{t:Term}(h:k7 f t=0):dV t=true∧t.cases.length<=256∧(t.kind=4->1<=t.n∧t.n<=6)∧∀e∈t.to,(1<=e.block∧e.block<=(f.blocks.length:Int)-1)∧e.args.length=(aF f e.block).params.length:=by
 unfold k7 at h;split at h
 ·simp at h
 rename_i hs;split at h
 ·simp at h
 rename_i hc;split at h
 ·simp at h
 rename_i hk;split at h
 ·rename_i cq;exact absurd h cq
 refine⟨by simpa using hs,by omega,fun k4=>?_,?_⟩
 ·by_cases hw:within t.n 1 6=false
  ·exact absurd ⟨k4,hw⟩ hk
  simpa[within]using hw
 generalize t.to=l at h;induction l with
 | nil=>simp
 | cons e r ih =>
  simp only[nJ]at h;split at h
  ·simp at h
  rename_i h1;split at h
  ·simp at h
  rename_i h2;intro x hx;rcases List.mem_cons.1 hx with q|q
  ·subst q;exact⟨by simpa[within]using h1,by simpa using h2⟩
  exact ih h x q
def mc:Int->List Block->Int
 | m,[]=>m
 | m,b::r=>mc (IntKind.i64.wrap (m+b.ins.length)) r
def cR(f:Func):Nat->Int->Defs->Int×Defs
 | 0,_,ds=>(0,ds)
 | n+1,k,ds=>if(fE f ds k).1≠0 then fE f ds k else cR f n (k+1) (fE f ds k).2
def aZ(f:Func):Int :=
 if f.blocks.length=0 then 3
 else if 128<f.blocks.length∨1024<mc 0 f.blocks∨6<(aF f 0).params.length then 2
 else if within f.name (-1) 1048575=false then 4
 else if(cR f f.blocks.length 0 []).1≠0 then(cR f f.blocks.length 0 []).1
 else rf f (cR f f.blocks.length 0 []).2
theorem ml{f:Func}:∀(n:Nat) (k:Int) (ds:Defs),kB f.blocks.length ds->0<=k->k.toNat+n<=f.blocks.length->(cR f n k ds).1=0->kB f.blocks.length (cR f n k ds).2∧∀j:Nat,j<n->K2 f (aF f (k+j))
 | 0,k,ds,h,_,_,_=>⟨h,fun j hj=>absurd hj (by omega)⟩
 | n+1,k,ds,h,h0,h1,he=>by
  have hb:=Fo (k:=k) h h0 (by omega);simp only[cR]at he ⊢;split at he
  ·rename_i cq;exact absurd he cq
  rename_i cq;rw[if_neg cq];have ih:=ml n (k+1) _ hb.1 (by omega) (by omega) he;refine⟨ih.1,fun j hj=>?_⟩;cases j with
  | zero=>simpa using hb.2 (by simpa using cq)
  | succ j =>
   have:=ih.2 j (by omega)
   rwa [show k+((j+1:Nat):Int)=k+1+(j:Int) by omega]
theorem kB.nil(n:Nat):kB n []:=⟨fun v p h=>(by cases h),by simp,by simp⟩
theorem Gk{f:Func}{b:Block}(h:b∈f.blocks):∃j:Nat,j<f.blocks.length∧b=aF f (j:Int):=by
 obtain⟨j,hj,rfl⟩:=List.getElem_of_mem h;exact⟨j,hj,by simp[aF,hj]⟩
theorem so{f:Func}(he:(cR f f.blocks.length 0 []).1=0):∀b∈f.blocks,K2 f b:=fun b hb=>by
 obtain⟨j,hj,rfl⟩:=Gk hb;have:=(ml f.blocks.length 0 [] (.nil _) (by omega) (by simp) he).2 j hj;simpa using this
theorem iJ(f:Func)(bo:f.fit):bA Tryz.prog 31 [f.enc] (aI (aZ f)):=by
 have hw:=dF f.name (-1) 1048575;have uK:f.blocks.length<=2 ^ 47:=bo.2.1;obtain⟨R,hR⟩:∃R,R=aZ f:=⟨_,rfl⟩
 rw[<-hR];unfold aZ at hR;refine zf true 0 Tryz.func31 Tryz.ntmps31 ?_;dsimp only[Tmp,TypeId,slotsOf];refine ay (ai ?_);refine aC 1 0 (.ip none [aI f.name,aw f.blocks]) rfl (by simp[ak.aD]) trivial rfl ?_ ?_;rotate_left;simp -dsimp only[simprocAttr,↓aa,zp]
 ·refine ay (ai ?_);refine bV (ai ?_);refine ah (aL (ι:={x:Nat×Int // x.1<=f.blocks.length∧mc 0 f.blocks=mc x.2 (f.blocks.drop x.1)}) (fun x=>⟨69,[(1,.ip none [aI f.name,aw f.blocks]),(2,aI 0),(3,aI x.1.2),(10,aw f.blocks),(11,aI f.blocks.length),(12,aI x.1.1)],[.gone]⟩) (fun x=>f.blocks.length-x.1.1) ⟨(0,0),by simp,rfl⟩ ?_ ?_)
  ·refine zq rfl ?_ ?_;simp -dsimp only[simprocAttr,↓aa,zp,zc];rfl
  rintro⟨⟨k,m⟩,hk,di⟩;simp only at hk di;refine ay (ai ?_);apply gJ rfl<;>intro h
  ·refine cj ?_;have bf:k<f.blocks.length:=by simpa using h
   obtain⟨b,hb⟩:∃b,f.blocks[k]?=some b:=⟨f.blocks[k],by simp[bf]⟩
   rw[bK hb]at di;simp only[mc]at di;refine aH (ah ?_);refine aQ ?_;simp -dsimp only[simprocAttr,↓aa,zp,hb];refine ai ?_;refine aC 5 1 (.ip none [aJ b.params,a7 b.ins,aI b.term.kind,aI b.term.arg,aI b.term.n,aJ b.term.cases,aG b.term.to]) rfl (by simp[ak.aD]) trivial rfl ?_ ?_;rotate_left;simp -dsimp only[simprocAttr,↓aa,zp]
   ·refine pC ⟨false,false⟩ hT 4 rfl rfl rfl (by simp) ?_;simp -dsimp only[simprocAttr,↓aa,zp];refine xJ rfl rfl (by simp) rfl rfl ?_;simp -dsimp only[simprocAttr,↓aa,zp];refine ai ?_;refine bp 1 [(1,.ip none [aI f.name,aw f.blocks]),(2,aI 0),(3,aI (IntKind.i64.wrap (m+b.ins.length))),(10,aw f.blocks),(11,aI f.blocks.length),(12,aI k)] (by simp) (by omega) [.gone] ?_ ?_ ?_ ?_ ?_
    ·rfl
    ·simp[ak.upto,av,ae.upto,ax,Block.ag]
    ·simp[eQ,St.get,bw,a8,Go.Av.look,Sub.refl]
    ·simp[ak.upto,av,ae.upto,ax,Block.ag]
    refine cM ?_
    repeat(refine⟨by omega,?_⟩)
    refine eZ ?_;refine⟨⟨(k+1,IntKind.i64.wrap (m+b.ins.length)),by simp only;omega,di⟩,by simp;omega,?_⟩;refine zq rfl ?_ ?_;simp -dsimp only[simprocAttr,↓aa,zp,zc]
    ·exact Sub.int (by simp)
    rfl
   exact bM.mp rfl rfl
  refine aK ?_;simp -dsimp only[bI,ne_eq,Nat.reduceEqDiff,reduceCtorEq];have gi:k=f.blocks.length:=by simp at h;omega
  subst gi;rw[List.drop_length]at di;simp only[mc]at di;rw[di]at hR;refine aH (ah ?_);refine ay (ai ?_);apply aN rfl<;>intro h
  ·have hl:f.blocks.length=0:=by simpa using h
   rw[if_pos hl]at hR;refine ay (ai ?_);refine aq ?_;simp -dsimp only[simprocAttr,↓aa,zp,zr,Tryz.results31];rw[hR]
  have hl:¬f.blocks.length=0:=by simpa using h
  rw[if_neg hl]at hR;have hB:f.blocks[0]?=some (aF f 0):=dP (f:=f) (k:=0) (by omega) (by omega);generalize aF f 0=B at *;refine fY (⟨69,[(1,.ip none [aI f.name,aw f.blocks]),(2,aI 0),(27,.v (.bool (decide ((128:Int)<f.blocks.length) ||decide ((1024:Int)<m) ||decide ((6:Int)<B.params.length))))],[.gone]⟩) ?_ ?_
  ·cases hA:decide ((128:Int)<f.blocks.length)<;>cases RS:decide ((1024:Int)<m)<;>cases hC:decide ((6:Int)<B.params.length)
   all_goals
    refine eC hT hm ?_;simp -dsimp only[simprocAttr,↓aa,zp,hA,RS,hC,hB];refine a6 ?_;show ba _ _;refine zq rfl ?_ ?_;simp -dsimp only[simprocAttr,↓aa,zp,zc]
    ·exact Sub.refl _
    rfl
  by_cases yC:128<f.blocks.length∨1024<m∨6<B.params.length
  ·rw[if_pos yC]at hR;have hd:(decide ((128:Int)<f.blocks.length) ||decide ((1024:Int)<m) ||decide ((6:Int)<B.params.length))=true:=by
    simp only[Bool.or_eq_true,decide_eq_true_eq];omega
   rw[hd];refine cB rfl ?_;refine ay (ai ?_);refine aq ?_;simp -dsimp only[simprocAttr,↓aa,zp,zr,Tryz.results31];rw[hR]
  rw[if_neg yC]at hR;have hd:(decide ((128:Int)<f.blocks.length) ||decide ((1024:Int)<m) ||decide ((6:Int)<B.params.length))=false:=by
   simp only[Bool.or_eq_false_iff,decide_eq_false_iff_not];omega
  rw[hd];have Sy:f.blocks.length<=128:=by omega
  have cq:f.blocks≠[]:=fun e=>hl (by rw[e];rfl);cases hn:within f.name (-1) 1048575 with
  | false =>
   rw[if_pos hn]at hR;rw[hn]at hw;refine cv rfl ?_;refine ay ?_;refine .inl ⟨_,hw,by simp only[av,ae.upto,zt,zu,ax,fj],ao ?_⟩;simp -dsimp only[simprocAttr,↓aa,zp];refine ai ?_;refine cB rfl ?_;refine ay (ai ?_);refine aq ?_;simp -dsimp only[simprocAttr,↓aa,zp,zr,Tryz.results31];rw[hR]
  | true =>
   rw[if_neg (by simp[hn])]at hR;rw[hn]at hw;apply aN rfl<;>intro h
   ·cases h
   refine ay ?_;refine .inl ⟨_,hw,by simp only[av,ae.upto,zt,zu,ax,fj],ao ?_⟩;simp -dsimp only[simprocAttr,↓aa,zp];refine ai ?_;apply aN rfl<;>intro h
   ·cases h
   refine kp ?_;refine ay (ai ?_);refine bV (ai ?_);have uJ:∀(ds:Defs) (k:Nat),k<f.blocks.length->bd Tryz.prog 58 [.gone,.map (.int .i64) (ds.map fa),.cells [aI f.name,aw f.blocks,.mm 1]] [.mp 2 0,aI k] (fun r O'=>r=aI (fE f ds k).1∧O'=[.gone,.map (.int .i64) ((fE f ds k).2.map fa),.cells [aI f.name,aw f.blocks,.mm 1]]):=fun ds k hk=>by
    have gg:(aF f k).term.cases.length<=2 ^ 60:=by
     have hb:=List.mem_of_getElem? (dP (f:=f) (k:=k) (by omega) (by omega));have:=(bo.2.2 _ hb).2.2.2.2.2.2.2.2.1;omega
    exact Cm (O:=[.gone,.map (.int .i64) (ds.map fa),.cells [aI f.name,aw f.blocks,.mm 1]]) (c:=2) (d:=1) (by simp[ak.upto,av,ae.upto,Block.ag,fj]) (by omega) rfl rfl k (by omega) (by omega) (by omega) gg
   refine ah (aL (ι:={x:Nat×Defs // x.1<=f.blocks.length∧cR f f.blocks.length 0 []=cR f (f.blocks.length-x.1) x.1 x.2}) (fun x=>⟨69,[(1,.ip none [aI f.name,aw f.blocks]),(2,aI 0),(6,.mp 2 0),(56,aI f.blocks.length),(57,aI x.1.1)],[.gone,.map (.int .i64) (x.1.2.map fa),.cells [aI f.name,aw f.blocks,.mm 1]]⟩) (fun x=>f.blocks.length-x.1.1) ⟨(0,[]),by simp,rfl⟩ ?_ ?_)
   ·refine zq rfl ?_ ?_;simp -dsimp only[simprocAttr,↓aa,zp,zc];rfl
   rintro⟨⟨k,ds⟩,hk,di⟩;simp only at hk di;refine ay (ai ?_);apply gJ rfl<;>intro h
   ·refine cj ?_;have bf:k<f.blocks.length:=by simpa using h
    rw[show f.blocks.length-k=f.blocks.length-(k+1)+1 by omega]at di;simp only[cR]at di;have hb:=uJ ds k bf;generalize fE f ds k=X at *;refine aH (ah ?_);refine ay (ai ?_);refine ay ?_;refine .inr (.inl ⟨_,_,hb,.inl (ao (zj ?_))⟩);refine ai ?_;by_cases hX:X.1=0
    ·have IB:decide (X.1=0)=true:=decide_eq_true hX;rw[if_neg (by simp[hX])]at di;refine aQ ?_;simp -dsimp only[simprocAttr,↓aa,zp,IB];refine ai ?_;refine cv rfl ?_;refine kp ?_;refine cM ?_
     repeat(refine⟨by omega,?_⟩)
     refine eZ ?_;refine⟨⟨(k+1,X.2),by simp only;omega,di⟩,by simp;omega,?_⟩;refine zq rfl ?_ ?_;simp -dsimp only[simprocAttr,↓aa,zp,zc]
     ·exact Sub.int (by simp)
     rfl
    have IB:decide (X.1=0)=false:=decide_eq_false hX;rw[if_pos hX]at di;rw[di,if_pos hX]at hR;refine aQ ?_;simp -dsimp only[simprocAttr,↓aa,zp,IB];refine ai ?_;refine cB rfl ?_;refine ay (ai ?_);refine aq ?_;simp -dsimp only[simprocAttr,↓aa,zp,zr,Tryz.results31];rw[hR]
   refine aK ?_;simp -dsimp only[bI,ne_eq,Nat.reduceEqDiff,reduceCtorEq];have gi:k=f.blocks.length:=by simp at h;omega
   subst gi;rw[Nat.sub_self]at di;simp only[cR]at di;have Ix:(cR f f.blocks.length 0 []).1=0:=by rw[di]
   have cr:=so Ix;have Sp:=(ml f.blocks.length 0 [] (.nil _) (by omega) (by simp) Ix).1;rw[di]at Sp;rw[di,if_neg (by simp)]at hR;have Uw:=GZ f ds cq Sy (fun b hb e he=>by
    have:=(mB (cr b hb).fin).2.2.2 e he;omega) Sp.ok
   simp only at hR;rw[<-hR]at Uw;refine gS 1 rfl (by simp[ak.aD]) trivial [(2,aI 0),(6,.mp 2 0)] ?_ 2 (by omega) _ [aI f.name,aw f.blocks,.im (.int .i64) (ds.map fa)] rfl rfl ?_ ?_ ?_
   ·intro s y hy;simp only[Go.Av.look]at hy;split at hy
    ·cases hy;rename_i e;subst e;exact⟨_,rfl,.refl _⟩
    split at hy
    ·cases hy;rename_i e;subst e;exact⟨_,rfl,.refl _⟩
    cases hy
   ·simp[ae.scalar]
   ·intro j c d hc hd
    match j,hc,hd with
    | 0,hc,hd =>
     cases hc;cases hd;exact .refl _
    | 1,hc,hd =>
     cases hc;cases hd;exact .refl _
    | 2,hc,hd =>
     cases hc;cases hd;exact .mm rfl
   show bX Tryz.prog _ _ _ ⟨_,_,[.gone,.gone,.cells [aI f.name,aw f.blocks,.im (.int .i64) (ds.map fa)]]⟩;refine aC 6 2 (.ip none [aI f.name,aw f.blocks,.im (.int .i64) (ds.map fa)]) rfl (by simp[ak.aD]) trivial rfl ?_ ?_;rotate_left;simp -dsimp only[simprocAttr,↓aa,zp]
   ·refine ay ?_;refine .inl ⟨_,Uw,by simp only[av,ae.upto,zt,zu,ax,fj],ao ?_⟩;simp -dsimp only[simprocAttr,↓aa,zp];refine ai ?_;refine aq ?_;simp -dsimp only[simprocAttr,↓aa,zp,zr,Tryz.results31]
   exact bM.mp rfl rfl
 exact bM.mp rfl rfl
def jZ(u:cd)(i:Ins):Int :=
 if i.op≠13∧i.op≠9 then 0
 else if(u.fns.length:Int)<=i.n then 4
 else if(i.op=13∧(aF (cx u i.n) 0).params.length≠i.args.length)∨(i.op=9∧(aF (cx u i.n) 0).params.length=0)then 3
 else 0
theorem ue(u:cd)(i:Ins)(hn:i.op=13∨i.op=9->0<=i.n)(cq:∀f∈u.fns,f.blocks≠[]):bA Tryz.prog 32 [u.enc,i.enc] (aI (jZ u i)):=by
 obtain⟨R,hR⟩:∃R,R=jZ u i:=⟨_,rfl⟩
 rw[<-hR];unfold jZ at hR;rcases(show(i.op≠13∧i.op≠9)∨i.op=13∨i.op=9 by omega)with h|h|h
 ·rw[if_pos h]at hR;have h1:decide (i.op=13)=false:=decide_eq_false h.1;have h2:decide (i.op=9)=false:=decide_eq_false h.2;refine zf true 0 Tryz.func32 Tryz.ntmps32 ?_;dsimp only[Tmp,TypeId,slotsOf];refine ay (ai ?_);refine c7 ?_;simp -dsimp only[simprocAttr,↓aa,zp,h1,h2];refine ai ?_;refine cB rfl ?_;refine ay (ai ?_);refine aq ?_;simp -dsimp only[simprocAttr,↓aa,zp,zr,Tryz.results32];rw[hR]
 all_goals
  have hn:=hn (by omega);rw[if_neg (by omega)]at hR;by_cases hl:(u.fns.length:Int)<=i.n
  ·rw[if_pos hl]at hR;have h3:decide ((u.fns.length:Int)<=i.n)=true:=decide_eq_true hl;have UN:(decide (i.op=13)=true∧decide (i.op=9)=false)∨(decide (i.op=13)=false∧decide (i.op=9)=true):=by
    simp only[decide_eq_true_eq,decide_eq_false_iff_not];omega
   rcases UN with⟨h1,h2⟩|⟨h1,h2⟩
   all_goals
    refine zf true 0 Tryz.func32 Tryz.ntmps32 ?_;dsimp only[Tmp,TypeId,slotsOf];refine ay (ai ?_);refine c7 ?_;simp -dsimp only[simprocAttr,↓aa,zp,h1,h2];refine ai ?_;refine cv rfl ?_;refine cj ?_;refine c7 ?_;simp -dsimp only[simprocAttr,↓aa,zp,h3];refine ai ?_;refine cB rfl ?_;refine ay (ai ?_);refine aq ?_;simp -dsimp only[simprocAttr,↓aa,zp,zr,Tryz.results32];rw[hR]
  rw[if_neg hl]at hR;have h3:decide ((u.fns.length:Int)<=i.n)=false:=decide_eq_false hl;have hF:=kh (u:=u) (k:=i.n) hn (by omega);have Vm:=cq _ (List.mem_of_getElem? hF);have ga:0<(cx u i.n).blocks.length:=by
   cases hb:(cx u i.n).blocks with
   | nil=>exact absurd hb Vm
   | cons=>simp
  have hB:(cx u i.n).blocks[0]?=some (aF (cx u i.n) 0):=dP (f:=cx u i.n) (k:=0) (by omega) (by omega);generalize aF (cx u i.n) 0=B at *;generalize cx u i.n=F at *;have UN:(decide (i.op=13)=true∧decide (i.op=9)=false)∨(decide (i.op=13)=false∧decide (i.op=9)=true):=by
   simp only[decide_eq_true_eq,decide_eq_false_iff_not];omega
  rcases UN with⟨h1,h2⟩|⟨h1,h2⟩
  ·have g1:=of_decide_eq_true h1;have g2:=of_decide_eq_false h2;by_cases VP:B.params.length=i.args.length
   ·rw[if_neg (by omega)]at hR;have hq:decide ((B.params.length:Int)=i.args.length)=true:=decide_eq_true (by omega);refine zf true 0 Tryz.func32 Tryz.ntmps32 ?_;dsimp only[Tmp,TypeId,slotsOf];refine ay (ai ?_);refine c7 ?_;simp -dsimp only[simprocAttr,↓aa,zp,h1,h2];refine ai ?_;refine cv rfl ?_;refine cj ?_;refine c7 ?_;simp -dsimp only[simprocAttr,↓aa,zp,h3];refine ai ?_;refine cv rfl ?_;refine cj ?_;refine aQ ?_;simp -dsimp only[simprocAttr,↓aa,zp,hF,hB]
    repeat(refine⟨by omega,?_⟩)
    refine ai ?_;refine c7 ?_;simp -dsimp only[simprocAttr,↓aa,zp,h1,h2,hq];refine ai ?_;refine cv rfl ?_;refine cj ?_;refine ay (ai ?_);refine aq ?_;simp -dsimp only[simprocAttr,↓aa,zp,zr,Tryz.results32];rw[hR]
   rw[if_pos (.inl ⟨g1,VP⟩)]at hR;have hq:decide ((B.params.length:Int)=i.args.length)=false:=decide_eq_false (by omega);refine zf true 0 Tryz.func32 Tryz.ntmps32 ?_;dsimp only[Tmp,TypeId,slotsOf];refine ay (ai ?_);refine c7 ?_;simp -dsimp only[simprocAttr,↓aa,zp,h1,h2];refine ai ?_;refine cv rfl ?_;refine cj ?_;refine c7 ?_;simp -dsimp only[simprocAttr,↓aa,zp,h3];refine ai ?_;refine cv rfl ?_;refine cj ?_;refine aQ ?_;simp -dsimp only[simprocAttr,↓aa,zp,hF,hB]
   repeat(refine⟨by omega,?_⟩)
   refine ai ?_;refine c7 ?_;simp -dsimp only[simprocAttr,↓aa,zp,h1,h2,hq];refine ai ?_;refine cB rfl ?_;refine ay (ai ?_);refine aq ?_;simp -dsimp only[simprocAttr,↓aa,zp,zr,Tryz.results32];rw[hR]
  have g1:=of_decide_eq_false h1;have g2:=of_decide_eq_true h2;by_cases VP:B.params.length=0
  ·rw[if_pos (.inr ⟨g2,VP⟩)]at hR;have hq:decide ((B.params.length:Int)=0)=true:=decide_eq_true (by omega);refine zf true 0 Tryz.func32 Tryz.ntmps32 ?_;dsimp only[Tmp,TypeId,slotsOf];refine ay (ai ?_);refine c7 ?_;simp -dsimp only[simprocAttr,↓aa,zp,h1,h2];refine ai ?_;refine cv rfl ?_;refine cj ?_;refine c7 ?_;simp -dsimp only[simprocAttr,↓aa,zp,h3];refine ai ?_;refine cv rfl ?_;refine cj ?_;refine aQ ?_;simp -dsimp only[simprocAttr,↓aa,zp,hF,hB]
   repeat(refine⟨by omega,?_⟩)
   refine ai ?_;refine c7 ?_;simp -dsimp only[simprocAttr,↓aa,zp,h1,h2,hq];refine ai ?_;refine cB rfl ?_;refine ay (ai ?_);refine aq ?_;simp -dsimp only[simprocAttr,↓aa,zp,zr,Tryz.results32];rw[hR]
  rw[if_neg (by omega)]at hR;have hq:decide ((B.params.length:Int)=0)=false:=decide_eq_false (by omega);refine zf true 0 Tryz.func32 Tryz.ntmps32 ?_;dsimp only[Tmp,TypeId,slotsOf];refine ay (ai ?_);refine c7 ?_;simp -dsimp only[simprocAttr,↓aa,zp,h1,h2];refine ai ?_;refine cv rfl ?_;refine cj ?_;refine c7 ?_;simp -dsimp only[simprocAttr,↓aa,zp,h3];refine ai ?_;refine cv rfl ?_;refine cj ?_;refine aQ ?_;simp -dsimp only[simprocAttr,↓aa,zp,hF,hB]
  repeat(refine⟨by omega,?_⟩)
  refine ai ?_;refine c7 ?_;simp -dsimp only[simprocAttr,↓aa,zp,h1,h2,hq];refine ai ?_;refine cv rfl ?_;refine cj ?_;refine ay (ai ?_);refine aq ?_;simp -dsimp only[simprocAttr,↓aa,zp,zr,Tryz.results32];rw[hR]
theorem zC:∀(l:List Block) (m:Int),0<=m->m+2 ^ 48*(l.length:Int)<=2 ^ 60->(∀b∈l,b.ins.length<=2 ^ 47)->m<=mc m l∧∀b∈l,(b.ins.length:Int)<=mc m l
 | [],m,_,_,_=>⟨by simp[mc],by simp⟩
 | b::r,m,h0,h1,h2=>by
  have hb:=h2 b (by simp);simp only[List.length_cons]at h1;have hw:IntKind.i64.wrap (m+b.ins.length)=m+b.ins.length:=m8 _ _ (by simp[IntKind.min,IntKind.bits,IntKind.signed];omega) (by simp[IntKind.max,IntKind.bits,IntKind.signed];omega);have ih:=zC r (m+b.ins.length) (by omega) (by omega) (fun x hx=>h2 x (by simp[hx]));simp only[mc,hw];refine⟨by omega,fun x hx=>?_⟩;rcases List.mem_cons.1 hx with q|q
  ·subst q;omega
  exact ih.2 x q
structure N4(f:Func):Prop where
 ne:f.blocks≠[]
 few:f.blocks.length<=128
 name:-1<=f.name∧f.name<=1048575
 args:(aF f 0).params.length<=6
 ins:∀b∈f.blocks,b.ins.length<=1024
 blk:∀b∈f.blocks,K2 f b
 Kv:rf f (cR f f.blocks.length 0 []).2=0
theorem cS{f:Func}(bo:f.fit)(h:aZ f=0):N4 f:=by
 unfold aZ at h;split at h
 ·simp at h
 rename_i h1;split at h
 ·simp at h
 rename_i h2;split at h
 ·simp at h
 rename_i h3;split at h
 ·rename_i h4;exact absurd h h4
 rename_i h4;have hw:=zC f.blocks 0 (by omega) (by omega) (fun b hb=>(bo.2.2 b hb).2.2.1);refine⟨fun e=>h1 (by rw[e];rfl),by omega,by simpa[within]using h3,by omega,fun b hb=>?_,so (by simpa using h4),h⟩;have:=hw.2 b hb;omega
structure N5(i:Ins):Prop where
 op:0<=i.op∧i.op<=24
 len:i.args.length<=16
 c0:i.op=0->fv i.n∧i.args.length=0
 c2:(1<=i.op∧i.op<=7)∨i.op=16∨i.op=18∨i.op=19∨i.op=21∨i.op=23->i.args.length=2
 c1:i.op=10∨i.op=11∨i.op=12∨i.op=15∨i.op=17∨i.op=24->i.args.length=1
 c3:i.op=20->i.args.length=3
 T4:i.op=8->0<=i.n∧i.n<=255
 call:i.op=9∨i.op=13->0<=i.n∧i.n<=255
 app:i.op=14->1<=i.args.length
 UB:i.op=11∨i.op=24->0<=i.n
 pack:i.op=22->(i.n=2∨i.n=4)∧(i.args.length:Int)=i.n
 vec:i.op=23->i.n=1∨i.n=2∨i.n=3
theorem tt{i:Ins}(h:ka i=0):N5 i:=by
 unfold ka at h;split at h
 ·simp at h
 rename_i hA;split at h
 ·simp at h
 rename_i UR;split at h
 ·rename_i hN;have X5:(bk i).2=true∧(0<=(bk i).1->(i.args.length:Int)=(bk i).1)∧(i.op=14->¬(i.args.length:Int)=0):=by
   simp only[Aw,Bool.or_eq_true,Bool.not_eq_true',Bool.and_eq_true,decide_eq_true_eq,decide_eq_false_iff_not,not_or,not_and,Bool.not_eq_false,Decidable.not_not]at hA;exact⟨hA.1.1,hA.1.2,hA.2⟩
  obtain⟨a1,a2,a3⟩:=X5;have hB:(i.op=8∨i.op=9->i.args.length<=16)∧(i.op=13∨i.op=14->i.args.length<=6):=by
   simp only[uF,Ax,Bool.or_eq_true,Bool.and_eq_true,decide_eq_true_eq,not_or,not_and]at UR;exact⟨fun q=>by have:=UR.1 q;omega,fun q=>by have:=UR.2 q;omega⟩
  obtain⟨b1,b2⟩:=hB;have jQ:0<=i.op∧i.op<=24:=by
   unfold bk at a1;split at a1
   ·omega
   split at a1
   ·omega
   split at a1
   ·omega
   split at a1
   ·omega
   split at a1
   ·omega
   split at a1
   ·omega
   simp at a1
  have o0:i.op=0->bk i=(0,true):=fun q=>by unfold bk;rw[if_pos q]
  have o2:(1<=i.op∧i.op<=7)∨i.op=16∨i.op=18∨i.op=19∨i.op=21∨i.op=23->bk i=(2,true):=fun q=>by unfold bk;rw[if_neg (by omega),if_pos q]
  have o3:i.op=20->bk i=(3,true):=fun q=>by unfold bk;rw[if_neg (by omega),if_neg (by omega),if_pos q]
  have o1:i.op=10∨i.op=11∨i.op=12∨i.op=15∨i.op=17∨i.op=24->bk i=(1,true):=fun q=>by unfold bk;rw[if_neg (by omega),if_neg (by omega),if_neg (by omega),if_pos q]
  have ZS:i.op=22->bk i=(i.n,decide (i.n=2∨i.n=4)):=fun q=>by unfold bk;rw[if_neg (by omega),if_neg (by omega),if_neg (by omega),if_neg (by omega),if_neg (by omega),if_pos q]
  have l0:i.op=0->i.args.length=0:=fun q=>by rw[o0 q]at a2;have:=a2 (by decide);simp only at this;omega
  have l2:=fun q=>by have:=a2;rw[o2 q]at this;exact this (by decide)
  have l3:=fun q=>by have:=a2;rw[o3 q]at this;exact this (by decide)
  have l1:=fun q=>by have:=a2;rw[o1 q]at this;exact this (by decide)
  have XN:i.op=22->(i.n=2∨i.n=4)∧(i.args.length:Int)=i.n:=fun q=>by
   rw[ZS q]at a1 a2;have:i.n=2∨i.n=4:=of_decide_eq_true a1;exact⟨this,a2 (by simp only;omega)⟩
  have n0:i.op=0->fv i.n:=fun q=>by unfold cn at hN;rw[if_pos q]at hN;exact of_decide_eq_true hN
  have n8:i.op=8->0<=i.n∧i.n<=255:=fun q=>by unfold cn at hN;rw[if_neg (by omega),if_pos q]at hN;exact within_iff.1 hN
  have ZO:i.op=11->0<=i.n∧i.n<=15:=fun q=>by unfold cn at hN;rw[if_neg (by omega),if_neg (by omega),if_pos q]at hN;exact within_iff.1 hN
  have n9:i.op=9∨i.op=13->0<=i.n∧i.n<=255:=fun q=>by unfold cn at hN;rw[if_neg (by omega),if_neg (by omega),if_neg (by omega),if_pos q]at hN;exact within_iff.1 hN
  have ZP:i.op=23->i.n=1∨i.n=2∨i.n=3:=fun q=>by unfold cn at hN;rw[if_neg (by omega),if_neg (by omega),if_neg (by omega),if_neg (by omega),if_pos q]at hN;exact of_decide_eq_true hN
  have ZQ:i.op=24->0<=i.n∧i.n<=3:=fun q=>by unfold cn at hN;rw[if_neg (by omega),if_neg (by omega),if_neg (by omega),if_neg (by omega),if_neg (by omega),if_pos q]at hN;exact within_iff.1 hN
  have L2:(1<=i.op∧i.op<=7)∨i.op=16∨i.op=18∨i.op=19∨i.op=21∨i.op=23->i.args.length=2:=fun q=>by have:=l2 q;omega
  have L1:i.op=10∨i.op=11∨i.op=12∨i.op=15∨i.op=17∨i.op=24->i.args.length=1:=fun q=>by have:=l1 q;omega
  have L3:i.op=20->i.args.length=3:=fun q=>by have:=l3 q;omega
  refine⟨jQ,?_,fun q=>⟨n0 q,l0 q⟩,L2,L1,L3,n8,n9,fun q=>by have:=a3 q;omega,fun q=>?_,XN,ZP⟩
  ·rcases(show i.op=0∨((1<=i.op∧i.op<=7)∨i.op=16∨i.op=18∨i.op=19∨i.op=21∨i.op=23)∨i.op=20∨(i.op=10∨i.op=11∨i.op=12∨i.op=15∨i.op=17∨i.op=24)∨(i.op=8∨i.op=9)∨(i.op=13∨i.op=14)∨i.op=22 by omega)with q|q|q|q|q|q|q
   ·have:=l0 q;omega
   ·have:=L2 q;omega
   ·have:=L3 q;omega
   ·have:=L1 q;omega
   ·have:=b1 q;omega
   ·have:=b2 q;omega
   have:=XN q;omega
  rcases q with q|q
  ·exact(ZO q).1
  exact(ZQ q).1
 simp at h
structure Rt(f:Func)(t:Term):Prop where
 kind:0<=t.kind∧t.kind<=4
 to:t.kind=0∨t.kind=4->t.to=[]
 jump:t.kind=1->t.to.length=1
 cond:t.kind=2->t.to.length=2
 switch:t.kind=3->t.to.length=t.cases.length+1
 cases:t.cases.length<=256
 NW:t.kind=4->1<=t.n∧t.n<=6
 n:t.kind≠4->t.n=0
 gG:∀e∈t.to,(1<=e.block∧e.block<=(f.blocks.length:Int)-1)∧e.args.length=(aF f e.block).params.length
theorem mD{f:Func}{t:Term}(h:k7 f t=0):Rt f t:=by
 obtain⟨h1,h2,h3,h4⟩:=mB h;simp only[dV,Bool.and_eq_true,Bool.or_eq_true,decide_eq_true_eq]at h1;obtain⟨hk,⟨⟨he,_⟩,hn⟩,hc⟩:=h1;refine⟨hk,fun q=>?_,fun q=>?_,fun q=>?_,fun q=>?_,h2,h3,fun q=>hn.resolve_left q,h4⟩
 ·have:fk t=0:=by rcases q with q|q<;>simp[fk,q]
  rw[this]at he;exact List.length_eq_zero_iff.1 (by omega)
 ·have:fk t=1:=by simp[fk,q]
  omega
 ·have:fk t=2:=by simp[fk,q]
  omega
 have:fk t=t.cases.length+1:=by simp[fk,q]
 omega
def n7(a b:Int):Int:=if a≠0 then a else b
theorem db{a b:Int}(h:a=0):n7 a b=b:=by simp[n7,h]
theorem gp{a b:Int}(h:¬a=0):n7 a b=a:=by simp[n7,h]
theorem iz(a b c:Int):n7 (n7 a b) c=n7 a (n7 b c):=by
 by_cases h:a=0
 ·rw[db h,db h]
 rw[gp h,gp h,gp h]
theorem iR{a b:Int}(h:n7 a b=0):a=0∧b=0:=by
 by_cases q:a=0
 ·exact⟨q,by rwa [db q]at h⟩
 rw[gp q]at h;exact absurd h q
def pL:List Func->Int
 | []=>0
 | f::r=>n7 (aZ f) (pL r)
def pF(u:cd):List Ins->Int
 | []=>0
 | i::r=>n7 (jZ u i) (pF u r)
def mo(u:cd):List Block->Int
 | []=>0
 | b::r=>n7 (pF u b.ins) (mo u r)
def jh(u:cd):List Func->Int
 | []=>0
 | f::r=>n7 (mo u f.blocks) (jh u r)
def fT(u:cd):Int :=
 if u.fns.length=0 then 3
 else if 256<u.fns.length then 2
 else if within u.main 0 ((u.fns.length:Int)-1)=false then 4
 else n7 (pL u.fns) (if 0<(aF (cx u u.main) 0).params.length then 3 else jh u u.fns)
theorem mF:∀{l:List Func},pL l=0->∀f∈l,aZ f=0
 | [],_,f,h=>by simp at h
 | g::r,h,f,hf=>by
  have:=iR h;rcases List.mem_cons.1 hf with q|q
  ·subst q;exact this.1
  exact mF this.2 f q
theorem uv(u:cd)(bo:u.fit):bA Tryz.prog 9 [u.enc] (aI (fT u)):=by
 obtain⟨R,hR⟩:∃R,R=fT u:=⟨_,rfl⟩
 rw[<-hR];unfold fT at hR;have hw:=dF u.main 0 ((u.fns.length:Int)-1);have uK:u.fns.length<=2 ^ 47:=bo.2.1;refine zf true 0 Tryz.func9 Tryz.ntmps9 ?_;dsimp only[Tmp,TypeId,slotsOf];refine ay (ai ?_);refine aC 1 0 (.ip none [bc u.fns,aI u.main]) rfl (by simp[ak.aD]) trivial rfl ?_ ?_;rotate_left;simp -dsimp only[simprocAttr,↓aa,zp]
 ·refine aH (ah ?_);by_cases h0:u.fns.length=0
  ·rw[if_pos h0]at hR;have hd:decide ((u.fns.length:Int)=0)=true:=decide_eq_true (by omega);refine aQ ?_;simp -dsimp only[simprocAttr,↓aa,zp,hd];refine ai ?_;refine cB rfl ?_;refine ay (ai ?_);refine aq ?_;simp -dsimp only[simprocAttr,↓aa,zp,zr,Tryz.results9];rw[hR]
  rw[if_neg h0]at hR;have hd:decide ((u.fns.length:Int)=0)=false:=decide_eq_false (by omega);refine aQ ?_;simp -dsimp only[simprocAttr,↓aa,zp,hd];refine ai ?_;apply aN rfl<;>intro h
  ·cases h
  by_cases h1:256<u.fns.length
  ·rw[if_pos h1]at hR;have hd:decide ((256:Int)<u.fns.length)=true:=decide_eq_true (by omega);refine aQ ?_;simp -dsimp only[simprocAttr,↓aa,zp,hd];refine ai ?_;refine cB rfl ?_;refine ay (ai ?_);refine aq ?_;simp -dsimp only[simprocAttr,↓aa,zp,zr,Tryz.results9];rw[hR]
  rw[if_neg h1]at hR;have hd:decide ((256:Int)<u.fns.length)=false:=decide_eq_false (by omega);refine aQ ?_;simp -dsimp only[simprocAttr,↓aa,zp,hd];refine ai ?_;apply aN rfl<;>intro h
  ·cases h
  cases EH:within u.main 0 ((u.fns.length:Int)-1)with
  | false =>
   rw[if_pos EH]at hR;rw[EH]at hw;refine ay ?_
   repeat(refine⟨by omega,?_⟩)
   refine zi hw ?_;refine ai ?_;refine cB rfl ?_;refine ay (ai ?_);refine aq ?_;simp -dsimp only[simprocAttr,↓aa,zp,zr,Tryz.results9];rw[hR]
  | true =>
   have xt:=within_iff.1 EH;rw[if_neg (by simp[EH])]at hR;rw[EH]at hw;refine ay ?_
   repeat(refine⟨by omega,?_⟩)
   refine zi hw ?_;refine ai ?_;apply aN rfl<;>intro h
   ·cases h
   refine kp ?_;refine bV (ai ?_);refine ah (aL (ι:={k:Nat // k<=u.fns.length∧pL u.fns=pL (u.fns.drop k)}) (fun k=>⟨87,[(1,.ip none [bc u.fns,aI u.main]),(2,aI 0),(33,bc u.fns),(34,aI u.fns.length),(35,aI k.1)],[.gone]⟩) (fun k=>u.fns.length-k.1) ⟨0,by omega,rfl⟩ ?_ ?_)
   ·refine zq rfl ?_ ?_;simp -dsimp only[simprocAttr,↓aa,zp,zc];rfl
   rintro⟨k,hk,di⟩;refine ay (ai ?_);apply gJ rfl<;>intro h
   ·refine cj ?_;have bf:k<u.fns.length:=by simpa using h
    obtain⟨f,hf⟩:∃f,u.fns[k]?=some f:=⟨u.fns[k],by simp[bf]⟩
    have FU:=iJ f (bo.2.2 f (List.mem_of_getElem? hf));rw[bK hf]at di;simp only[pL]at di;obtain⟨e,KO⟩:∃e,e=aZ f:=⟨_,rfl⟩
    rw[<-KO]at di FU;refine aH (ah ?_);refine aQ ?_;simp -dsimp only[simprocAttr,↓aa,zp,hf];refine ai ?_;refine aC 4 1 (.ip none [aI f.name,aw f.blocks]) rfl (by simp[ak.aD]) trivial rfl ?_ ?_;rotate_left;simp -dsimp only[simprocAttr,↓aa,zp]
    ·refine bp 1 [(1,.ip none [bc u.fns,aI u.main]),(2,aI 0),(33,bc u.fns),(34,aI u.fns.length),(35,aI k),(4,.ip none [aI f.name,aw f.blocks])] (by simp) (by omega) [.gone] ?_ ?_ ?_ ?_ ?_
     ·rfl
     ·simp[ak.upto,av,ae.upto,ax,Func.ag,Block.ag,Edge.ag,Ins.ag]
     ·simp[eQ,St.get,bw,a8,Go.Av.look,Sub.refl]
     ·simp[ak.upto,av,ae.upto,ax,Func.ag,Block.ag,Edge.ag,Ins.ag]
     refine ay ?_;refine zi FU ?_;refine ai ?_;by_cases he:e=0
     ·have j5:decide (e=0)=true:=decide_eq_true he;rw[db he]at di;refine aQ ?_;simp -dsimp only[simprocAttr,↓aa,zp,j5];refine ai ?_;refine cv rfl ?_;refine kp ?_;refine cM ?_
      repeat(refine⟨by omega,?_⟩)
      refine eZ ?_;refine⟨⟨k+1,bf,di⟩,by simp;omega,?_⟩;refine zq rfl ?_ ?_;simp -dsimp only[simprocAttr,↓aa,zp,zc]
      ·exact Sub.int (by simp)
      rfl
     have j5:decide (e=0)=false:=decide_eq_false he;rw[gp he]at di;rw[di,gp he]at hR;refine aQ ?_;simp -dsimp only[simprocAttr,↓aa,zp,j5];refine ai ?_;refine cB rfl ?_;refine ay (ai ?_);refine aq ?_;simp -dsimp only[simprocAttr,↓aa,zp,zr,Tryz.results9];rw[hR]
    exact bM.mp rfl rfl
   refine aK ?_;simp -dsimp only[bI,ne_eq,Nat.reduceEqDiff,reduceCtorEq];have gi:k=u.fns.length:=by simp at h;omega
   subst gi;rw[List.drop_length]at di;have L4:pL u.fns=0:=by rw[di];rfl
   rw[db L4]at hR;have cr:∀f∈u.fns,N4 f:=fun f hf=>cS (bo.2.2 f hf) (mF L4 f hf);have hM:=kh (u:=u) (k:=u.main) xt.1 (by omega);have Yi:0<(cx u u.main).blocks.length:=by
    have:=(cr _ (List.mem_of_getElem? hM)).ne;cases hb:(cx u u.main).blocks with
    | nil=>exact absurd hb this
    | cons=>simp
   have hB:(cx u u.main).blocks[0]?=some (aF (cx u u.main) 0):=dP (f:=cx u u.main) (k:=0) (by omega) (by omega);generalize aF (cx u u.main) 0=B at *;generalize cx u u.main=F at *;by_cases hp:0<B.params.length
   ·rw[if_pos hp]at hR;have PL:decide ((0:Int)<B.params.length)=true:=decide_eq_true (by omega);refine c7 ?_;simp -dsimp only[simprocAttr,↓aa,zp,hM,hB,PL]
    repeat(refine⟨by omega,?_⟩)
    refine ai ?_;refine cB rfl ?_;refine ay (ai ?_);refine aq ?_;simp -dsimp only[simprocAttr,↓aa,zp,zr,Tryz.results9];rw[hR]
   rw[if_neg hp]at hR;have PL:decide ((0:Int)<B.params.length)=false:=decide_eq_false (by omega);refine c7 ?_;simp -dsimp only[simprocAttr,↓aa,zp,hM,hB,PL]
   repeat(refine⟨by omega,?_⟩)
   refine ai ?_;apply aN rfl<;>intro h
   ·cases h
   refine cj ?_;refine bV (ai ?_);refine ah (aL (ι:={k:Nat // k<=u.fns.length∧R=jh u (u.fns.drop k)}) (fun k=>⟨87,[(1,.ip none [bc u.fns,aI u.main]),(2,aI 0),(58,bc u.fns),(59,aI u.fns.length),(60,aI k.1)],[.gone]⟩) (fun k=>u.fns.length-k.1) ⟨0,by omega,hR⟩ ?_ ?_)
   ·refine zq rfl ?_ ?_;simp -dsimp only[simprocAttr,↓aa,zp,zc];rfl
   rintro⟨k,hk,di⟩;refine ay (ai ?_);apply gJ rfl<;>intro h
   ·refine cj ?_;have bf:k<u.fns.length:=by simpa using h
    obtain⟨f,hf⟩:∃f,u.fns[k]?=some f:=⟨u.fns[k],by simp[bf]⟩
    have KP:=List.mem_of_getElem? hf;have pN:=(cr f KP).few;rw[bK hf]at di;simp only[jh]at di;refine aH (ah ?_);refine aQ ?_;simp -dsimp only[simprocAttr,↓aa,zp,hf];refine ai ?_;refine aC 7 1 (.ip none [aI f.name,aw f.blocks]) rfl (by simp[ak.aD]) trivial rfl ?_ ?_;rotate_left;simp -dsimp only[simprocAttr,↓aa,zp]
    ·refine bp 1 [(1,.ip none [bc u.fns,aI u.main]),(2,aI 0),(58,bc u.fns),(59,aI u.fns.length),(60,aI k),(7,.ip none [aI f.name,aw f.blocks])] (by simp) (by omega) [.gone] ?_ ?_ ?_ ?_ ?_
     ·rfl
     ·simp[ak.upto,av,ae.upto,ax,Func.ag,Block.ag,Edge.ag,Ins.ag]
     ·simp[eQ,St.get,bw,a8,Go.Av.look,Sub.refl]
     ·simp[ak.upto,av,ae.upto,ax,Func.ag,Block.ag,Edge.ag,Ins.ag]
     refine ay (ai ?_);refine ah (aL (ι:={j:Nat // j<=f.blocks.length∧R=n7 (mo u (f.blocks.drop j)) (jh u (u.fns.drop (k+1)))}) (fun j=>⟨87,[(1,.ip none [bc u.fns,aI u.main]),(2,aI 0),(58,bc u.fns),(59,aI u.fns.length),(60,aI k),(65,aw f.blocks),(66,aI f.blocks.length),(67,aI j.1)],[.gone]⟩) (fun j=>f.blocks.length-j.1) ⟨0,by omega,di⟩ ?_ ?_)
     ·refine zq rfl ?_ ?_;simp -dsimp only[simprocAttr,↓aa,zp,zc];rfl
     rintro⟨j,hj,gh⟩;refine ay (ai ?_);apply gJ rfl<;>intro h
     ·refine cj ?_;have xr:j<f.blocks.length:=by simpa using h
      obtain⟨b,hb⟩:∃b,f.blocks[j]?=some b:=⟨f.blocks[j],by simp[xr]⟩
      have mg:=List.mem_of_getElem? hb;have BZ:=(cr f KP).ins b mg;rw[bK hb]at gh;simp only[mo]at gh;rw[iz]at gh;refine aH (ah ?_);refine aQ ?_;simp -dsimp only[simprocAttr,↓aa,zp,hb];refine ai ?_;refine aC 9 1 (.ip none [aJ b.params,a7 b.ins,aI b.term.kind,aI b.term.arg,aI b.term.n,aJ b.term.cases,aG b.term.to]) rfl (by simp[ak.aD]) trivial rfl ?_ ?_;rotate_left;simp -dsimp only[simprocAttr,↓aa,zp]
      ·refine bp 1 [(1,.ip none [bc u.fns,aI u.main]),(2,aI 0),(58,bc u.fns),(59,aI u.fns.length),(60,aI k),(65,aw f.blocks),(66,aI f.blocks.length),(67,aI j),(9,.ip none [aJ b.params,a7 b.ins,aI b.term.kind,aI b.term.arg,aI b.term.n,aJ b.term.cases,aG b.term.to])] (by simp) (by omega) [.gone] ?_ ?_ ?_ ?_ ?_
       ·rfl
       ·simp[ak.upto,av,ae.upto,ax,Func.ag,Block.ag,Edge.ag,Ins.ag]
       ·simp[eQ,St.get,bw,a8,Go.Av.look,Sub.refl]
       ·simp[ak.upto,av,ae.upto,ax,Func.ag,Block.ag,Edge.ag,Ins.ag]
       refine ay (ai ?_);refine ah (aL (ι:={z:Nat // z<=b.ins.length∧R=n7 (pF u (b.ins.drop z)) (n7 (mo u (f.blocks.drop (j+1))) (jh u (u.fns.drop (k+1))))}) (fun z=>⟨87,[(1,.ip none [bc u.fns,aI u.main]),(2,aI 0),(58,bc u.fns),(59,aI u.fns.length),(60,aI k),(65,aw f.blocks),(66,aI f.blocks.length),(67,aI j),(72,a7 b.ins),(73,aI b.ins.length),(74,aI z.1)],[.gone]⟩) (fun z=>b.ins.length-z.1) ⟨0,by omega,gh⟩ ?_ ?_)
       ·refine zq rfl ?_ ?_;simp -dsimp only[simprocAttr,↓aa,zp,zc];rfl
       rintro⟨z,hz,lM⟩;refine ay (ai ?_);apply gJ rfl<;>intro h
       ·refine cj ?_;have vQ:z<b.ins.length:=by simpa using h
        obtain⟨i,hi⟩:∃i,b.ins[z]?=some i:=⟨b.ins[z],by simp[vQ]⟩
        rw[bK hi]at lM;simp only[pF]at lM;rw[iz]at lM;have Q7:=tt (((cr f KP).blk b mg).Eo i (List.mem_of_getElem? hi));have fA:=ue u i (fun q=>(Q7.call (by omega)).1) (fun f hf=>(cr f hf).ne);obtain⟨e,KO⟩:∃e,e=jZ u i:=⟨_,rfl⟩
        rw[<-KO]at lM fA;refine aH (ah ?_);refine aQ ?_;simp -dsimp only[simprocAttr,↓aa,zp,hi];refine ai ?_;refine aC 11 1 (.ip none [aI i.to,aI i.op,aI i.n,aJ i.args]) rfl (by simp[ak.aD]) trivial rfl ?_ ?_;rotate_left;simp -dsimp only[simprocAttr,↓aa,zp]
        ·refine bp 1 [(1,.ip none [bc u.fns,aI u.main]),(2,aI 0),(58,bc u.fns),(59,aI u.fns.length),(60,aI k),(65,aw f.blocks),(66,aI f.blocks.length),(67,aI j),(72,a7 b.ins),(73,aI b.ins.length),(74,aI z),(11,.ip none [aI i.to,aI i.op,aI i.n,aJ i.args])] (by simp) (by omega) [.gone] ?_ ?_ ?_ ?_ ?_
         ·rfl
         ·simp[ak.upto,av,ae.upto,ax,Func.ag,Block.ag,Edge.ag,Ins.ag]
         ·simp[eQ,St.get,bw,a8,Go.Av.look,Sub.refl]
         ·simp[ak.upto,av,ae.upto,ax,Func.ag,Block.ag,Edge.ag,Ins.ag]
         refine ay ?_;refine zi fA ?_;refine ai ?_;by_cases he:e=0
         ·have j5:decide (e=0)=true:=decide_eq_true he;rw[db he]at lM;refine aQ ?_;simp -dsimp only[simprocAttr,↓aa,zp,j5];refine ai ?_;refine cv rfl ?_;refine kp ?_;refine cM ?_
          repeat(refine⟨by omega,?_⟩)
          refine eZ ?_;refine⟨⟨z+1,vQ,lM⟩,by simp;omega,?_⟩;refine zq rfl ?_ ?_;simp -dsimp only[simprocAttr,↓aa,zp,zc]
          ·exact Sub.int (by simp)
          rfl
         have j5:decide (e=0)=false:=decide_eq_false he;rw[gp he]at lM;refine aQ ?_;simp -dsimp only[simprocAttr,↓aa,zp,j5];refine ai ?_;refine cB rfl ?_;refine ay (ai ?_);refine aq ?_;simp -dsimp only[simprocAttr,↓aa,zp,zr,Tryz.results9];rw[lM]
        exact bM.mp rfl rfl
       refine aK ?_;simp -dsimp only[bI,ne_eq,Nat.reduceEqDiff,reduceCtorEq];have Gb:z=b.ins.length:=by simp at h;omega
       subst Gb;rw[List.drop_length]at lM;rw[db (by rfl)]at lM;refine cM ?_
       repeat(refine⟨by omega,?_⟩)
       refine eZ ?_;refine⟨⟨j+1,xr,lM⟩,by simp;omega,?_⟩;refine zq rfl ?_ ?_;simp -dsimp only[simprocAttr,↓aa,zp,zc]
       ·exact Sub.int (by simp)
       rfl
      exact bM.mp rfl rfl
     refine aK ?_;simp -dsimp only[bI,ne_eq,Nat.reduceEqDiff,reduceCtorEq];have rL:j=f.blocks.length:=by simp at h;omega
     subst rL;rw[List.drop_length]at gh;rw[db (by rfl)]at gh;refine cM ?_
     repeat(refine⟨by omega,?_⟩)
     refine eZ ?_;refine⟨⟨k+1,bf,gh⟩,by simp;omega,?_⟩;refine zq rfl ?_ ?_;simp -dsimp only[simprocAttr,↓aa,zp,zc]
     ·exact Sub.int (by simp)
     rfl
    exact bM.mp rfl rfl
   refine aK ?_;simp -dsimp only[bI,ne_eq,Nat.reduceEqDiff,reduceCtorEq];have gi:k=u.fns.length:=by simp at h;omega
   subst gi;rw[List.drop_length]at di;refine ay (ai ?_);refine aq ?_;simp -dsimp only[simprocAttr,↓aa,zp,zr,Tryz.results9];rw[di];rfl
 exact bM.mp rfl rfl
theorem fX.mono{u:cd}{m m':Mach}(h:∀a∈m.heap,∃b∈m'.heap,b.lr=a.lr){v:SV}(k:fX u m v):fX u m' v :=
 SV.Wf.mono (fun id ⟨a,ha,e⟩=>by
  obtain⟨b,hb,e'⟩:=h a ha;exact⟨b,hb,e'.trans e⟩) k
theorem fX.of_heap{u:cd}{m m':Mach}(h:m'.heap=m.heap){v:SV}(k:fX u m v):fX u m' v :=
 k.mono fun a ha=>⟨a,by rw[h];exact ha,rfl⟩
theorem fX.word{u:cd}{m:Mach}{n:Int}(h:fv n):fX u m (.word n):=SV.Wf.word h
theorem fX.zero{u:cd}{m:Mach}:fX u m .zero:=SV.Wf.zero
theorem jA{u:cd}{m:Mach}{l:List SV}(h:∀v∈l,fX u m v)(k:Nat):fX u m (cu l k):=by
 unfold cu;cases hk:l[k]? with
 | none=>exact fX.zero
 | some v=>exact h v (List.mem_of_getElem? hk)
theorem yy{u:cd}{m:Mach}{es:List (Int×SV)}(h:∀e∈es,fX u m e.2)(k:Int):fX u m (iO es k):=by
 unfold iO;cases hl:iP es k with
 | none=>exact fX.zero
 | some v =>
  obtain⟨e,h1,rfl⟩:=xI hl;exact h e h1
theorem re{u:cd}{m:Mach}{es:List (Int×SV)}(h:∀e∈es,fX u m e.2)(l:List Int):∀v∈fZ es l,fX u m v:=fun v hv=>by
 obtain⟨k,_,rfl⟩:=List.mem_map.1 hv;exact yy h k
theorem sc(es:List (Int×SV))(l:List Int):(fZ es l).length=l.length:=by simp[fZ]
theorem yY{u:cd}{m:Mach}{es:List (Int×SV)}(h:∀e∈es,fX u m e.2){k:Int}{v:SV}(hv:fX u m v):∀e∈eT es k v,fX u m e.2:=fun e he=>by
 rcases js he with q|q
 ·exact h e q
 rw[q];exact hv
theorem zS{u:cd}{m:Mach}{es:List (Int×SV)}(h:∀e∈es,fX u m e.2){ps:List Int}{l:List SV}(hl:∀v∈l,fX u m v):∀e∈gl es ps l,fX u m e.2:=fun e he=>by
 rcases kv he with q|q
 ·exact h e q
 exact hl _ q
theorem qn(op a b:Int)(hb:fv b):(∃n,fv n∧(c5 op a b).1=.word n)∧0<=(c5 op a b).2∧(c5 op a b).2<=6:=by
 have w1:=jW (a+b);have w2:=jW (a-b);have w3:=jW (a*b);have w4:=jW (a.tdiv b);have w0:fv 0:=by unfold fv;omega
 have ZX:fv 1:=by unfold fv;omega
 unfold c5
 repeat' split
 all_goals first
  | exact⟨⟨_,w1,rfl⟩,by simp⟩
  | exact⟨⟨_,w2,rfl⟩,by simp⟩
  | exact⟨⟨_,w3,rfl⟩,by simp⟩
  | exact⟨⟨_,w4,rfl⟩,by simp⟩
  | exact⟨⟨_,w0,rfl⟩,by simp⟩
  | exact⟨⟨_,ZX,rfl⟩,by simp⟩
  | exact⟨⟨_,vF hb (by assumption),rfl⟩,by simp⟩
theorem vh{u:cd}{m:Mach}{i:Ins}{args:List SV}(h:∀v∈args,fX u m v):fX u m (cN i args).1∧0<=(cN i args).2∧(cN i args).2<=6:=by
 have h0:=jA h 0;have hk:∀k,fX u m (cu (cu args 0).list k):=jA (SV.Wf.kids h0);have hl:=SV.Wf.len h0;unfold cN
 repeat' split
 all_goals first
  | exact⟨fX.zero,by simp⟩
  | exact⟨hk _,by simp⟩
  | exact⟨fX.word (SV.Wf.num h0 (by omega)),by simp⟩
  | exact⟨fX.word (by unfold fv;omega),by simp⟩
theorem E9{u:cd}{m:Mach}{op:Int}:∀(l r:List SV),(∀v∈r,fv v.n)->∀v∈kq op l r,fX u m v∧v.kind=0
 | [],_,_,v,h=>by simp[kq]at h
 | _::_,[],_,v,h=>by simp[kq]at h
 | a::l,b::r,hr,v,h=>by
  simp only[kq,List.mem_cons]at h;rcases h with rfl|h
  ·obtain⟨⟨n,h1,h2⟩,_⟩:=qn op a.n b.n (hr b (by simp));rw[h2];exact⟨fX.word h1,rfl⟩
  exact E9 l r (fun v hv=>hr v (by simp[hv])) v h
theorem se{u:cd}{m:Mach}{v:SV}(h:fX u m v)(hk:v.kind=4):v.list.length<=1000∧∀x∈v.list,fv x.n :=
 ⟨SV.Wf.len h,fun x hx=>SV.Wf.num (SV.Wf.kids h x hx) (.inl (SV.Wf.vec h hk x hx))⟩
theorem vM{u:cd}{m:Mach}{i:Ins}{args:List SV}(h:∀v∈args,fX u m v)(hl:i.op=22->args.length<=1000)(h2:i.op≠22->i.op≠24->∃x y,args=[x,y]) :
  fX u m (c6 i args).1∧0<=(c6 i args).2∧(c6 i args).2<=6:=by
 have h0:=jA h 0;have hk:∀k,fX u m (cu (cu args 0).list k):=jA (SV.Wf.kids h0);by_cases KI:i.op=22
 ·unfold c6;rw[if_pos KI];split
  ·rename_i ha;refine⟨.mk (by omega) (by omega) (by omega) (by omega) (fun _ v hv=>?_) (hl KI) (by simp) h,by simp⟩;simp only[kD,List.all_eq_true,decide_eq_true_eq]at ha;exact ha v hv
  exact⟨fX.zero,by simp⟩
 by_cases Od:i.op=24
 ·unfold c6;rw[if_neg KI,if_pos Od];split
  ·exact⟨fX.zero,by simp⟩
  exact⟨hk _,by simp⟩
 obtain⟨x,y,e⟩:=h2 KI Od;subst e;unfold c6;rw[if_neg KI,if_neg Od];split
 ·exact⟨fX.zero,by simp⟩
 rename_i hn;have cr:kD [x,y] 4=true:=by
  cases hh:kD [x,y] 4
  ·exact absurd (.inl (by simp[hh])) hn
  rfl
 have gi:x.kind=4∧y.kind=4:=by simpa[kD]using cr
 have hx:=se (h x (by simp)) gi.1;have hy:=se (h y (by simp)) gi.2;have hz:=fun v hv=>E9 (u:=u) (m:=m) (op:=i.n) x.list y.list hy.2 v hv;refine⟨.mk (by omega) (by omega) (by omega) (by omega) (fun _ v hv=>(hz v hv).2) ?_ (by simp) (fun v hv=>(hz v hv).1),by simp⟩;show(kq i.n x.list y.list).length<=1000;rw[vO];omega
structure dK(u:cd)(m:Mach)(r:Mach×SV×Int):Prop where
 frames:r.1.frames=m.frames
 lF:∀a∈m.heap,∃b∈r.1.heap,b.lr=a.lr
 val:fX u r.1 r.2.1
 NW:0<=r.2.2∧r.2.2<=6
 gR:∀a∈r.1.heap,a.l.length<=1024∧∀v∈a.l,fX u r.1 v
 left:0<=r.1.left∧r.1.left<=m.left
 out:r.1.out.length<=1000
 words:∀n∈r.1.out,fv n
 fin:r.1.fin=m.fin∧r.1.val=m.val
 over:r.1.over=false->m.over=false∧r.1.short=false
theorem dK.same{u:cd}{m:Mach}(hm:cb u m){v:SV}{t:Int}(hv:fX u m v)(ht:0<=t∧t<=6):dK u m (m,v,t) where
 frames:=rfl
 lF:=fun a ha=>⟨a,ha,rfl⟩
 val:=hv
 NW:=ht
 gR:=hm.gR
 left:=⟨hm.left,Int.le_refl _⟩
 out:=hm.out
 words:=hm.words
 fin:=⟨rfl,rfl⟩
 over:=fun h=>⟨h,(hm.over h).2⟩
theorem sM:∀(l:List B2) (id:Option Nat) (x:List SV),(∀a∈l,∃b∈Mach.j9 l id x,b.lr=a.lr)∧(∀b∈Mach.j9 l id x,∃a∈l,a.lr=b.lr∧a.dO=b.dO∧(b=a∨b.l=x))
 | [],_,_=>⟨by simp,by simp[Mach.j9]⟩
 | a::r,id,x=>by
  obtain⟨h1,h2⟩:=sM r id x;unfold Mach.j9;split
  ·exact⟨fun c hc=>by
    rcases List.mem_cons.1 hc with rfl|hc
    ·exact⟨⟨c.lr,c.dO,x⟩,List.mem_cons_self,rfl⟩
    ·exact⟨c,by simp[hc],rfl⟩,fun b hb=>by
    rcases List.mem_cons.1 hb with rfl|hb
    ·exact⟨a,by simp,rfl,rfl,.inr rfl⟩
    exact⟨b,by simp[hb],rfl,rfl,.inl rfl⟩⟩
  exact⟨fun c hc=>by
   rcases List.mem_cons.1 hc with rfl|hc
   ·exact⟨_,by simp,rfl⟩
   ·obtain⟨b,hb,e⟩:=h1 c hc;exact⟨b,by simp[hb],e⟩,fun b hb=>by
   rcases List.mem_cons.1 hb with rfl|hb
   ·exact⟨b,by simp,rfl,rfl,.inl rfl⟩
   obtain⟨c,hc,e⟩:=h2 b hb;exact⟨c,by simp[hc],e⟩⟩
theorem oC:∀(l:List B2) (id:Nat),(∃a∈l,a.lr=id)->∃a∈l,a.lr=id∧Mach.jI l (some id)=a.l
 | [],_,h=>by simp at h
 | a::r,id,h=>by
  unfold Mach.jI;by_cases e:id=a.lr
  ·exact⟨a,by simp,e.symm,by simp[e]⟩
  obtain⟨b,hb,hv⟩:=h;rcases List.mem_cons.1 hb with rfl|hb
  ·exact absurd hv.symm e
  obtain⟨c,hc,h1,h2⟩:=oC r id ⟨b,hb,hv⟩;exact⟨c,by simp[hc],h1,by simp[e,h2]⟩
theorem Hr{u:cd}{m:Mach}(hm:cb u m){v:SV}(hv:fX u m v)(hk:v.kind=3):∃a∈m.heap,v.arr=some a.lr∧Mach.jI m.heap v.arr=a.l:=by
 obtain⟨id,e⟩:=SV.Wf.array hv hk;obtain⟨a,ha,h1,h2⟩:=oC m.heap id (SV.Wf.ref hv id e);exact⟨a,ha,by rw[h1];exact e,by rw[e];exact h2⟩
theorem gq(m:Mach)(n:Int):(m.fG n).frames=m.frames∧(m.fG n).heap=m.heap∧(m.fG n).out=m.out∧(m.fG n).fin=m.fin∧(m.fG n).val=m.val∧(m.fG n).sid=m.sid∧(m.fG n).next=m.next:=by
 unfold Mach.fG;split<;>simp
theorem Jz{m:Mach}{n:Int}(h:0<=m.left)(hn:0<=n):0<=(m.fG n).left∧(m.fG n).left<=m.left:=by
 unfold Mach.fG;split<;>simp<;>omega
theorem zP{u:cd}{m:Mach}(hm:cb u m){x y:SV}(hy:fX u m y):dK u m (m.bJ x y):=by
 obtain⟨p1,p2,p3,p4,p5,p6,p7⟩:=gq m x.n;unfold Mach.bJ;split
 ·exact dK.same hm fX.zero (by omega)
 split
 ·exact dK.same hm fX.zero (by omega)
 rename_i hx hr;have Da:0<=x.n∧x.n<=1024:=by omega
 obtain⟨q1,q2⟩:=Jz hm.left Da.1;split
 ·rename_i hs;exact⟨p1,fun a ha=>⟨a,by rw[p2];exact ha,rfl⟩,fX.zero,by simp,fun a ha=>by
   have G':a∈m.heap:=p2 ▸ ha;exact⟨(hm.gR a G').1,fun v hv=>((hm.gR a G').2 v hv).of_heap p2⟩,⟨q1,q2⟩,by rw[p3];exact hm.out,by rw[p3];exact hm.words,⟨p4,p5⟩,fun h=>by
   exfalso;unfold Mach.fG at hs h;split at hs
   ·rename_i bf;rw[if_pos bf]at h;cases h
   rename_i bf;rw[if_neg bf]at h;have:=(hm.over h).2;simp only at hs;rw[this]at hs;cases hs⟩
 rename_i hs;refine⟨p1,fun a ha=>⟨a,by simp[ha],rfl⟩,?_,by simp,fun a ha=>?_,⟨q1,q2⟩,by simp only[p3];exact hm.out,by simp only[p3];exact hm.words,⟨p4,p5⟩,fun h=>⟨?_,by simpa using hs⟩⟩
 ·exact .mk (by omega) (by omega) (by omega) (fun _=>⟨_,rfl⟩) (by omega) (by simp) (fun id e=>by
   simp only[Option.some.injEq]at e;exact⟨_,List.mem_append_right _ (List.mem_singleton.2 rfl),e⟩) (by simp)
 ·have hk:∀v,fX u m v->fX u ({ m.fG x.n with heap:=m.heap++[⟨m.next+8,m.next+7,List.replicate x.n.toNat y⟩],next:=m.next+9 }:Mach) v:=fun v hv=>hv.mono fun b hb=>⟨b,by simp[hb],rfl⟩
  simp only[List.mem_append,List.mem_singleton]at ha;rcases ha with ha|rfl
  ·exact⟨(hm.gR a ha).1,fun v hv=>hk v ((hm.gR a ha).2 v hv)⟩
  refine⟨by simp;omega,fun v hv=>?_⟩;rw[(List.mem_replicate.1 hv).2];exact hk y hy
 simp only at h;unfold Mach.fG at h;split at h
 ·cases h
 exact h
theorem xf{u:cd}{m:Mach}(hm:cb u m){i:Ins}{args:List SV}(h:∀v∈args,fX u m v):dK u m (m.effect i args):=by
 have w0:fv 0:=by unfold fv;omega
 have h0:=jA h 0;have h1:=jA h 1;have h2:=jA h 2;unfold Mach.effect;split
 ·split
  ·exact dK.same hm fX.zero (by omega)
  split
  ·exact dK.same hm fX.zero (by omega)
  rename_i hk hl;refine⟨rfl,fun a ha=>⟨a,ha,rfl⟩,fX.word w0,by simp,fun a ha=>⟨(hm.gR a ha).1,fun v hv=>((hm.gR a ha).2 v hv).of_heap rfl⟩,⟨hm.left,Int.le_refl _⟩,?_,fun n hn=>?_,⟨rfl,rfl⟩,fun h=>⟨h,(hm.over h).2⟩⟩
  ·have:=hm.out;simp;omega
  simp only[List.mem_append,List.mem_singleton]at hn;rcases hn with hn|rfl
  ·exact hm.words n hn
  exact SV.Wf.num h0 (.inl (by omega))
 split
 ·exact zP hm h1
 split
 ·split
  ·exact dK.same hm fX.zero (by omega)
  split
  ·exact dK.same hm fX.zero (by omega)
  exact dK.same hm (fX.word w0) (by omega)
 split
 ·exact dK.same hm fX.zero (by omega)
 rename_i hk;obtain⟨a,ha,e1,e2⟩:=Hr hm h0 (by omega);rw[e2];have mG:=(hm.gR a ha).1;split
 ·exact dK.same hm (fX.word (by unfold fv;omega)) (by omega)
 split
 ·exact dK.same hm fX.zero (by omega)
 split
 ·exact dK.same hm (jA (hm.gR a ha).2 _) (by omega)
 obtain⟨s1,s2⟩:=sM m.heap (cu args 0).arr (a.l.set (cu args 1).n.toNat (cu args 2));have Un:∀v,fX u m v->fX u ({ m with heap:=Mach.j9 m.heap (cu args 0).arr (a.l.set (cu args 1).n.toNat (cu args 2)) }:Mach) v:=fun v hv=>hv.mono s1;refine⟨rfl,s1,fX.word w0,by simp,fun b hb=>?_,⟨hm.left,Int.le_refl _⟩,hm.out,hm.words,⟨rfl,rfl⟩,fun h=>⟨h,(hm.over h).2⟩⟩;obtain⟨c,hc,_,_,e⟩:=s2 b hb;rcases e with e|e
 ·rw[e];exact⟨(hm.gR c hc).1,fun v hv=>Un v ((hm.gR c hc).2 v hv)⟩
 rw[e];refine⟨by simpa using mG,fun v hv=>Un v ?_⟩;rcases List.mem_or_eq_of_mem_set hv with q|q
 ·exact(hm.gR a ha).2 v q
 rw[q];exact h2
theorem yv{u:cd}{m:Mach}(hm:cb u m){i:Ins}(hi:Hk u i){args:List SV}(hl:args.length=i.args.length)(h:∀v∈args,fX u m v):dK u m (m.exec i args):=by
 have h0:=jA h 0;unfold Mach.exec;split
 ·exact dK.same hm (fX.word (hi.c0 (by assumption))) (by omega)
 split
 ·split
  ·exact dK.same hm fX.zero (by omega)
  rename_i ho hk;have cr:kD args 0=true:=by simpa using hk
  have zG:=hi.c2 (.inl ho);have Wz:cu args 1∈args:=by
   unfold cu;rw[List.getElem?_eq_getElem (by omega)];exact List.getElem_mem _
  simp only[kD,List.all_eq_true,decide_eq_true_eq]at cr;obtain⟨⟨n,q1,q2⟩,q3⟩:=qn i.op (cu args 0).n (cu args 1).n (SV.Wf.num (h _ Wz) (.inl (cr _ Wz)));have:c5 i.op (cu args 0).n (cu args 1).n=(.word n,(c5 i.op (cu args 0).n (cu args 1).n).2):=by rw[<-q2]
  rw[this];exact dK.same hm (fX.word q1) q3
 split
 ·rename_i ho;exact dK.same hm (.mk (by omega) (fun _=>(hi.T4 ho).1) (by omega) (by omega) (by omega) (by have:=(hi.T4 ho).2;omega) (by simp) h) (by omega)
 split
 ·rename_i ho;obtain⟨c1,c2,c3⟩:=hi.UJ ho;exact dK.same hm (.mk (by omega) (by omega) (fun _=>⟨c1,c2⟩) (by omega) (by omega) (by omega) (by simp) h) (by omega)
 split
 ·obtain⟨q1,q2⟩:=vh (i:=i) h;exact dK.same hm q1 q2
 split
 ·rename_i ho;obtain⟨q1,q2⟩:=vM (i:=i) h (fun e=>by have:=hi.pack e;omega) (fun e1 e2=>by
   have:=hi.c2 (by omega)
   match args,hl with
   | [x,y],_=>exact⟨x,y,rfl⟩
   | [],hl=>simp at hl;omega
   | [x],hl=>simp at hl;omega
   | x::y::z::r,hl=>simp at hl;omega)
  exact dK.same hm q1 q2
 split
 ·exact dK.same hm h0 (by omega)
 exact xf hm h
theorem nD.mono{u:cd}{m m':Mach}(h:∀a∈m.heap,∃b∈m'.heap,b.lr=a.lr){f:Fr}(k:nD u m f):nD u m' f :=
 ⟨k.fn,k.blk,k.pos,fun e he=>(k.vals e he).mono h⟩
theorem nD.of_heap{u:cd}{m m':Mach}(h:m'.heap=m.heap){f:Fr}(k:nD u m f):nD u m' f:=k.mono fun a ha=>⟨a,by rw[h];exact ha,rfl⟩
theorem lU{u:cd}{k:Int}(h0:0<=k)(h1:k<u.fns.length):cx u k∈u.fns:=List.mem_of_getElem? (kh h0 h1)
theorem iu{f:Func}{k:Int}(h0:0<=k)(h1:k<f.blocks.length):aF f k∈f.blocks:=List.mem_of_getElem? (dP h0 h1)
theorem RH{u:cd}(hu:mh u){k:Int}(h0:0<=k)(h1:k<u.fns.length):(0:Int)<=0∧(0:Int)<(cx u k).blocks.length:=by
 have:=List.length_pos_iff.2 (hu.ne _ (lU h0 h1)).1;omega
theorem cb.stop{u:cd}{m:Mach}(hm:cb u m){e n:Int}(he:0<=e∧e<=6)(hn:fv n)(hz:e≠0->n=0):cb u (m.stop e n) where
 frames:=fun f hf=>(hm.frames f hf).of_heap (by rfl)
 gR:=fun a ha=>⟨(hm.gR a ha).1,fun v hv=>((hm.gR a ha).2 v hv).of_heap (by rfl)⟩
 left:=hm.left
 depth:=hm.depth
 out:=hm.out
 words:=hm.words
 fin:=he
 val:=hn
 done:=hz
 over:=fun h=>by cases h
theorem cb.bP{u:cd}{m:Mach}(hm:cb u m){f:Fr}(cq:m.frames≠[])(hf:nD u m f):cb u (m.bP f) where
 frames:=fun g hg=>by
  rcases List.mem_cons.1 hg with rfl|hg
  ·exact hf.of_heap (by rfl)
  exact(hm.frames g (List.mem_of_mem_tail hg)).of_heap (by rfl)
 gR:=fun a ha=>⟨(hm.gR a ha).1,fun v hv=>((hm.gR a ha).2 v hv).of_heap (by rfl)⟩
 left:=hm.left
 depth:=by
  have h1:=hm.depth;have h2:=List.length_pos_iff.2 cq;have h3:(m.bP f).frames.length=m.frames.length:=by
   simp only[Mach.bP,List.length_cons,List.length_tail];omega
  rw[h3];exact h1
 out:=hm.out
 words:=hm.words
 fin:=hm.fin
 val:=hm.val
 done:=hm.done
 over:=fun h=>⟨by simp[Mach.bP],(hm.over h).2⟩
theorem cb.enter{u:cd}{m:Mach}(hu:mh u)(hm:cb u m)(hs:m.over=false->m.short=false)(hd:m.frames.length+m.left+1<=2 ^ 40){fn:Int}(qM:0<=fn∧fn<u.fns.length){args:List SV}(ha:∀v∈args,fX u m v)(to:Int) :
  cb u (m.enter u fn args to) where
 frames:=fun g hg=>by
  rcases List.mem_cons.1 hg with rfl|hg
  ·exact⟨qM,RH hu qM.1 qM.2,Nat.zero_le _,zS (by simp) (fun v hv=>(ha v hv).of_heap (by rfl))⟩
  exact(hm.frames g hg).of_heap (by rfl)
 gR:=fun a ha=>⟨(hm.gR a ha).1,fun v hv=>((hm.gR a ha).2 v hv).of_heap (by rfl)⟩
 left:=hm.left
 depth:=by
  simp only[Mach.enter,List.length_cons];omega
 out:=hm.out
 words:=hm.words
 fin:=hm.fin
 val:=hm.val
 done:=hm.done
 over:=fun h=>⟨by simp[Mach.enter],hs h⟩
theorem cb.follow{u:cd}{m:Mach}(hm:cb u m)(cq:m.frames≠[]){f:Fr}(hf:nD u m f){e:Edge}(he:x7 (cx u f.fn) e):cb u (m.follow u f e) :=
 hm.bP cq ⟨hf.fn,⟨he.lo,he.hi⟩,Nat.zero_le _,zS hf.vals (re hf.vals _)⟩
theorem cb.leave{u:cd}{m:Mach}(hm:cb u m)(cq:m.frames≠[]){f:Fr}{v:SV}(hv:fX u m v)(ho:m.over=false):cb u (m.leave f v):=by
 have hz:fv 0:=by unfold fv;omega
 unfold Mach.leave;cases ht:m.frames.tail with
 | nil =>
  simp only;have h0:cb u ({ m with frames:=[],over:=true }:Mach) :=
   ⟨by simp,fun a ha=>⟨(hm.gR a ha).1,fun v hv=>((hm.gR a ha).2 v hv).of_heap (by rfl)⟩,hm.left,by have:=hm.depth;simp;omega,hm.out,hm.words,hm.fin,hm.val,hm.done,fun h=>by cases h⟩
  refine h0.stop (e:=0) (by omega) ?_ (by simp);split
  ·exact SV.Wf.num hv (by assumption)
  exact hz
 | cons g r =>
  simp only;have hg:g∈m.frames:=List.mem_of_mem_tail (by rw[ht];simp);have hr:∀x∈r,x∈m.frames:=fun x hx=>List.mem_of_mem_tail (by rw[ht];simp[hx]);have hl:r.length+1<=m.frames.length:=by
   have h1:m.frames.tail.length=r.length+1:=by rw[ht];rfl
   simp at h1;omega
  have Uh:=hm.frames g hg;exact⟨fun x hx=>by
   rcases List.mem_cons.1 hx with rfl|hx
   ·exact⟨Uh.fn,Uh.blk,Uh.pos,fun e he=>(yY Uh.vals hv e he).of_heap (by rfl)⟩
   exact(hm.frames x (hr x hx)).of_heap (by rfl),fun a ha=>⟨(hm.gR a ha).1,fun v hv=>((hm.gR a ha).2 v hv).of_heap (by rfl)⟩,hm.left,by have:=hm.depth;simp only[List.length_cons];omega,hm.out,hm.words,hm.fin,hm.val,hm.done,fun h=>⟨by simp,(hm.over h).2⟩⟩
theorem w7{f:Func}{t:Term}(ht:x8 f t)(h0:t.kind≠0)(h1:t.kind≠1)(h4:t.kind≠4)(n:Int):∃e,t.to[iK t n]?=some e:=by
 have hk:=ht.kind;have bf:iK t n<t.to.length:=by
  unfold iK;by_cases h2:t.kind=2
  ·rw[if_pos h2,ht.cond h2];split<;>omega
  rw[if_neg h2,ht.switch (by omega)];have:=List.findIdx_le_length (xs:=t.cases) (p:=(· == n));omega
 exact⟨_,List.getElem?_eq_getElem bf⟩
theorem cb.finish{u:cd}{m:Mach}(hm:cb u m)(ho:m.over=false){f:Fr}(hf:nD u m f){t:Term}(ht:x8 (cx u f.fn) t):cb u (m.finish u f t):=by
 have hz:fv 0:=by unfold fv;omega
 have cq:=(hm.over ho).1;unfold Mach.finish;split
 ·exact hm.stop ht.n hz (fun _=>rfl)
 rename_i h4;split
 ·rename_i h1;have hl:=ht.jump h1;have he:t.to[0]?=some (t.to[0]'(by omega)):=List.getElem?_eq_getElem _;rw[he];exact hm.follow cq hf (ht.gG _ (List.getElem_mem _))
 rename_i h1;split
 ·exact hm.leave cq (yy hf.vals _) ho
 rename_i h0;split
 ·exact hm.stop (by omega) hz (fun _=>rfl)
 obtain⟨e,he⟩:=w7 ht h0 h1 h4 (iO f.vals t.arg).n;rw[he];exact hm.follow cq hf (ht.gG _ (List.mem_of_getElem? he))
theorem cb.settle{u:cd}{m:Mach}(hm:cb u m)(cq:m.frames≠[]){f:Fr}(hf:nD u m f){r:Mach×SV×Int}(hr:dK u m r)(to:Int):cb u (Mach.settle f to r):=by
 have hz:fv 0:=by unfold fv;omega
 have h1:cb u r.1:=⟨fun g hg=>(hm.frames g (hr.frames ▸ hg)).mono hr.lF,hr.gR,hr.left.1,by
  have:=hm.depth;have:=hr.left.2;rw[hr.frames];omega,hr.out,hr.words,by rw[hr.fin.1];exact hm.fin,by rw[hr.fin.2];exact hm.val,by rw[hr.fin.1,hr.fin.2];exact hm.done,fun h=>⟨by rw[hr.frames];exact cq,(hr.over h).2⟩⟩
 have dG:nD u r.1 f:=hf.mono hr.lF;have S0:r.1.frames≠[]:=by rw[hr.frames];exact cq
 unfold Mach.settle;split
 ·refine(h1.stop hr.NW hz (fun _=>rfl)).bP S0 ?_;have L6:nD u (r.1.stop r.2.2 0) f:=dG.of_heap (by rfl);exact⟨L6.fn,L6.blk,L6.pos,yY L6.vals (hr.val.of_heap (by rfl))⟩
 exact h1.bP S0 ⟨dG.fn,dG.blk,dG.pos,yY dG.vals hr.val⟩
theorem cb.step{u:cd}{m:Mach}(hu:mh u)(hm:cb u m)(ho:m.over=false)(hd:m.frames.length+m.left+1<=2 ^ 40):cb u (m.step u):=by
 have hz:fv 0:=by unfold fv;omega
 obtain⟨cq,lD⟩:=hm.over ho;unfold Mach.step;cases dG:m.frames with
 | nil=>exact absurd dG cq
 | cons f r =>
  have hf:=hm.frames f (by rw[dG];simp);have hF:=lU hf.fn.1 hf.fn.2;have hB:=iu hf.blk.1 hf.blk.2;have hb:=hu.blocks _ hF _ hB;simp only;cases hi:(aF (cx u f.fn) f.blk).ins[f.pos]? with
  | none=>exact hm.finish ho hf hb.term
  | some i =>
   simp only;have C4:=hb.ins i (List.mem_of_getElem? hi);have bf:=I hi;have nC:nD u m { f with pos:=f.pos+1 }:=⟨hf.fn,hf.blk,bf,hf.vals⟩
   have h1:=hm.bP cq nC;have IC:nD u (m.bP { f with pos:=f.pos+1 }) { f with pos:=f.pos+1 }:=nC.of_heap (by rfl);have AI:(m.bP { f with pos:=f.pos+1 }).frames.length=m.frames.length:=by
    simp[Mach.bP,dG]
   have ha:=re IC.vals i.args;have mG:=sc f.vals i.args;unfold Mach.act;split
   ·rename_i KJ;obtain⟨c1,c2,c3⟩:=C4.call KJ;exact h1.enter hu (fun _=>lD) (by rw[AI];exact hd) ⟨c1,c2⟩ ha _
   split
   ·split
    ·rename_i hk;exact h1.enter hu (fun _=>lD) (by rw[AI];exact hd) (SV.Wf.fn (jA ha 0) hk.1) ha _
    exact h1.stop (by omega) hz (fun _=>rfl)
   exact h1.settle (by simp[Mach.bP]) IC (yv h1 C4 mG ha) _
theorem GU(u:cd)(m:Mach)(hm:cb u m)(hu:mh u)(ho:m.over=false):(m.step u).left<=m.left:=by
 obtain⟨cq,lD⟩:=hm.over ho;have P2:∀(m:Mach) f v,(m.leave f v).left=m.left:=fun m f v=>by
  unfold Mach.leave;split<;>rfl
 unfold Mach.step;cases dG:m.frames with
 | nil=>exact absurd dG cq
 | cons f r =>
  have hf:=hm.frames f (by rw[dG];simp);have hb:=hu.blocks _ (lU hf.fn.1 hf.fn.2) _ (iu hf.blk.1 hf.blk.2);simp only;cases hi:(aF (cx u f.fn) f.blk).ins[f.pos]? with
  | none =>
   simp only;unfold Mach.finish
   repeat' split
   all_goals first
    | exact Int.le_refl _
    | exact Int.le_of_eq (P2 _ _ _)
  | some i =>
   simp only;have C4:=hb.ins i (List.mem_of_getElem? hi);have bf:=I hi;have nC:nD u m { f with pos:=f.pos+1 }:=⟨hf.fn,hf.blk,bf,hf.vals⟩
   have h1:=hm.bP cq nC;unfold Mach.act;split
   ·exact Int.le_refl _
   split
   ·split<;>exact Int.le_refl _
   have hx:=yv h1 C4 (sc f.vals i.args) (re (fun e he=>(hf.vals e he).of_heap (by rfl)) i.args);have hl:=hx.left.2;unfold Mach.settle;split<;>exact hl
end Go.Proofs.YtjdnhamngpafmaaGreat
