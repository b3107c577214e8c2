/-
  Texts bound together by a program of mine: YtkhnjeblbiocaaaT9, YtkhnjeblbiocaaaT10, YtkhnjeblbiocaaaT26, YtkhnjeblbiocaaaT11, YtkhnjeblbiocaaaT12, YtkhnjeblbiocaaaT13, YtkhnjeblbiocaaaT14, YtkhnjeblbiocaaaT15, YtkhnjeblbiocaaaT16, YtkhnjeblbiocaaaT17, YtkhnjeblbiocaaaT27, YtkhnjeblbiocaaaT28, YtkhnjeblbiocaaaT29, YtkhnjeblbiocaaaT31, YtkhnjeblbiocaaaT32, YtkhnjeblbiocaaaT33, YtkhnjeblbiocaaaPp, YtkhnjeblbiocaaaPq, YtkhnjeblbiocaaaT34, YtkhnjeblbiocaaaT35, YtkhnjeblbiocaaaPn, YtkhnjeblbiocaaaT36, YtkhnjeblbiocaaaPs, YtkhnjeblbiocaaaPt, YtkhnjeblbiocaaaT18, YtkhnjeblbiocaaaT19.
-/
import Derived.Test.YtkhnjeblbiocaaaJ2
import Derived.Laws.Closers25b
set_option linter.all false
set_option maxRecDepth 100000
set_option maxHeartbeats 4000000

namespace Go.Proofs.Ytkhnjeblbiocaaa
open Go.Av
theorem sf{op:Int}:∀{l r:List SV} {k:Nat} {x y:SV},l[k]?=some x->r[k]?=some y->jq op (l.take (k+1)) (r.take (k+1))=jq op (l.take k) (r.take k)++[(dk op x.n y.n).1]
 | a::l,b::r,0,x,y,h1,h2=>by
  simp only[List.getElem?_cons_zero,Option.some.injEq]at h1 h2;subst h1;subst h2;simp[jq]
 | a::l,b::r,k+1,x,y,h1,h2=>by
  have ih:=sf (op:=op) (l:=l) (r:=r) (k:=k) (by simpa using h1) (by simpa using h2);simp only[List.take_succ_cons,jq,List.cons_append];rw[ih]
theorem qZ{op:Int}:∀(l r:List SV),(jq op l r).length=min l.length r.length
 | [],_=>by simp[jq]
 | _::_,[]=>by simp[jq]
 | a::l,b::r=>by simp[jq,qZ l r]
theorem mL(k:Nat)(op a b:Int):SV.bh k (dk op a b).1:=by
 unfold dk
 repeat' split
 all_goals exact qX _ _
theorem ni{op:Int}{k:Nat}:∀(l r:List SV),∀v∈jq op l r,SV.bh k v
 | [],_,v,h=>by simp[jq]at h
 | _::_,[],v,h=>by simp[jq]at h
 | a::l,b::r,v,h=>by
  simp only[jq,List.mem_cons]at h;rcases h with rfl|h
  ·exact mL _ _ _ _
  exact ni l r v h
theorem vh{O:List ak}(bC:∀o∈O,o.upto O.length)(i:bE)(args:List SV)(hl:∀v∈args,SV.bh O.length v)(h1:i.op=24->∃x,args[0]?=some x)(h2:i.op≠22->i.op≠24->∃x y,args=[x,y])
  (hn:i.op=24->0<=i.n) (hw:∀v∈args,v.kind=4->v.list.length<=1000∧∀x∈v.list,fp x.n) :
  bc Try.prog 99 O [i.enc,.aE 4 (args.map SV.enc) .sh] (fun r O'=>r=.df [(dn i args).1.enc,aI (dn i args).2]∧O'=O):=by
 have Ad:∀l:List SV,ae.agg [aI 4,aI 0,.aE 4 (l.map SV.enc) .sh,.v (.pointer none)]=(SV.mk 4 0 l none).enc:=fun l=>(SV.iu 4 0 l none).symm;refine zf true O.length Try.func99 Try.ntmps99 ?_;dsimp only[Tmp,TypeId,ax];refine aA (ah ?_);refine bY 2 0 ([aI i.to,aI i.op,aI i.n,a6 i.args]) rfl rfl (by rfl) ?_;simp -dsimp only[simprocAttr,↓aa,zp];refine b8 (ah ?_);refine aj ?_;refine aA (ah ?_);apply aP rfl<;>intro h
 ·have e:i.op=22:=by simpa using h
  refine b8 ?_;refine .inr (.inr ⟨_,sm bC args hl 0 _,au (zj ?_)⟩);refine ah ?_;cases cM:jw args 0 with
  | true =>
   apply aP rfl<;>intro h
   ·simp[cM]at h
   refine cA ?_;refine aA (ah ?_);refine aq ?_;simp -dsimp only[simprocAttr,↓aa,zp,zr,Try.results99,Ad];have hz:=(SV.bh.mk (k:=4) (m:=0) (a:=none) (by simp) hl).aN;rw[SV.iu]at hz;refine⟨bC,⟨hz,trivial,trivial⟩,?_⟩;simp[dn,e,cM,SV.iu]
  | false =>
   apply aP rfl<;>intro h
   ·refine aA (ah ?_);refine aq ?_;simp -dsimp only[simprocAttr,↓aa,zp,zr,Try.results99,cB];refine⟨bC,fw,?_⟩;simp[dn,e,cM]
   simp[cM]at h
 have Bp:i.op≠22:=by simpa using h
 refine aA (ah ?_);apply aP rfl<;>intro h
 ·have e:i.op=24:=by simpa using h
  obtain⟨x,hx⟩:=h1 e;have qj:=fF hx;have tJ:=hn e;have xD:=hl x (List.mem_of_getElem? hx);by_cases hk:x.kind=4
  ·have hd:decide (x.kind=4)=true:=decide_eq_true hk;by_cases hlen:(x.list.length:Int)<=i.n
   ·have jP:decide ((x.list.length:Int)<=i.n)=true:=decide_eq_true hlen;refine dd ?_;simp -dsimp only[simprocAttr,↓aa,zp,hx,hd,jP];refine⟨ob (by kernel_rfl),?_⟩;refine ah ?_;refine cS rfl ?_;refine aA (ah ?_);refine aq ?_;simp -dsimp only[simprocAttr,↓aa,zp,zr,Try.results99,cB];refine⟨bC,fw,?_⟩;simp[dn,e,qj,hlen]
   have jP:decide ((x.list.length:Int)<=i.n)=false:=decide_eq_false hlen;obtain⟨z,hz⟩:∃z,x.list[i.n.toNat]?=some z:=⟨x.list[i.n.toNat]'(by omega),List.getElem?_eq_getElem _⟩
   have Cv:=lu xD z (List.mem_of_getElem? hz);have Gm:=fF hz;refine dd ?_;simp -dsimp only[simprocAttr,↓aa,zp,hx,hd,jP];refine⟨ob (by kernel_rfl),?_⟩;refine ah ?_;refine cE rfl ?_;refine cA ?_;refine aX ?_;simp -dsimp only[simprocAttr,↓aa,zp,hx,hz]
   repeat(refine⟨by omega,?_⟩)
   refine⟨ob (by kernel_rfl),?_⟩;refine ah ?_;refine aq ?_;simp -dsimp only[simprocAttr,↓aa,zp,zr,Try.results99];refine⟨bC,qG Cv,?_⟩;simp[dn,e,qj,hlen,hk,Gm]
  have hd:decide (x.kind=4)=false:=decide_eq_false hk;refine dd ?_;simp -dsimp only[simprocAttr,↓aa,zp,hx,hd];refine⟨ob (by kernel_rfl),?_⟩;refine ah ?_;refine cS rfl ?_;refine aA (ah ?_);refine aq ?_;simp -dsimp only[simprocAttr,↓aa,zp,zr,Try.results99,cB];refine⟨bC,fw,?_⟩;simp[dn,e,qj,hk]
 have DG:i.op≠24:=by simpa using h
 obtain⟨x,y,e⟩:=h2 Bp DG;subst e;have cM:=sm bC [x,y] hl 4;cases hk:jw [x,y] 4 with
 | false =>
  simp only[hk,List.map_cons,List.map_nil]at cM;refine jR ?_;refine b8 ?_;refine .inr (.inr ⟨_,cM _,au (zj ?_)⟩);refine⟨ob (by kernel_rfl),?_⟩;refine ah ?_;refine cS rfl ?_;refine aA (ah ?_);refine aq ?_;simp -dsimp only[simprocAttr,↓aa,zp,zr,Try.results99,cB];refine⟨bC,fw,?_⟩;simp[dn,Bp,DG,hk]
 | true =>
  simp only[hk,List.map_cons,List.map_nil]at cM;by_cases hlen:x.list.length=y.list.length
  ·have hd:decide ((x.list.length:Int)=y.list.length)=true:=decide_eq_true (by omega);refine jR ?_;refine b8 ?_;refine .inr (.inr ⟨_,cM _,au ?_⟩);simp -dsimp only[simprocAttr,↓aa,zp,hd];refine⟨ob (by kernel_rfl),?_⟩;refine ah ?_;apply aP rfl<;>intro h
   ·cases h
   refine cA ?_;refine aA (ah ?_);refine gS (O.length+2) 2 (by rw[j3];rfl) rfl ?_;simp -dsimp only[simprocAttr,↓aa,zp];refine b8 (ah ?_);refine ff 68 rfl (fun GN=>?_);simp only[List.length_map]at GN;have gT:x.kind=4∧y.kind=4:=by simpa[jw]using hk
   obtain⟨Al,Ie⟩:=hw x (by simp) gT.1;obtain⟨Ht,Ig⟩:=hw y (by simp) gT.2;refine aj (aU (ι:={j:Nat // j<=x.list.length}) (fun j=>⟨99,[(1,.aE 4 [x.enc,y.enc] .sh),(2,.ip none [aI i.to,aI i.op,aI i.n,a6 i.args]),(4,.mp (O.length+1) 0),(5,aI 0),(6,.mp (O.length+2) 0),(68,.aE 4 (x.list.map SV.enc) .sh),(69,aI x.list.length),(70,aI j.1)],O++[.gone,.cells [aI 0,aI 0,.aE 4 [] .ex,.v (.pointer none)],.cells [aI 4,aI 0,.aE 4 ((jq i.n (x.list.take j.1) (y.list.take j.1)).map SV.enc) (.tok (O.length+3)),.v (.pointer none)],.spare j.1]⟩) (fun j=>x.list.length-j.1) ⟨0,by omega⟩ ?_ ?_)
   ·refine zq rfl ?_ ?_;simp -dsimp only[simprocAttr,↓aa,zp,zc];simp[jq]
   rintro⟨j,hj⟩;have sV:(jq i.n (x.list.take j) (y.list.take j)).length=j:=by
    rw[qZ,List.length_take,List.length_take];omega
   refine aA (ah ?_);apply gW rfl<;>intro h
   ·refine cA ?_;have aZ:j<x.list.length:=by simpa using h
    obtain⟨a,ha⟩:∃a,x.list[j]?=some a:=⟨x.list[j],by simp[aZ]⟩
    obtain⟨b,hb⟩:∃b,y.list[j]?=some b:=⟨y.list[j]'(by omega),List.getElem?_eq_getElem _⟩
    have Jr:=Ie a (List.mem_of_getElem? ha);have Ex:=Ig b (List.mem_of_getElem? hb);refine aK (aj ?_);refine aX ?_;simp -dsimp only[simprocAttr,↓aa,zp,ha];refine ah ?_;refine bY 8 4 ([aI a.kind,aI a.n,.aE 4 (a.list.map SV.enc) .sh,eP a.arr]) rfl rfl (by simp only[List.map_cons,List.map_nil,cT,cg,dJ,dK,dI,dG,dH,cx]) ?_;simp -dsimp only[simprocAttr,↓aa,zp];refine aX ?_;simp -dsimp only[simprocAttr,↓aa,zp,hb];refine zi (oT i.n a.n b.n Jr Ex) ?_;refine⟨ob (by kernel_rfl),?_⟩;refine ah ?_;generalize hB:(dk i.n a.n b.n).1=B;refine bY 9 5 ([aI B.kind,aI B.n,.aE 4 (B.list.map SV.enc) .sh,eP B.arr]) rfl rfl (by simp only[List.map_cons,List.map_nil,cT,cg,dJ,dK,dI,dG,dH,cx]) ?_;simp -dsimp only[simprocAttr,↓aa,zp];refine j1 ?_;simp -dsimp only[simprocAttr,↓aa,zp,sV]
    repeat(refine⟨by omega,?_⟩)
    refine ah ?_;have sW:=sf (op:=i.n) ha hb;rw[hB]at sW;have xD:=(hl x (by simp)).mono (show O.length<=O.length+4 by omega);have G3:=(hl y (by simp)).mono (show O.length<=O.length+4 by omega);have Cv:=SV.ai (n:=O.length+4) (ni (op:=i.n) (x.list.take (j+1)) (y.list.take (j+1)));rw[sW,List.map_append,List.map_cons,List.map_nil]at Cv;have Ic:=SV.ai (lu xD);refine BH 4 ([.gone,.cells [aI 0,aI 0,.aE 4 [] .ex,.v (.pointer none)],.cells [aI 4,aI 0,.aE 4 ((jq i.n (x.list.take j) (y.list.take j)).map SV.enc++[B.enc]) (.tok (O.length+3)),.v (.pointer none)],.spare (j+1)]) [(1,.aE 4 [x.enc,y.enc] .sh),(2,.ip none [aI i.to,aI i.op,aI i.n,a6 i.args]),(4,.mp (O.length+1) 0),(5,aI 0),(6,.mp (O.length+2) 0),(68,.aE 4 (x.list.map SV.enc) .sh),(69,aI x.list.length),(70,aI j)] rfl (by simp) (by omega) (by simp[bu,a7,Go.Av.look]) ?_ ?_ ?_ ?_
    ·exact fun o ho=>ak.cu (by omega) (bC o ho)
    ·simp[ak.upto,aw,ae.upto,Cv]
    ·simp[aw,ae.upto,az,xD.aN,G3.aN,Ic]
    refine dc ?_
    repeat(refine⟨by omega,?_⟩)
    refine fV ?_;refine⟨⟨j+1,aZ⟩,by simp;omega,?_⟩;refine zq rfl ?_ ?_;simp -dsimp only[simprocAttr,↓aa,zp,zc]
    ·exact Sub.int (by simp)
    simp only[sW,List.map_append,List.map_cons,List.map_nil]
   refine aR ?_;simp -dsimp only[bX,ne_eq,Nat.reduceEqDiff,reduceCtorEq];have oH:j=x.list.length:=by simp at h;omega
   subst oH;have hy:y.list.take x.list.length=y.list:=by rw[hlen,List.take_length]
   have hz:=(SV.bh.mk (k:=4) (m:=0) (a:=none) (n:=O.length) (l:=jq i.n x.list y.list) (by simp) (ni _ _)).aN;rw[SV.iu]at hz;refine aA (ah ?_);refine aq ?_;simp -dsimp only[simprocAttr,↓aa,zp,zr,Try.results99,hy];refine⟨bC,⟨hz,trivial,trivial⟩,?_⟩;have dY:ca [x,y] 0=x∧ca [x,y] 1=y:=⟨rfl,rfl⟩
   simp[dn,Bp,DG,hk,hlen,SV.iu,dY,eP]
  have hd:decide ((x.list.length:Int)=y.list.length)=false:=decide_eq_false (by omega);refine jR ?_;refine b8 ?_;refine .inr (.inr ⟨_,cM _,au ?_⟩);simp -dsimp only[simprocAttr,↓aa,zp,hd];refine⟨ob (by kernel_rfl),?_⟩;refine ah ?_;refine cS rfl ?_;refine aA (ah ?_);refine aq ?_;simp -dsimp only[simprocAttr,↓aa,zp,zr,Try.results99,cB];refine⟨bC,fw,?_⟩;simp[dn,Bp,DG,hk,hlen,ca]
def rD(l:List Int)(n:Int):Int:=if l.findIdx (· == n)<l.length then(l.findIdx (· == n):Nat)else -1
theorem v3{l:List Int}{n:Int}{k:Nat}(hk:l[k]?=some n)(h:∀x∈l.take k,x≠n):l.findIdx (· == n)=k:=by
 have aZ:=I hk;have e:l=l.take k++n::l.drop (k+1):=by
  rw[List.getElem?_eq_getElem aZ]at hk;simp only[Option.some.injEq]at hk
  conv=>lhs;rw[<-List.take_append_drop k l,List.drop_eq_getElem_cons aZ,hk]
 have hn:(l.take k).findIdx (· == n)=(l.take k).length:=by
  rw[List.findIdx_eq_length];intro x hx;simpa using h x hx
 rw[e,List.findIdx_append,hn];simp[List.findIdx_cons];omega
theorem qA(l:List Int)(n:Int):bw Try.prog 82 [a6 l,aI n] (aI (rD l n)):=by
 refine zf true 0 Try.func82 Try.ntmps82 ?_;dsimp only[Tmp,TypeId,ax];refine aA (ah ?_);refine ff 0 rfl (fun hlen=>?_);simp only[List.length_map]at hlen;refine b8 (ah ?_);refine aj (aU (ι:={j:Nat // j<=l.length∧∀x∈l.take j,x≠n}) (fun j=>⟨19,[(0,a6 l),(1,aI n),(4,aI 0),(7,aI l.length),(8,aI j.1)],[]⟩) (fun j=>l.length-j.1) ⟨0,by omega,by simp⟩ ?_ ?_)
 ·refine zq rfl ?_ ?_;simp -dsimp only[simprocAttr,↓aa,zp,zc];rfl
 rintro⟨j,hj,cM⟩;refine aA (ah ?_);apply gW rfl<;>intro h
 ·refine cA ?_;have aZ:j<l.length:=by simpa using h
  obtain⟨v,hv⟩:∃v,l[j]?=some v:=⟨l[j],by simp[aZ]⟩
  refine aK (aj ?_);refine aA (ah ?_);refine aX ?_;simp -dsimp only[simprocAttr,↓aa,zp,hv]
  repeat(refine⟨by omega,?_⟩)
  refine ah ?_;apply aP rfl<;>intro h
  ·have hk:n=v:=by simpa using h
   refine aA (ah ?_);refine aq ?_;simp -dsimp only[simprocAttr,↓aa,zp,zr,Try.results82];subst hk;have:=v3 hv cM;simp[rD,this,aZ]
  refine jR ?_;have hk:n≠v:=by simpa using h
  refine dc ?_
  repeat(refine⟨by omega,?_⟩)
  refine fV ?_;refine⟨⟨j+1,aZ,fun w hw=>?_⟩,by simp;omega,?_⟩
  ·rw[List.take_add_one,hv]at hw;simp only[Option.toList_some,List.mem_append,List.mem_singleton]at hw;rcases hw with hw|rfl
   ·exact cM w hw
   exact fun e=>hk e.symm
  refine zq rfl ?_ ?_;simp -dsimp only[simprocAttr,↓aa,zp,zc]
  ·exact Sub.int (by simp)
  rfl
 refine aR ?_;simp -dsimp only[bX,ne_eq,Nat.reduceEqDiff,reduceCtorEq];have gT:j=l.length:=by simp at h;omega
 subst gT;refine aA (ah ?_);refine aq ?_;simp -dsimp only[simprocAttr,↓aa,zp,zr,Try.results82];rw[List.take_length]at cM;have:l.findIdx (· == n)=l.length:=by
  rw[List.findIdx_eq_length];intro x hx;simpa using cM x hx
 simp[rD,this]
theorem ua(t:Term)(n:Int)(ht:t.cases.length<=2 ^ 60):bw Try.prog 94 [t.enc,aI n] (aI (dP t n)):=by
 have Bx:=qA t.cases n;have hle:t.cases.findIdx (· == n)<=t.cases.length:=List.findIdx_le_length;refine zf true 0 Try.func94 Try.ntmps94 ?_;dsimp only[Tmp,TypeId,ax];refine aA (ah ?_);refine b8 (ah ?_);apply aP rfl<;>intro h
 ·have e:t.kind=2:=by simpa using h
  refine b8 (ah ?_);apply aP rfl<;>intro h
  ·have e0:n≠0:=by simpa using h
   refine aA (ah ?_);refine aq ?_;simp -dsimp only[simprocAttr,↓aa,zp,zr,Try.results94];simp[dP,e,e0]
  have e0:n=0:=by simpa using h
  refine cA ?_;refine aA (ah ?_);refine aq ?_;simp -dsimp only[simprocAttr,↓aa,zp,zr,Try.results94];simp[dP,e,e0]
 have e:t.kind≠2:=by simpa using h
 refine cA ?_;by_cases hf:t.cases.findIdx (· == n)<t.cases.length
 ·have hI:rD t.cases n=(t.cases.findIdx (· == n):Nat):=by simp[rD,hf]
  rw[hI]at Bx;generalize hq:t.cases.findIdx (· == n)=q at Bx;refine b8 ?_;refine zi Bx ?_;refine ah ?_;refine aA (ah ?_);apply aP rfl<;>intro h
  ·refine aA (ah ?_);refine aq ?_;simp -dsimp only[simprocAttr,↓aa,zp,zr,Try.results94];simp[dP,e,hq]
  simp at h
 have hI:rD t.cases n=-1:=by simp[rD,hf]
 rw[hI]at Bx;have hq:t.cases.findIdx (· == n)=t.cases.length:=by omega
 refine b8 ?_;refine zi Bx ?_;refine ah ?_;refine aA (ah ?_);apply aP rfl<;>intro h
 ·simp at h
 refine cA ?_;refine aA (ah ?_);refine aq ?_;simp -dsimp only[simprocAttr,↓aa,zp,zr,Try.results94];simp[dP,e,hq]
def eX(t:Term):Int:=if t.kind=1 then 1 else if t.kind=2 then 2 else if t.kind=3 then(t.cases.length:Int)+1 else 0
def ou(t:Term):Bool:=decide (t.kind=0) ||(decide (t.kind=2) ||decide (t.kind=3))
def eG(t:Term):Bool:=(decide (0<=t.kind)&&decide (t.kind<=4))&&(((decide ((t.to.length:Int)=eX t)&&(ou t ||decide (t.arg=0)))&&(decide (t.kind=4) ||decide (t.n=0)))&&(decide (t.kind=3) ||decide ((t.cases.length:Int)=0)))
theorem CH(t:Term)(hk:t.kind=0)(eJ:t.cases.length<=2 ^ 60):bw Try.prog 85 [t.enc] (.v (.bool (eG t))):=by
 have he:eX t=0:=by simp[eX,hk]
 have ha:ou t=true:=by simp[ou,hk]
 unfold eG;rw[he,ha];have h0:decide (t.kind=0)=true:=decide_eq_true hk;have h4:decide (t.kind=4)=false:=decide_eq_false (by omega);have h3:decide (t.kind=3)=false:=decide_eq_false (by omega);have gQ:decide (0<=t.kind)=true:=decide_eq_true (by omega);have mH:decide (t.kind<=4)=true:=decide_eq_true (by omega);rw[gQ,mH,h3,h4];refine zf true 0 Try.func85 Try.ntmps85 ?_;dsimp only[Tmp,TypeId,ax];refine aA (ah ?_);refine aA (ah ?_);refine b8 (ah ?_);refine aj ?_;refine aX ?_;simp -dsimp only[simprocAttr,↓aa,zp,h0];refine ah ?_;refine cS rfl ?_;refine dc (ah ?_);cases hA:decide ((t.to.length:Int)=0)<;>cases hB:decide (t.arg=0)<;>cases hC:decide (t.n=0)<;>cases hD:decide ((t.cases.length:Int)=0)
 all_goals
  refine aX ?_;simp -dsimp only[simprocAttr,↓aa,zp,hA,hB,hC,hD];refine ah ?_;refine aq ?_;simp -dsimp only[simprocAttr,↓aa,zp,zr,Try.results85,Bool.true_or,Bool.false_or,Bool.or_true,Bool.or_false,Bool.true_and,Bool.false_and,Bool.and_true,Bool.and_false]
theorem CI(t:Term)(hk:t.kind=1)(eJ:t.cases.length<=2 ^ 60):bw Try.prog 85 [t.enc] (.v (.bool (eG t))):=by
 have he:eX t=1:=by simp[eX,hk]
 have ha:ou t=false:=by simp[ou,hk]
 unfold eG;rw[he,ha];have h0:decide (t.kind=0)=false:=decide_eq_false (by omega);have h1:decide (t.kind=1)=true:=decide_eq_true hk;have h4:decide (t.kind=4)=false:=decide_eq_false (by omega);have h3:decide (t.kind=3)=false:=decide_eq_false (by omega);have gQ:decide (0<=t.kind)=true:=decide_eq_true (by omega);have mH:decide (t.kind<=4)=true:=decide_eq_true (by omega);rw[gQ,mH,h3,h4];refine zf true 0 Try.func85 Try.ntmps85 ?_;dsimp only[Tmp,TypeId,ax];refine aA (ah ?_);refine aA (ah ?_);refine b8 (ah ?_);refine aj ?_;refine aX ?_;simp -dsimp only[simprocAttr,↓aa,zp,h0];refine ah ?_;refine cE rfl ?_;refine aX ?_;simp -dsimp only[simprocAttr,↓aa,zp,h1];refine ah ?_;refine cS rfl ?_;refine dc (ah ?_);cases hA:decide ((t.to.length:Int)=1)<;>cases hB:decide (t.arg=0)<;>cases hC:decide (t.n=0)<;>cases hD:decide ((t.cases.length:Int)=0)
 all_goals
  refine aX ?_;simp -dsimp only[simprocAttr,↓aa,zp,hA,hB,hC,hD];refine ah ?_;refine aq ?_;simp -dsimp only[simprocAttr,↓aa,zp,zr,Try.results85,Bool.true_or,Bool.false_or,Bool.or_true,Bool.or_false,Bool.true_and,Bool.false_and,Bool.and_true,Bool.and_false]
theorem CJ(t:Term)(hk:t.kind=2)(eJ:t.cases.length<=2 ^ 60):bw Try.prog 85 [t.enc] (.v (.bool (eG t))):=by
 have he:eX t=2:=by simp[eX,hk]
 have ha:ou t=true:=by simp[ou,hk]
 unfold eG;rw[he,ha];have h0:decide (t.kind=0)=false:=decide_eq_false (by omega);have h1:decide (t.kind=1)=false:=decide_eq_false (by omega);have h2:decide (t.kind=2)=true:=decide_eq_true hk;have h4:decide (t.kind=4)=false:=decide_eq_false (by omega);have h3:decide (t.kind=3)=false:=decide_eq_false (by omega);have gQ:decide (0<=t.kind)=true:=decide_eq_true (by omega);have mH:decide (t.kind<=4)=true:=decide_eq_true (by omega);rw[gQ,mH,h3,h4];refine zf true 0 Try.func85 Try.ntmps85 ?_;dsimp only[Tmp,TypeId,ax];refine aA (ah ?_);refine aA (ah ?_);refine b8 (ah ?_);refine aj ?_;refine aX ?_;simp -dsimp only[simprocAttr,↓aa,zp,h0];refine ah ?_;refine cE rfl ?_;refine aX ?_;simp -dsimp only[simprocAttr,↓aa,zp,h1];refine ah ?_;refine cE rfl ?_;refine aX ?_;simp -dsimp only[simprocAttr,↓aa,zp,h2];refine ah ?_;refine cS rfl ?_;refine dc (ah ?_);cases hA:decide ((t.to.length:Int)=2)<;>cases hB:decide (t.arg=0)<;>cases hC:decide (t.n=0)<;>cases hD:decide ((t.cases.length:Int)=0)
 all_goals
  refine aX ?_;simp -dsimp only[simprocAttr,↓aa,zp,hA,hB,hC,hD];refine ah ?_;refine aq ?_;simp -dsimp only[simprocAttr,↓aa,zp,zr,Try.results85,Bool.true_or,Bool.false_or,Bool.or_true,Bool.or_false,Bool.true_and,Bool.false_and,Bool.and_true,Bool.and_false]
theorem CK(t:Term)(hk:t.kind=3)(eJ:t.cases.length<=2 ^ 60):bw Try.prog 85 [t.enc] (.v (.bool (eG t))):=by
 have he:eX t=(t.cases.length:Int)+1:=by simp[eX,hk]
 have ha:ou t=true:=by simp[ou,hk]
 unfold eG;rw[he,ha];have h0:decide (t.kind=0)=false:=decide_eq_false (by omega);have h1:decide (t.kind=1)=false:=decide_eq_false (by omega);have h2:decide (t.kind=2)=false:=decide_eq_false (by omega);have h3:decide (t.kind=3)=true:=decide_eq_true hk;have h4:decide (t.kind=4)=false:=decide_eq_false (by omega);have gQ:decide (0<=t.kind)=true:=decide_eq_true (by omega);have mH:decide (t.kind<=4)=true:=decide_eq_true (by omega);rw[gQ,mH,h3,h4];refine zf true 0 Try.func85 Try.ntmps85 ?_;dsimp only[Tmp,TypeId,ax];refine aA (ah ?_);refine aA (ah ?_);refine b8 (ah ?_);refine aj ?_;refine aX ?_;simp -dsimp only[simprocAttr,↓aa,zp,h0];refine ah ?_;refine cE rfl ?_;refine aX ?_;simp -dsimp only[simprocAttr,↓aa,zp,h1];refine ah ?_;refine cE rfl ?_;refine aX ?_;simp -dsimp only[simprocAttr,↓aa,zp,h2];refine ah ?_;refine cE rfl ?_;refine aX ?_;simp -dsimp only[simprocAttr,↓aa,zp,h3];refine ah ?_;refine cS rfl ?_;refine dc ?_
 repeat(refine⟨by omega,?_⟩)
 refine ah ?_;cases hA:decide ((t.to.length:Int)=(t.cases.length:Int)+1)<;>cases hB:decide (t.arg=0)<;>cases hC:decide (t.n=0)<;>cases hD:decide ((t.cases.length:Int)=0)
 all_goals
  refine aX ?_;simp -dsimp only[simprocAttr,↓aa,zp,hA,hB,hC,hD];refine ah ?_;refine aq ?_;simp -dsimp only[simprocAttr,↓aa,zp,zr,Try.results85,Bool.true_or,Bool.false_or,Bool.or_true,Bool.or_false,Bool.true_and,Bool.false_and,Bool.and_true,Bool.and_false]
theorem CL(t:Term)(hk:t.kind=4)(eJ:t.cases.length<=2 ^ 60):bw Try.prog 85 [t.enc] (.v (.bool (eG t))):=by
 have he:eX t=0:=by simp[eX,hk]
 have ha:ou t=false:=by simp[ou,hk]
 unfold eG;rw[he,ha];have h0:decide (t.kind=0)=false:=decide_eq_false (by omega);have h1:decide (t.kind=1)=false:=decide_eq_false (by omega);have h2:decide (t.kind=2)=false:=decide_eq_false (by omega);have h3:decide (t.kind=3)=false:=decide_eq_false (by omega);have h4:decide (t.kind=4)=true:=decide_eq_true hk;have gQ:decide (0<=t.kind)=true:=decide_eq_true (by omega);have mH:decide (t.kind<=4)=true:=decide_eq_true (by omega);rw[gQ,mH,h3,h4];refine zf true 0 Try.func85 Try.ntmps85 ?_;dsimp only[Tmp,TypeId,ax];refine aA (ah ?_);refine aA (ah ?_);refine b8 (ah ?_);refine aj ?_;refine aX ?_;simp -dsimp only[simprocAttr,↓aa,zp,h0];refine ah ?_;refine cE rfl ?_;refine aX ?_;simp -dsimp only[simprocAttr,↓aa,zp,h1];refine ah ?_;refine cE rfl ?_;refine aX ?_;simp -dsimp only[simprocAttr,↓aa,zp,h2];refine ah ?_;refine cE rfl ?_;refine aX ?_;simp -dsimp only[simprocAttr,↓aa,zp,h3];refine ah ?_;refine cE rfl ?_;refine aX ?_;simp -dsimp only[simprocAttr,↓aa,zp,h4];refine ah ?_;refine cS rfl ?_;refine dc (ah ?_);cases hA:decide ((t.to.length:Int)=0)<;>cases hB:decide (t.arg=0)<;>cases hC:decide (t.n=0)<;>cases hD:decide ((t.cases.length:Int)=0)
 all_goals
  refine aX ?_;simp -dsimp only[simprocAttr,↓aa,zp,hA,hB,hC,hD];refine ah ?_;refine aq ?_;simp -dsimp only[simprocAttr,↓aa,zp,zr,Try.results85,Bool.true_or,Bool.false_or,Bool.or_true,Bool.or_false,Bool.true_and,Bool.false_and,Bool.and_true,Bool.and_false]
theorem va(t:Term)(hk:¬(0<=t.kind∧t.kind<=4)):bw Try.prog 85 [t.enc] (.v (.bool (eG t))):=by
 have hr:eG t=false:=by
  unfold eG;have:(decide (0<=t.kind)&&decide (t.kind<=4))=false:=by
   by_cases h0:0<=t.kind<;>by_cases h4:t.kind<=4<;>simp[h0,h4]<;>omega
  rw[this];rfl
 rw[hr];have h0:decide (t.kind=0)=false:=decide_eq_false (by omega);have h1:decide (t.kind=1)=false:=decide_eq_false (by omega);have h2:decide (t.kind=2)=false:=decide_eq_false (by omega);have h3:decide (t.kind=3)=false:=decide_eq_false (by omega);have h4:decide (t.kind=4)=false:=decide_eq_false (by omega);refine zf true 0 Try.func85 Try.ntmps85 ?_;dsimp only[Tmp,TypeId,ax];refine aA (ah ?_);refine aA (ah ?_);refine b8 (ah ?_);refine aj ?_;refine aX ?_;simp -dsimp only[simprocAttr,↓aa,zp,h0];refine ah ?_;refine cE rfl ?_;refine aX ?_;simp -dsimp only[simprocAttr,↓aa,zp,h1];refine ah ?_;refine cE rfl ?_;refine aX ?_;simp -dsimp only[simprocAttr,↓aa,zp,h2];refine ah ?_;refine cE rfl ?_;refine aX ?_;simp -dsimp only[simprocAttr,↓aa,zp,h3];refine ah ?_;refine cE rfl ?_;refine aX ?_;simp -dsimp only[simprocAttr,↓aa,zp,h4];refine ah ?_;refine cE rfl ?_;refine aA (ah ?_);refine aq ?_;simp -dsimp only[simprocAttr,↓aa,zp,zr,Try.results85]
theorem w8(t:Term)(eJ:t.cases.length<=2 ^ 60):bw Try.prog 85 [t.enc] (.v (.bool (eG t))):=by
 by_cases hk:0<=t.kind∧t.kind<=4
 ·rcases(show t.kind=0∨t.kind=1∨t.kind=2∨t.kind=3∨t.kind=4 by omega)with h|h|h|h|h
  ·exact CH t h eJ
  ·exact CI t h eJ
  ·exact CJ t h eJ
  ·exact CK t h eJ
  exact CL t h eJ
 exact va t hk
def uv(l:List Int)(n:Int):Bool:=decide (l.findIdx (· == n)<l.length)
theorem mN(l:List Int)(n:Int):bw Try.prog 67 [a6 l,aI n] (.v (.bool (uv l n))):=by
 have Bx:=qA l n;have hd:decide (0<=rD l n)=uv l n:=by
  unfold rD uv;by_cases h:l.findIdx (· == n)<l.length
  ·rw[if_pos h];simp[h]
  rw[if_neg h];simp[h]
 generalize rD l n=r at *;refine zf true 0 Try.func67 Try.ntmps67 ?_;dsimp only[Tmp,TypeId,ax];refine aA (ah ?_);refine aA ?_;refine .inl ⟨_,Bx,by simp only[aw,ae.upto,zt,zu,az],au ?_⟩;simp -dsimp only[simprocAttr,↓aa,zp,hd];refine ah ?_;refine aq ?_;simp -dsimp only[simprocAttr,↓aa,zp,zr,Try.results67]
theorem rf{u:bR}{m:Mach}{O:List ak}(bC:∀o∈O,o.upto O.length)(h0:O[2]?=some (.cells (aC u m)))(size fill:SV)(hs:SV.bh O.length size)(hf:SV.bh O.length fill)(h1:0<=m.left)(h2:m.left<=2 ^ 40)(lF:m.short=false)
  (cj:∀x,((m.bt size fill).2.1).arr≠some x) :
  bc Try.prog 123 O [.mp 2 0,size.enc,fill.enc] (fun r O'=>r=.df [(m.bt size fill).2.1.enc,aI (m.bt size fill).2.2]∧O'=O.set 2 (.cells (aC u (m.bt size fill).1))):=by
 have gw:O.set 2 (.cells (aC u m))=O:=by
  obtain⟨aZ,e⟩:=List.getElem?_eq_some_iff.1 h0;rw[<-e,List.set_getElem_self]
 by_cases hk:size.kind=0
 ·by_cases hn:size.n<0∨1024<size.n
  ·have hd:decide (size.kind=0)=true:=decide_eq_true hk;rcases(show size.n<0∨(¬size.n<0∧1024<size.n) by omega)with nR|⟨nR,r9⟩
   ·have nN:decide (size.n<0)=true:=decide_eq_true nR;refine zf true O.length Try.func123 Try.ntmps123 ?_;dsimp only[Tmp,TypeId,ax];refine aA (ah ?_);refine aK (aj ?_);refine aX ?_;simp -dsimp only[simprocAttr,↓aa,zp,hd];refine ah ?_;refine cE rfl ?_;refine aX ?_;simp -dsimp only[simprocAttr,↓aa,zp,nN];refine ah ?_;refine cS rfl ?_;refine aA (ah ?_);refine aq ?_;simp -dsimp only[simprocAttr,↓aa,zp,zr,Try.results123,cB];refine⟨bC,fw,?_⟩;simp[Mach.bt,hk,hn,gw]
   have nN:decide (size.n<0)=false:=decide_eq_false nR;have mv:decide (1024<size.n)=true:=decide_eq_true r9;refine zf true O.length Try.func123 Try.ntmps123 ?_;dsimp only[Tmp,TypeId,ax];refine aA (ah ?_);refine aK (aj ?_);refine aX ?_;simp -dsimp only[simprocAttr,↓aa,zp,hd];refine ah ?_;refine cE rfl ?_;refine aX ?_;simp -dsimp only[simprocAttr,↓aa,zp,nN,mv];refine ah ?_;refine cS rfl ?_;refine aA (ah ?_);refine aq ?_;simp -dsimp only[simprocAttr,↓aa,zp,zr,Try.results123,cB];refine⟨bC,fw,?_⟩;simp[Mach.bt,hk,hn,gw]
  have hd:decide (size.kind=0)=true:=decide_eq_true hk;have nN:decide (size.n<0)=false:=decide_eq_false (by omega);have mv:decide (1024<size.n)=false:=decide_eq_false (by omega);by_cases hp:m.left<size.n
  ·have iy:(m.cR size.n).short=true:=by simp[Mach.cR,hp]
   have rC:=bc.frame (qE bC h0 size.n h1 h2 (by omega)) (by simp) ⟨I h0,trivial,trivial⟩ bC;have ya:=dA h0 (.cells (aC u (m.cR size.n)));have eL:=bq bC h0 (ds:=aC u (m.cR size.n)) (fun h=>b9 h (mA m size.n));obtain⟨O1,dW⟩:∃O1,O1=O.set 2 (.cells (aC u (m.cR size.n))):=⟨_,rfl⟩
   have hlen:O.length=O1.length:=by rw[dW];simp
   have eg:(m.bt size fill)=(m.cR size.n,.zero,0):=by simp[Mach.bt,hk,hn,iy]
   rw[eg];simp only[<-dW]at rC ya eL ⊢;have v5:∀X,(O1++X)[2]?=some (.cells (aC u (m.cR size.n))):=fun X=>bJ ya;unfold aC at v5;rw[iy]at v5;rw[hlen]at eL;refine zf true O.length Try.func123 Try.ntmps123 ?_;dsimp only[Tmp,TypeId,ax];refine aA (ah ?_);refine aK (aj ?_);refine aX ?_;simp -dsimp only[simprocAttr,↓aa,zp,hd];refine ah ?_;refine cE rfl ?_;refine aX ?_;simp -dsimp only[simprocAttr,↓aa,zp,nN,mv];refine ah ?_;refine cE rfl ?_;refine jR ?_;refine aA ?_;refine .inr (.inl ⟨_,_,rC _,.inl (au (zj ?_))⟩);refine ah ?_;refine dd ?_;simp -dsimp only[simprocAttr,↓aa,zp,v5];refine ah ?_;refine cS rfl ?_;refine aX ?_;simp -dsimp only[simprocAttr,↓aa,zp,hlen];refine ah ?_;refine aq ?_;simp -dsimp only[simprocAttr,↓aa,zp,zr,Try.results123,cB,hlen];exact⟨eL,fw⟩
  exfalso;have iy:(m.cR size.n).short=false:=by simp[Mach.cR,hp,lF]
  refine cj (m.next+8) ?_;simp[Mach.bt,hk,hn,iy,SV.arr]
 have hd:decide (size.kind=0)=false:=decide_eq_false hk;refine zf true O.length Try.func123 Try.ntmps123 ?_;dsimp only[Tmp,TypeId,ax];refine aA (ah ?_);refine aK (aj ?_);refine aX ?_;simp -dsimp only[simprocAttr,↓aa,zp,hd];refine ah ?_;refine cS rfl ?_;refine aA (ah ?_);refine aq ?_;simp -dsimp only[simprocAttr,↓aa,zp,zr,Try.results123,cB];refine⟨bC,fw,?_⟩;simp[Mach.bt,hk,gw]
theorem mE{O X:List ak}{k:Nat}:(O++X).take (O.length+k)=O++X.take k:=by
 rw[List.take_append,List.take_of_length_le (by omega),Nat.add_sub_cancel_left]
def pB(v:SV)(n k:Nat):List ae:=List.replicate k v.enc++List.replicate (n-k) (.agg [aI 0,aI 0,.aE 4 [] .ex,.v (.pointer none)])
theorem uZ{v:SV}{n k:Nat}(h:k<=n):(pB v n k).length=n:=by
 simp[pB];omega
theorem qH{v:SV}{n k:Nat}:∀x∈pB v n k,x.cells.length=4:=fun x hx=>by
 simp only[pB,List.mem_append,List.mem_replicate]at hx;rcases hx with⟨_,rfl⟩|⟨_,rfl⟩
 ·exact v.dj
 rfl
theorem yA(v:SV)(n:Nat):ao (pB v n 0)=(List.replicate n [aI 0,aI 0,.aE 4 [] .ex,.v (.pointer none)]).flatten:=by
 simp[pB,ao,List.flatMap,ae.cells]
theorem yz{v:SV}{n k:Nat}(h:k<n):(pB v n k).set k v.enc=pB v n (k+1):=by
 obtain⟨j,hj⟩:∃j,n-k=j+1:=⟨n-k-1,by omega⟩
 unfold pB;rw[hj,show n-(k+1)=j by omega,List.set_append_right _ _ (by simp),List.replicate_succ' (n:=k)];simp[List.replicate_succ]
theorem AG(v:SV)(n:Nat):pB v n n=(List.replicate n v).map SV.enc:=by simp[pB]
theorem tO{u:bR}{m:Mach}{O:List ak}(bC:∀o∈O,o.upto O.length)(h0:O[2]?=some (.cells (aC u m)))(size fill:SV)(hs:SV.bh O.length size)(hf:SV.bh O.length fill)(h1:0<=m.left)(h2:m.left<=2 ^ 40)(lF:m.short=false)
  (hk:size.kind=0) (nR:0<=size.n) (r9:size.n<=1024) (hp:size.n<=m.left) :
  bc Try.prog 123 O [.mp 2 0,size.enc,fill.enc] (fun r O'=>r=.df [.agg [aI 3,aI 0,.aE 4 [] .sh,.mp (O.length+4) 0],aI 0]∧O'=O.set 2 (.cells (aC u (m.cR size.n))) ++
   [.gone,.gone,.cells [aI 3,aI 0,.aE 4 [] .ex,.mp (O.length+4) 0],.cells (ao ((List.replicate size.n.toNat fill).map SV.enc)),.cells [.ms (O.length+3) 0 size.n.toNat size.n.toNat]]):=by
 have hd:decide (size.kind=0)=true:=decide_eq_true hk;have nN:decide (size.n<0)=false:=decide_eq_false (by omega);have mv:decide (1024<size.n)=false:=decide_eq_false (by omega);have iy:(m.cR size.n).short=false:=by simp[Mach.cR,lF,show ¬m.left<size.n by omega]
 have rC:=bc.frame (qE bC h0 size.n h1 h2 (by omega)) (by simp) ⟨I h0,trivial,trivial⟩ bC;have ya:=dA h0 (.cells (aC u (m.cR size.n)));have eL:=bq bC h0 (ds:=aC u (m.cR size.n)) (fun h=>b9 h (mA m size.n));obtain⟨O1,dW⟩:∃O1,O1=O.set 2 (.cells (aC u (m.cR size.n))):=⟨_,rfl⟩
 have hlen:O.length=O1.length:=by rw[dW];simp
 simp only[<-dW]at rC ya eL ⊢;have v5:∀X,(O1++X)[2]?=some (.cells (aC u (m.cR size.n))):=fun X=>bJ ya;unfold aC at v5;rw[iy]at v5;rw[hlen]at eL;obtain⟨n,hn⟩:∃n:Nat,size.n=n:=⟨size.n.toNat,by omega⟩
 refine zf true (O.length+5) Try.func123 Try.ntmps123 ?_;dsimp only[Tmp,TypeId,ax];refine aA (ah ?_);refine bY 4 0 ([aI size.kind,aI size.n,.aE 4 (size.list.map SV.enc) .sh,eP size.arr]) rfl rfl (by simp only[List.map_cons,List.map_nil,cT,cg,dJ,dK,dI,dG,dH,cx]) ?_;simp -dsimp only[simprocAttr,↓aa,zp];refine bY 5 1 ([aI fill.kind,aI fill.n,.aE 4 (fill.list.map SV.enc) .sh,eP fill.arr]) rfl rfl (by simp only[List.map_cons,List.map_nil,cT,cg,dJ,dK,dI,dG,dH,cx]) ?_;simp -dsimp only[simprocAttr,↓aa,zp];refine aK (aj ?_);refine aX ?_;simp -dsimp only[simprocAttr,↓aa,zp,hd];refine ah ?_;apply aP rfl<;>intro h
 ·cases h
 refine aX ?_;simp -dsimp only[simprocAttr,↓aa,zp,nN,mv];refine ah ?_;apply aP rfl<;>intro h
 ·cases h
 refine jR ?_;refine aA ?_;refine .inr (.inl ⟨_,_,rC _,.inl (au (zj ?_))⟩);refine ah ?_;refine dd ?_;simp -dsimp only[simprocAttr,↓aa,zp,v5];refine ah ?_;apply aP rfl<;>intro h
 ·cases h
 refine cA ?_;refine aX ?_;simp -dsimp only[simprocAttr,↓aa,zp,hlen,hn]
 repeat(refine⟨by omega,?_⟩)
 refine ah ?_;refine dd ?_;simp -dsimp only[simprocAttr,↓aa,zp,hlen,hn];refine ah ?_;refine aj (aU (ι:={j:Nat // j<=n}) (fun j=>⟨48,[(5,.ip none [aI fill.kind,aI fill.n,.aE 4 (fill.list.map SV.enc) .sh,eP fill.arr]),(6,.mp (O1.length+2) 0),(7,aI 0),(8,.mp (O1.length+4) 0),(38,aI n),(39,aI j.1)],O1++[.gone,.gone,.cells [aI 0,aI 0,.aE 4 [] .ex,.v (.pointer none)],.cells (ao (pB fill n j.1)),.cells [.ms (O1.length+3) 0 n n]]⟩) (fun j=>n-j.1) ⟨0,by omega⟩ ?_ ?_)
 ·refine zq rfl ?_ ?_;simp -dsimp only[simprocAttr,↓aa,zp,zc];rw[yA]
 rintro⟨j,hj⟩;refine aA (ah ?_);apply gW rfl<;>intro h
 ·refine cA ?_;have aZ:j<n:=by simpa using h
  have dp:=bO (qH (v:=fill) (n:=n) (k:=j));rw[uZ hj]at dp;have gw:=kZ (qH (v:=fill) (n:=n) (k:=j)) (k:=j) (by rw[uZ hj];exact aZ) fill.dj;rw[yz aZ,SV.al]at gw;refine aK (aj ?_);refine aA (ah ?_);refine j1 ?_;simp -dsimp only[simprocAttr,↓aa,zp,dp,gw]
  repeat(refine⟨by omega,?_⟩)
  refine ah ?_;refine dc ?_
  repeat(refine⟨by omega,?_⟩)
  refine fV ?_;refine⟨⟨j+1,aZ⟩,by simp;omega,?_⟩;refine zq rfl ?_ ?_;simp -dsimp only[simprocAttr,↓aa,zp,zc]
  ·exact Sub.int (by simp)
  rfl
 refine aR ?_;simp -dsimp only[bX,ne_eq,Nat.reduceEqDiff,reduceCtorEq];have oH:j=n:=by simp at h;omega
 subst oH;refine aA (ah ?_);refine aq ?_;simp -dsimp only[simprocAttr,↓aa,zp,zr,Try.results123,hlen];have JB:size.n.toNat=j:=by omega
 have jZ:∀v∈List.replicate j fill,SV.bh (O1.length+5) v:=fun v hv=>by
  rw[(List.mem_replicate.1 hv).2];exact hf.mono (by omega)
 rw[mE,JB,AG];refine⟨fun o ho=>?_,by simp[aw,ae.upto],rfl⟩;rcases List.mem_append.1 ho with ho|ho
 ·exact ak.cu (by omega) (eL o ho)
 have hc:=SV.ir jZ;simp only[List.take_succ_cons,List.take_zero,List.mem_cons,List.mem_nil_iff,or_false]at ho;rcases ho with rfl|rfl|rfl|rfl|rfl
 ·trivial
 ·trivial
 ·simp[ak.upto,aw,ae.upto]
 ·exact hc
 simp[ak.upto,aw,ae.upto]
theorem jN{O X:List ak}{k:Nat}{x y:ak}(h:O[k]?=some x):(O++X).set k y=O.set k y++X:=by
 rw[List.set_append_left _ _ (I h)]
theorem kG{O:List ak}{k:Nat}{x:ak}(h:O[k]?=some x):O.set k x=O:=by
 obtain⟨aZ,e⟩:=List.getElem?_eq_some_iff.1 h;rw[<-e,List.set_getElem_self]
theorem sG{u:bR}{m:Mach}{O:List ak}(bC:∀o∈O,o.upto O.length)(h0:O[2]?=some (.cells (aC u m)))(yi:O[3]?=some (.spare m.out.length))(i:bE)(args:List SV)(hl:∀v∈args,SV.bh O.length v)
  (iT:i.op=15) (x:SV) (hx:args[0]?=some x) (ho:m.out.length<=1000) :
  bc Try.prog 100 O [.mp 2 0,i.enc,.aE 4 (args.map SV.enc) .sh] (fun r O'=>r=.df [(m.effect i args).2.1.enc,aI (m.effect i args).2.2]∧O'=(O.set 3 (.spare (m.effect i args).1.out.length)).set 2 (.cells (aC u (m.effect i args).1))):=by
 have qj:=fF hx;have jF:decide (i.op=15)=true:=decide_eq_true iT;have fo:(O.set 3 (.spare m.out.length)).set 2 (.cells (aC u m))=O:=by rw[kG yi,kG h0]
 have xv:∀X,(O++X)[2]?=some (.cells (aC u m)):=fun X=>bJ h0;have Ge:∀X,(O++X)[3]?=some (.spare m.out.length):=fun X=>bJ yi;unfold aC at xv;by_cases hk:x.kind=0
 ·have hd:decide (x.kind=0)=true:=decide_eq_true hk;by_cases hf:m.out.length=1000
  ·have zY:decide ((m.out.length:Int)=1000)=true:=decide_eq_true (by omega);have eg:m.effect i args=(m,.zero,6):=by simp[Mach.effect,iT,qj,hk,hf]
   rw[eg];refine zf true O.length Try.func100 Try.ntmps100 ?_;dsimp only[Tmp,TypeId,ax];refine aA (ah ?_);refine bY 4 0 ([aI i.to,aI i.op,aI i.n,a6 i.args]) rfl rfl (by rfl) ?_;simp -dsimp only[simprocAttr,↓aa,zp];refine dd ?_;simp -dsimp only[simprocAttr,↓aa,zp,jF];refine ah ?_;refine aj ?_;refine aX ?_;simp -dsimp only[simprocAttr,↓aa,zp,jF];refine ah ?_;refine cS rfl ?_;refine dd ?_;simp -dsimp only[simprocAttr,↓aa,zp,hx,hd];refine ah ?_;refine cE rfl ?_;refine cA ?_;refine dd ?_;simp -dsimp only[simprocAttr,↓aa,zp,xv,zY];refine ah ?_;refine cS rfl ?_;refine aA (ah ?_);refine aq ?_;simp -dsimp only[simprocAttr,↓aa,zp,zr,Try.results100,cB,fo];exact⟨bC,fw⟩
  have zY:decide ((m.out.length:Int)=1000)=false:=decide_eq_false (by omega);have eg:m.effect i args=({ m with out:=m.out++[x.n] },.word 0,0):=by simp[Mach.effect,iT,qj,hk,hf]
  rw[eg];obtain⟨m',fm⟩:∃m',m' = { m with out:=m.out++[x.n] }:=⟨_,rfl⟩
  have Aj:=bx (k:=2) (j:=3) (y:=.spare (m.out.length+1)) h0 (by omega);have hp:[a9 u.fns,aI u.main,.os m.sid m.frames.length 1,aI m.left,.v (.bool m.short),.v (.bool m.over),.aE 1 (m.out.map aI++[aI x.n]) (.tok 3),aI m.fin,aI m.val]=aC u m':=by
   rw[fm];simp[aC]
  obtain⟨O2,rY⟩:∃O2,O2=(O.set 3 (.spare (m.out.length+1))).set 2 (.cells (aC u m')):=⟨_,rfl⟩
  have hlen:O.length=O2.length:=by rw[rY];simp
  have fY:∀o∈O2,o.upto O2.length:=by
   rw[<-hlen,rY];exact bq (bF bC trivial) Aj (fun h=>b9 h (by rw[fm]))
  have e1:∀X,(O++X).set 3 (.spare (m.out.length+1))=O.set 3 (.spare (m.out.length+1))++X:=fun X=>jN yi;have e2:∀X y,(O.set 3 (.spare (m.out.length+1))++X).set 2 y=(O.set 3 (.spare (m.out.length+1))).set 2 y++X:=fun X y=>jN Aj;have e3:∀X,(O.set 3 (.spare (m.out.length+1))++X)[2]?=some (.cells (aC u m)):=fun X=>bJ Aj;unfold aC at e3;have uF:m'.out.length=m.out.length+1:=by rw[fm];simp
  rw[<-fm];simp only[uF,<-rY];refine zf true O.length Try.func100 Try.ntmps100 ?_;dsimp only[Tmp,TypeId,ax];refine aA (ah ?_);refine bY 4 0 ([aI i.to,aI i.op,aI i.n,a6 i.args]) rfl rfl (by rfl) ?_;simp -dsimp only[simprocAttr,↓aa,zp];refine dd ?_;simp -dsimp only[simprocAttr,↓aa,zp,jF];refine ah ?_;refine aj ?_;refine aX ?_;simp -dsimp only[simprocAttr,↓aa,zp,jF];refine ah ?_;refine cS rfl ?_;refine dd ?_;simp -dsimp only[simprocAttr,↓aa,zp,hx,hd];refine ah ?_;refine cE rfl ?_;refine cA ?_;refine dd ?_;simp -dsimp only[simprocAttr,↓aa,zp,xv,zY];refine ah ?_;refine cE rfl ?_;refine cA ?_;refine aX ?_;simp -dsimp only[simprocAttr,↓aa,zp,xv,hx,Ge,e1,e2,e3,hp,<-rY]
  repeat(refine⟨by omega,?_⟩)
  refine⟨ob (by kernel_rfl),?_⟩;refine ah ?_;refine aX ?_;simp -dsimp only[simprocAttr,↓aa,zp,hlen];refine .inl ⟨_,c9 0,by simp only[aw,ae.upto,zt,zu,az],au ?_⟩;simp -dsimp only[simprocAttr,↓aa,zp,dw];refine ah ?_;refine aq ?_;simp -dsimp only[simprocAttr,↓aa,zp,zr,Try.results100,eW,hlen];exact⟨fY,ke⟩
 have hd:decide (x.kind=0)=false:=decide_eq_false hk;have eg:m.effect i args=(m,.zero,5):=by simp[Mach.effect,iT,qj,hk]
 rw[eg];refine zf true O.length Try.func100 Try.ntmps100 ?_;dsimp only[Tmp,TypeId,ax];refine aA (ah ?_);refine bY 4 0 ([aI i.to,aI i.op,aI i.n,a6 i.args]) rfl rfl (by rfl) ?_;simp -dsimp only[simprocAttr,↓aa,zp];refine dd ?_;simp -dsimp only[simprocAttr,↓aa,zp,jF];refine ah ?_;refine aj ?_;refine aX ?_;simp -dsimp only[simprocAttr,↓aa,zp,jF];refine ah ?_;refine cS rfl ?_;refine dd ?_;simp -dsimp only[simprocAttr,↓aa,zp,hx,hd];refine ah ?_;refine cS rfl ?_;refine aA (ah ?_);refine aq ?_;simp -dsimp only[simprocAttr,↓aa,zp,zr,Try.results100,cB,fo];exact⟨bC,fw⟩
theorem ue{u:bR}{m:Mach}{O:List ak}(bC:∀o∈O,o.upto O.length)(h0:O[2]?=some (.cells (aC u m)))(i:bE)(size fill:SV)(hs:SV.bh O.length size)(hf:SV.bh O.length fill)
  (iT:i.op=16) (h1:0<=m.left) (h2:m.left<=2 ^ 40) (lF:m.short=false) (cj:∀x,((m.bt size fill).2.1).arr≠some x) :
  bc Try.prog 100 O [.mp 2 0,i.enc,.aE 4 [size.enc,fill.enc] .sh] (fun r O'=>r=.df [(m.bt size fill).2.1.enc,aI (m.bt size fill).2.2]∧O'=O.set 2 (.cells (aC u (m.bt size fill).1))):=by
 have jF:decide (i.op=15)=false:=decide_eq_false (by omega);have mG:decide (i.op=16)=true:=decide_eq_true (by omega);have dZ:=bc.frame (rf bC h0 size fill hs hf h1 h2 lF cj) (by simp) ⟨I h0,hs.aN,hf.aN,trivial⟩ bC;have H8:(m.bt size fill).1.sid=m.sid:=by
  unfold Mach.bt
  repeat' split
  all_goals first|rfl|exact mA _ _
 have eL:=bq bC h0 (ds:=aC u (m.bt size fill).1) (fun h=>b9 h H8);have m8:SV.bh O.length (m.bt size fill).2.1:=by
  have:∀r:Mach×SV×Int,r=m.bt size fill->r.2.1=SV.zero∨∃x,r.2.1.arr=some x:=fun r hr=>by
   subst hr;unfold Mach.bt
   repeat' split
   all_goals first|exact .inl rfl|exact .inr ⟨_,rfl⟩
  rcases this _ rfl with e|⟨x,e⟩
  ·rw[e];exact nh _
  exact absurd e (cj x)
 generalize m.bt size fill=R at *;obtain⟨O1,dW⟩:∃O1,O1=O.set 2 (.cells (aC u R.1)):=⟨_,rfl⟩
 have hlen:O.length=O1.length:=by rw[dW];simp
 simp only[<-dW]at dZ eL ⊢;rw[hlen]at eL m8;refine zf true O.length Try.func100 Try.ntmps100 ?_;dsimp only[Tmp,TypeId,ax];refine aA (ah ?_);refine bY 4 0 ([aI i.to,aI i.op,aI i.n,a6 i.args]) rfl rfl (by rfl) ?_;simp -dsimp only[simprocAttr,↓aa,zp];refine b8 (ah ?_);refine aj ?_;refine aX ?_;simp -dsimp only[simprocAttr,↓aa,zp,jF];refine ah ?_;refine cE rfl ?_;refine aX ?_;simp -dsimp only[simprocAttr,↓aa,zp,mG];refine ah ?_;refine cS rfl ?_;refine aA ?_;refine .inr (.inl ⟨_,_,dZ _,.inl (au ?_)⟩);simp -dsimp only[simprocAttr,↓aa,zp,hlen];refine⟨ob (by kernel_rfl),?_⟩;refine ah ?_;refine aq ?_;simp -dsimp only[simprocAttr,↓aa,zp,zr,Try.results100,hlen];exact⟨eL,qG m8⟩
theorem x6{u:bR}{m:Mach}{O:List ak}(bC:∀o∈O,o.upto O.length)(h0:O[2]?=some (.cells (aC u m)))(i:bE)(size fill:SV)(hs:SV.bh O.length size)(hf:SV.bh O.length fill)
  (iT:i.op=16) (h1:0<=m.left) (h2:m.left<=2 ^ 40) (lF:m.short=false) (hk:size.kind=0) (nR:0<=size.n) (r9:size.n<=1024) (hp:size.n<=m.left) :
  bc Try.prog 100 O [.mp 2 0,i.enc,.aE 4 [size.enc,fill.enc] .sh] (fun r O'=>r=.df [.agg [aI 3,aI 0,.aE 4 [] .sh,.mp (O.length+6) 0],aI 0]∧O'=O.set 2 (.cells (aC u (m.cR size.n))) ++
   [.gone,.cells [aI 3,aI 0,.aE 4 [] .sh,.mp (O.length+6) 0],.gone,.gone,.cells [aI 3,aI 0,.aE 4 [] .ex,.mp (O.length+6) 0],.cells (ao ((List.replicate size.n.toNat fill).map SV.enc)),.cells [.ms (O.length+5) 0 size.n.toNat size.n.toNat]]):=by
 have jF:decide (i.op=15)=false:=decide_eq_false (by omega);have mG:decide (i.op=16)=true:=decide_eq_true (by omega);have uK:∀o∈O++[.gone,.cells [aI 0,aI 0,.aE 4 [] .ex,.v (.pointer none)]],o.upto (O++[ak.gone,.cells [aI 0,aI 0,.aE 4 [] .ex,.v (.pointer none)]]).length:=fun o ho=>by
  rcases List.mem_append.1 ho with ho|ho
  ·exact ak.cu (by simp) (bC o ho)
  simp only[List.mem_cons,List.mem_nil_iff,or_false]at ho;rcases ho with rfl|rfl
  ·trivial
  simp[ak.upto,aw,ae.upto]
 have HW:(O++[ak.gone,.cells [aI 0,aI 0,.aE 4 [] .ex,.v (.pointer none)]]).length=O.length+2:=by simp
 have dZ:=tO uK (bJ h0) size fill (hs.mono (by simp)) (hf.mono (by simp)) h1 h2 lF hk nR r9 hp;have ya:=dA h0 (.cells (aC u (m.cR size.n)));have eL:=bq bC h0 (ds:=aC u (m.cR size.n)) (fun h=>b9 h (mA m size.n));rw[jN h0,HW]at dZ;obtain⟨O1,dW⟩:∃O1,O1=O.set 2 (.cells (aC u (m.cR size.n))):=⟨_,rfl⟩
 have hlen:O.length=O1.length:=by rw[dW];simp
 simp only[<-dW]at dZ eL ⊢;rw[hlen]at eL;have jZ:∀v∈List.replicate size.n.toNat fill,SV.bh (O1.length+7) v:=fun v hv=>by
  rw[(List.mem_replicate.1 hv).2];exact hf.mono (by omega)
 have hc:=SV.ir jZ;generalize dp:ao ((List.replicate size.n.toNat fill).map SV.enc)=row at *;refine zf true (O.length+7) Try.func100 Try.ntmps100 ?_;dsimp only[Tmp,TypeId,ax];refine aA (ah ?_);refine bY 4 0 ([aI i.to,aI i.op,aI i.n,a6 i.args]) rfl rfl (by rfl) ?_;simp -dsimp only[simprocAttr,↓aa,zp];refine b8 (ah ?_);refine aj ?_;refine aX ?_;simp -dsimp only[simprocAttr,↓aa,zp,jF];refine ah ?_;refine cE rfl ?_;refine aX ?_;simp -dsimp only[simprocAttr,↓aa,zp,mG];refine ah ?_;refine cS rfl ?_;refine aA ?_;refine .inr (.inl ⟨_,_,dZ,.inl (au ?_)⟩);simp -dsimp only[simprocAttr,↓aa,zp,hlen];refine⟨ob (by kernel_rfl),?_⟩;refine ah ?_;refine aq ?_;simp -dsimp only[simprocAttr,↓aa,zp,zr,Try.results100,hlen];rw[mE];refine⟨fun o ho=>?_,by simp[aw,ae.upto],rfl⟩;rcases List.mem_append.1 ho with ho|ho
 ·exact ak.cu (by omega) (eL o ho)
 simp only[List.take_succ_cons,List.take_zero,List.mem_cons,List.mem_nil_iff,or_false]at ho;rcases ho with rfl|rfl|rfl|rfl|rfl|rfl|rfl
 ·trivial
 ·simp[ak.upto,aw,ae.upto]
 ·trivial
 ·trivial
 ·simp[ak.upto,aw,ae.upto]
 ·exact hc
 simp[ak.upto,aw,ae.upto]
theorem sF{u:bR}{m:Mach}{O:List ak}(bC:∀o∈O,o.upto O.length)(i:bE)(x y:SV)(hx:SV.bh O.length x)(hy:SV.bh O.length y)(kB:2<O.length)
  (iT:i.op=18):bc Try.prog 100 O [.mp 2 0,i.enc,.aE 4 [x.enc,y.enc] .sh] (fun r O'=>r=.df [(m.effect i [x,y]).2.1.enc,aI (m.effect i [x,y]).2.2]∧O'=O):=by
 have hl:∀v∈[x,y],SV.bh O.length v:=fun v hv=>by
  simp only[List.mem_cons,List.mem_nil_iff,or_false]at hv;rcases hv with rfl|rfl
  ·exact hx
  exact hy
 have jF:decide (i.op=15)=false:=decide_eq_false (by omega);have mG:decide (i.op=16)=false:=decide_eq_false (by omega);have pw:decide (i.op=18)=true:=decide_eq_true (by omega);have cM:=sm bC [x,y] hl 0;have ha:ca [x,y] 0=x∧ca [x,y] 1=y:=⟨rfl,rfl⟩
 cases hk:jw [x,y] 0 with
 | false =>
  simp only[hk,List.map_cons,List.map_nil]at cM;refine zf true O.length Try.func100 Try.ntmps100 ?_;dsimp only[Tmp,TypeId,ax];refine aA (ah ?_);refine bY 4 0 ([aI i.to,aI i.op,aI i.n,a6 i.args]) rfl rfl (by rfl) ?_;simp -dsimp only[simprocAttr,↓aa,zp];refine b8 (ah ?_);refine aj ?_;refine aX ?_;simp -dsimp only[simprocAttr,↓aa,zp,jF];refine ah ?_;refine cE rfl ?_;refine aX ?_;simp -dsimp only[simprocAttr,↓aa,zp,mG];refine ah ?_;refine cE rfl ?_;refine aX ?_;simp -dsimp only[simprocAttr,↓aa,zp,pw];refine ah ?_;refine cS rfl ?_;refine b8 ?_;refine .inr (.inr ⟨_,cM _,au (zj ?_)⟩);refine ah ?_;refine cS rfl ?_;refine aA (ah ?_);refine aq ?_;simp -dsimp only[simprocAttr,↓aa,zp,zr,Try.results100,cB];refine⟨bC,fw,?_⟩;simp[Mach.effect,iT,hk]
 | true =>
  simp only[hk,List.map_cons,List.map_nil]at cM;by_cases hb:x.n<0∨y.n<=x.n
  ·have qn:decide (x.n<0)=true∨(decide (x.n<0)=false∧decide (y.n<=x.n)=true):=by
    by_cases h1:x.n<0
    ·exact .inl (decide_eq_true h1)
    exact .inr ⟨decide_eq_false h1,decide_eq_true (by omega)⟩
   rcases qn with qn|⟨qn,uw⟩
   ·refine zf true O.length Try.func100 Try.ntmps100 ?_;dsimp only[Tmp,TypeId,ax];refine aA (ah ?_);refine bY 4 0 ([aI i.to,aI i.op,aI i.n,a6 i.args]) rfl rfl (by rfl) ?_;simp -dsimp only[simprocAttr,↓aa,zp];refine b8 (ah ?_);refine aj ?_;refine aX ?_;simp -dsimp only[simprocAttr,↓aa,zp,jF];refine ah ?_;refine cE rfl ?_;refine aX ?_;simp -dsimp only[simprocAttr,↓aa,zp,mG];refine ah ?_;refine cE rfl ?_;refine aX ?_;simp -dsimp only[simprocAttr,↓aa,zp,pw];refine ah ?_;refine cS rfl ?_;refine b8 ?_;refine .inr (.inr ⟨_,cM _,au (zj ?_)⟩);refine ah ?_;refine cE rfl ?_;refine cA ?_;refine dd ?_;simp -dsimp only[simprocAttr,↓aa,zp,qn];refine⟨ob (by kernel_rfl),?_⟩;refine ah ?_;refine cS rfl ?_;refine aA (ah ?_);refine aq ?_;simp -dsimp only[simprocAttr,↓aa,zp,zr,Try.results100,cB];refine⟨bC,fw,?_⟩;simp[Mach.effect,iT,hk,ha,hb]
   refine zf true O.length Try.func100 Try.ntmps100 ?_;dsimp only[Tmp,TypeId,ax];refine aA (ah ?_);refine bY 4 0 ([aI i.to,aI i.op,aI i.n,a6 i.args]) rfl rfl (by rfl) ?_;simp -dsimp only[simprocAttr,↓aa,zp];refine b8 (ah ?_);refine aj ?_;refine aX ?_;simp -dsimp only[simprocAttr,↓aa,zp,jF];refine ah ?_;refine cE rfl ?_;refine aX ?_;simp -dsimp only[simprocAttr,↓aa,zp,mG];refine ah ?_;refine cE rfl ?_;refine aX ?_;simp -dsimp only[simprocAttr,↓aa,zp,pw];refine ah ?_;refine cS rfl ?_;refine b8 ?_;refine .inr (.inr ⟨_,cM _,au (zj ?_)⟩);refine ah ?_;refine cE rfl ?_;refine cA ?_;refine dd ?_;simp -dsimp only[simprocAttr,↓aa,zp,qn,uw];refine⟨ob (by kernel_rfl),?_⟩;refine ah ?_;refine cS rfl ?_;refine aA (ah ?_);refine aq ?_;simp -dsimp only[simprocAttr,↓aa,zp,zr,Try.results100,cB];refine⟨bC,fw,?_⟩;simp[Mach.effect,iT,hk,ha,hb]
  have qn:decide (x.n<0)=false:=decide_eq_false (by omega);have uw:decide (y.n<=x.n)=false:=decide_eq_false (by omega);refine zf true O.length Try.func100 Try.ntmps100 ?_;dsimp only[Tmp,TypeId,ax];refine aA (ah ?_);refine bY 4 0 ([aI i.to,aI i.op,aI i.n,a6 i.args]) rfl rfl (by rfl) ?_;simp -dsimp only[simprocAttr,↓aa,zp];refine b8 (ah ?_);refine aj ?_;refine aX ?_;simp -dsimp only[simprocAttr,↓aa,zp,jF];refine ah ?_;refine cE rfl ?_;refine aX ?_;simp -dsimp only[simprocAttr,↓aa,zp,mG];refine ah ?_;refine cE rfl ?_;refine aX ?_;simp -dsimp only[simprocAttr,↓aa,zp,pw];refine ah ?_;refine cS rfl ?_;refine b8 ?_;refine .inr (.inr ⟨_,cM _,au (zj ?_)⟩);refine ah ?_;refine cE rfl ?_;refine cA ?_;refine dd ?_;simp -dsimp only[simprocAttr,↓aa,zp,qn,uw];refine⟨ob (by kernel_rfl),?_⟩;refine ah ?_;refine cE rfl ?_;refine cA ?_;refine aA ?_;refine .inl ⟨_,c9 0,by simp only[aw,ae.upto,zt,zu,az],au ?_⟩;simp -dsimp only[simprocAttr,↓aa,zp,dw];refine ah ?_;refine aq ?_;simp -dsimp only[simprocAttr,↓aa,zp,zr,Try.results100,eW];refine⟨bC,ke,?_⟩;simp[Mach.effect,iT,hk,ha,hb]
def BC(m m':Mach)(a:Option Nat)(O O':List ak):Prop :=
 (O'=O∧m'=m)∨∃(kd bW k:Nat) (z:SV) (l:List SV),a=some kd∧O[kd]?=some (.cells [.ms bW 0 l.length l.length])∧O[bW]?=some (.cells (ao (l.map SV.enc)))∧k<l.length∧l=Mach.gR m.heap a∧SV.bh O.length z ∧
  O'=O.set bW (.cells (ao ((l.set k z).map SV.enc)))∧m' = { m with heap:=Mach.jf m.heap a (l.set k z) }
theorem vV{m:Mach}{O:List ak}(bC:∀o∈O,o.upto O.length)(i:bE)(args:List SV)(hl:∀v∈args,SV.bh O.length v)(x:SV)(hx:args[0]?=some x)
  (sJ:i.op≠15) (rX:i.op≠16) (tH:i.op≠18) (h1:i.op≠17->∃y,args[1]?=some y) (h2:i.op≠17->i.op≠19->∃z,args[2]?=some z)
  (hu:∀v∈Mach.gR m.heap x.arr,SV.bh O.length v) (ha:x.kind=3->∃kd bW,x.arr=some kd∧O[kd]?=some (.cells [.ms bW 0 (Mach.gR m.heap x.arr).length (Mach.gR m.heap x.arr).length])∧O[bW]?=some (.cells (ao ((Mach.gR m.heap x.arr).map SV.enc)))) :
  ∃O',bc Try.prog 100 O [.mp 2 0,i.enc,.aE 4 (args.map SV.enc) .sh] (fun r O1=>r=.df [(m.effect i args).2.1.enc,aI (m.effect i args).2.2]∧O1=O')∧BC m (m.effect i args).1 x.arr O O':=by
 have qj:=fF hx;have jF:decide (i.op=15)=false:=decide_eq_false (by omega);have mG:decide (i.op=16)=false:=decide_eq_false (by omega);have pw:decide (i.op=18)=false:=decide_eq_false (by omega);by_cases hk:x.kind=3
 ·have DM:decide (x.kind=3)=true:=decide_eq_true hk;obtain⟨kd,bW,e1,e2,e3⟩:=ha hk;have GC:eP x.arr=.mp kd 0:=by rw[e1];rfl
  have IF:=hu;generalize hL:Mach.gR m.heap x.arr=L at *;have Gb:∀X,(O++X)[kd]?=some (.cells [.ms bW 0 L.length L.length]):=fun X=>bJ e2;have IB:∀X,(O++X)[bW]?=some (.cells (ao (L.map SV.enc))):=fun X=>bJ e3;by_cases B5:i.op=17
  ·have pv:decide (i.op=17)=true:=decide_eq_true B5;have eg:m.effect i args=(m,.word L.length,0):=by simp[Mach.effect,B5,qj,hk,hL]
   rw[eg];refine⟨O,?_,.inl ⟨rfl,rfl⟩⟩;refine zf true O.length Try.func100 Try.ntmps100 ?_;dsimp only[Tmp,TypeId,ax];refine aA (ah ?_);refine bY 4 0 ([aI i.to,aI i.op,aI i.n,a6 i.args]) rfl rfl (by rfl) ?_;simp -dsimp only[simprocAttr,↓aa,zp];refine b8 (ah ?_);refine aj ?_;refine aX ?_;simp -dsimp only[simprocAttr,↓aa,zp,jF];refine ah ?_;refine cE rfl ?_;refine aX ?_;simp -dsimp only[simprocAttr,↓aa,zp,mG];refine ah ?_;refine cE rfl ?_;refine aX ?_;simp -dsimp only[simprocAttr,↓aa,zp,pw];refine ah ?_;refine cE rfl ?_;refine jR ?_;refine dd ?_;simp -dsimp only[simprocAttr,↓aa,zp,hx,DM,pv];refine ah ?_;refine cE rfl ?_;refine cA ?_;refine aX ?_;simp -dsimp only[simprocAttr,↓aa,zp,hx,GC,Gb];refine ah ?_;refine dd ?_;simp -dsimp only[simprocAttr,↓aa,zp,pv];refine ah ?_;refine cS rfl ?_;refine aA ?_;refine .inl ⟨_,c9 L.length,by simp only[aw,ae.upto,zt,zu,az],au ?_⟩;simp -dsimp only[simprocAttr,↓aa,zp,dw];refine ah ?_;refine aq ?_;simp -dsimp only[simprocAttr,↓aa,zp,zr,Try.results100,eW];exact⟨bC,ke⟩
  have pv:decide (i.op=17)=false:=decide_eq_false B5;obtain⟨y,hy⟩:=h1 B5;have FM:=fF hy;by_cases ym:y.kind=0
  ·have FV:decide (y.kind=0)=true:=decide_eq_true ym;by_cases hb:y.n<0∨(L.length:Int)<=y.n
   ·have eg:m.effect i args=(m,.zero,2):=by simp[Mach.effect,sJ,rX,tH,B5,qj,FM,hk,ym,hL,hb]
    rw[eg];refine⟨O,?_,.inl ⟨rfl,rfl⟩⟩;rcases(show y.n<0∨(¬y.n<0∧(L.length:Int)<=y.n) by omega)with Eu|⟨Eu,xw⟩
    ·have qn:decide (y.n<0)=true:=decide_eq_true Eu;refine zf true O.length Try.func100 Try.ntmps100 ?_;dsimp only[Tmp,TypeId,ax];refine aA (ah ?_);refine bY 4 0 ([aI i.to,aI i.op,aI i.n,a6 i.args]) rfl rfl (by rfl) ?_;simp -dsimp only[simprocAttr,↓aa,zp];refine b8 (ah ?_);refine aj ?_;refine aX ?_;simp -dsimp only[simprocAttr,↓aa,zp,jF];refine ah ?_;refine cE rfl ?_;refine aX ?_;simp -dsimp only[simprocAttr,↓aa,zp,mG];refine ah ?_;refine cE rfl ?_;refine aX ?_;simp -dsimp only[simprocAttr,↓aa,zp,pw];refine ah ?_;refine cE rfl ?_;refine jR ?_;refine dd ?_;simp -dsimp only[simprocAttr,↓aa,zp,hx,hy,DM,pv,FV];refine ah ?_;refine cE rfl ?_;refine cA ?_;refine aX ?_;simp -dsimp only[simprocAttr,↓aa,zp,hx,GC,Gb];refine ah ?_;refine dd ?_;simp -dsimp only[simprocAttr,↓aa,zp,pv];refine ah ?_;refine cE rfl ?_;refine cA ?_;refine aX ?_;simp -dsimp only[simprocAttr,↓aa,zp,hy];refine ah ?_;refine dd ?_;simp -dsimp only[simprocAttr,↓aa,zp,qn];refine ah ?_;refine cS rfl ?_;refine aA (ah ?_);refine aq ?_;simp -dsimp only[simprocAttr,↓aa,zp,zr,Try.results100,cB];exact⟨bC,fw⟩
    have qn:decide (y.n<0)=false:=decide_eq_false Eu;have uw:decide ((L.length:Int)<=y.n)=true:=decide_eq_true xw;refine zf true O.length Try.func100 Try.ntmps100 ?_;dsimp only[Tmp,TypeId,ax];refine aA (ah ?_);refine bY 4 0 ([aI i.to,aI i.op,aI i.n,a6 i.args]) rfl rfl (by rfl) ?_;simp -dsimp only[simprocAttr,↓aa,zp];refine b8 (ah ?_);refine aj ?_;refine aX ?_;simp -dsimp only[simprocAttr,↓aa,zp,jF];refine ah ?_;refine cE rfl ?_;refine aX ?_;simp -dsimp only[simprocAttr,↓aa,zp,mG];refine ah ?_;refine cE rfl ?_;refine aX ?_;simp -dsimp only[simprocAttr,↓aa,zp,pw];refine ah ?_;refine cE rfl ?_;refine jR ?_;refine dd ?_;simp -dsimp only[simprocAttr,↓aa,zp,hx,hy,DM,pv,FV];refine ah ?_;refine cE rfl ?_;refine cA ?_;refine aX ?_;simp -dsimp only[simprocAttr,↓aa,zp,hx,GC,Gb];refine ah ?_;refine dd ?_;simp -dsimp only[simprocAttr,↓aa,zp,pv];refine ah ?_;refine cE rfl ?_;refine cA ?_;refine aX ?_;simp -dsimp only[simprocAttr,↓aa,zp,hy];refine ah ?_;refine dd ?_;simp -dsimp only[simprocAttr,↓aa,zp,qn,uw];refine ah ?_;refine cS rfl ?_;refine aA (ah ?_);refine aq ?_;simp -dsimp only[simprocAttr,↓aa,zp,zr,Try.results100,cB];exact⟨bC,fw⟩
   have qn:decide (y.n<0)=false:=decide_eq_false (by omega);have uw:decide ((L.length:Int)<=y.n)=false:=decide_eq_false (by omega);obtain⟨k,mw⟩:∃k:Nat,y.n=k:=⟨y.n.toNat,by omega⟩
   have m6:k<L.length:=by omega
   have dp:=SV.CE L;by_cases Gf:i.op=19
   ·have EA:decide (i.op=19)=true:=decide_eq_true Gf;obtain⟨z,hz⟩:∃z,L[k]?=some z:=⟨L[k],by simp[m6]⟩
    have Gm:=fF hz;have fS:=SV.xJ hz;have Cv:SV.bh O.length z:=IF z (List.mem_of_getElem? hz);have eg:m.effect i args=(m,z,0):=by simp[Mach.effect,B5,Gf,qj,FM,hk,ym,hL,hb,mw,Gm,m6]
    rw[eg];refine⟨O,?_,.inl ⟨rfl,rfl⟩⟩;refine zf true O.length Try.func100 Try.ntmps100 ?_;dsimp only[Tmp,TypeId,ax];refine aA (ah ?_);refine bY 4 0 ([aI i.to,aI i.op,aI i.n,a6 i.args]) rfl rfl (by rfl) ?_;simp -dsimp only[simprocAttr,↓aa,zp];refine b8 (ah ?_);refine aj ?_;refine aX ?_;simp -dsimp only[simprocAttr,↓aa,zp,jF];refine ah ?_;refine cE rfl ?_;refine aX ?_;simp -dsimp only[simprocAttr,↓aa,zp,mG];refine ah ?_;refine cE rfl ?_;refine aX ?_;simp -dsimp only[simprocAttr,↓aa,zp,pw];refine ah ?_;refine cE rfl ?_;refine jR ?_;refine dd ?_;simp -dsimp only[simprocAttr,↓aa,zp,hx,hy,DM,pv,FV];refine ah ?_;refine cE rfl ?_;refine cA ?_;refine aX ?_;simp -dsimp only[simprocAttr,↓aa,zp,hx,GC,Gb];refine ah ?_;refine dd ?_;simp -dsimp only[simprocAttr,↓aa,zp,pv];refine ah ?_;refine cE rfl ?_;refine cA ?_;refine aX ?_;simp -dsimp only[simprocAttr,↓aa,zp,hy];refine ah ?_;refine dd ?_;simp -dsimp only[simprocAttr,↓aa,zp,qn,uw];refine ah ?_;refine cE rfl ?_;refine cA ?_;refine dd ?_;simp -dsimp only[simprocAttr,↓aa,zp,EA];refine ah ?_;refine cS rfl ?_;refine aX ?_;simp -dsimp only[simprocAttr,↓aa,zp,mw,IB,dp,fS]
    repeat(refine⟨by omega,?_⟩)
    refine ah ?_;refine aq ?_;simp -dsimp only[simprocAttr,↓aa,zp,zr,Try.results100];exact⟨bC,qG Cv⟩
   have EA:decide (i.op=19)=false:=decide_eq_false Gf;obtain⟨z,hz⟩:=h2 B5 Gf;have Gm:=fF hz;have gw:=SV.CF m6 z;rw[SV.al]at gw;have Cv:SV.bh O.length z:=hl z (List.mem_of_getElem? hz);have eg:m.effect i args=({ m with heap:=Mach.jf m.heap x.arr (L.set k z) },.word 0,0):=by simp[Mach.effect,sJ,rX,tH,B5,Gf,qj,FM,hk,ym,hL,hb,mw,Gm,m6]
   rw[eg];obtain⟨O1,dW⟩:∃O1,O1=O.set bW (.cells (ao ((L.set k z).map SV.enc))):=⟨_,rfl⟩
   have hlen:O.length=O1.length:=by rw[dW];simp
   have eL:∀o∈O1,o.upto O1.length:=by
    rw[<-hlen,dW];refine bF bC (SV.ir fun v hv=>?_);rcases List.mem_or_eq_of_mem_set hv with q|q
    ·exact IF v q
    exact q ▸ Cv
   have yi:∀X y,(O++X).set bW y=O.set bW y++X:=fun X y=>jN e3;refine⟨O1,?_,.inr ⟨kd,bW,k,z,L,e1,e2,e3,m6,hL.symm,Cv,dW,rfl⟩⟩;refine zf true O.length Try.func100 Try.ntmps100 ?_;dsimp only[Tmp,TypeId,ax];refine aA (ah ?_);refine bY 4 0 ([aI i.to,aI i.op,aI i.n,a6 i.args]) rfl rfl (by rfl) ?_;simp -dsimp only[simprocAttr,↓aa,zp];refine b8 (ah ?_);refine aj ?_;refine aX ?_;simp -dsimp only[simprocAttr,↓aa,zp,jF];refine ah ?_;refine cE rfl ?_;refine aX ?_;simp -dsimp only[simprocAttr,↓aa,zp,mG];refine ah ?_;refine cE rfl ?_;refine aX ?_;simp -dsimp only[simprocAttr,↓aa,zp,pw];refine ah ?_;refine cE rfl ?_;refine jR ?_;refine dd ?_;simp -dsimp only[simprocAttr,↓aa,zp,hx,hy,DM,pv,FV];refine ah ?_;refine cE rfl ?_;refine cA ?_;refine aX ?_;simp -dsimp only[simprocAttr,↓aa,zp,hx,GC,Gb];refine ah ?_;refine dd ?_;simp -dsimp only[simprocAttr,↓aa,zp,pv];refine ah ?_;refine cE rfl ?_;refine cA ?_;refine aX ?_;simp -dsimp only[simprocAttr,↓aa,zp,hy];refine ah ?_;refine dd ?_;simp -dsimp only[simprocAttr,↓aa,zp,qn,uw];refine ah ?_;refine cE rfl ?_;refine cA ?_;refine dd ?_;simp -dsimp only[simprocAttr,↓aa,zp,EA];refine ah ?_;refine cE rfl ?_;refine cA ?_;refine aX ?_;simp -dsimp only[simprocAttr,↓aa,zp,mw,hz,IB,dp,SV.dj,gw,yi,<-dW]
   repeat(refine⟨by omega,?_⟩)
   refine ah ?_;refine aX ?_;simp -dsimp only[simprocAttr,↓aa,zp,hlen];refine .inl ⟨_,c9 0,by simp only[aw,ae.upto,zt,zu,az],au ?_⟩;simp -dsimp only[simprocAttr,↓aa,zp,dw];refine ah ?_;refine aq ?_;simp -dsimp only[simprocAttr,↓aa,zp,zr,Try.results100,eW,hlen];exact⟨eL,ke⟩
  have FV:decide (y.kind=0)=false:=decide_eq_false ym;have eg:m.effect i args=(m,.zero,5):=by simp[Mach.effect,sJ,rX,tH,B5,qj,FM,hk,ym]
  rw[eg];refine⟨O,?_,.inl ⟨rfl,rfl⟩⟩;refine zf true O.length Try.func100 Try.ntmps100 ?_;dsimp only[Tmp,TypeId,ax];refine aA (ah ?_);refine bY 4 0 ([aI i.to,aI i.op,aI i.n,a6 i.args]) rfl rfl (by rfl) ?_;simp -dsimp only[simprocAttr,↓aa,zp];refine b8 (ah ?_);refine aj ?_;refine aX ?_;simp -dsimp only[simprocAttr,↓aa,zp,jF];refine ah ?_;refine cE rfl ?_;refine aX ?_;simp -dsimp only[simprocAttr,↓aa,zp,mG];refine ah ?_;refine cE rfl ?_;refine aX ?_;simp -dsimp only[simprocAttr,↓aa,zp,pw];refine ah ?_;refine cE rfl ?_;refine jR ?_;refine dd ?_;simp -dsimp only[simprocAttr,↓aa,zp,hx,hy,DM,pv,FV];refine ah ?_;refine cS rfl ?_;refine aA (ah ?_);refine aq ?_;simp -dsimp only[simprocAttr,↓aa,zp,zr,Try.results100,cB];exact⟨bC,fw⟩
 have DM:decide (x.kind=3)=false:=decide_eq_false hk;have eg:m.effect i args=(m,.zero,5):=by simp[Mach.effect,sJ,rX,tH,qj,hk]
 rw[eg];refine⟨O,?_,.inl ⟨rfl,rfl⟩⟩;refine zf true O.length Try.func100 Try.ntmps100 ?_;dsimp only[Tmp,TypeId,ax];refine aA (ah ?_);refine bY 4 0 ([aI i.to,aI i.op,aI i.n,a6 i.args]) rfl rfl (by rfl) ?_;simp -dsimp only[simprocAttr,↓aa,zp];refine b8 (ah ?_);refine aj ?_;refine aX ?_;simp -dsimp only[simprocAttr,↓aa,zp,jF];refine ah ?_;refine cE rfl ?_;refine aX ?_;simp -dsimp only[simprocAttr,↓aa,zp,mG];refine ah ?_;refine cE rfl ?_;refine aX ?_;simp -dsimp only[simprocAttr,↓aa,zp,pw];refine ah ?_;refine cE rfl ?_;refine jR ?_;refine dd ?_;simp -dsimp only[simprocAttr,↓aa,zp,hx,DM];refine ah ?_;refine cS rfl ?_;refine aA (ah ?_);refine aq ?_;simp -dsimp only[simprocAttr,↓aa,zp,zr,Try.results100,cB];exact⟨bC,fw⟩
theorem zN{u:bR}{m:Mach}{O:List ak}(bC:∀o∈O,o.upto O.length)(i:bE)(args:List SV)(hl:∀v∈args,SV.bh O.length v)(iT:i.op=0):bc Try.prog 75 O [.mp 2 0,i.enc,.aE 4 (args.map SV.enc) .sh] (fun r O'=>r=.df [(m.exec i args).2.1.enc,aI (m.exec i args).2.2]∧O'=O):=by
 refine zf true O.length Try.func75 Try.ntmps75 ?_;dsimp only[Tmp,TypeId,ax];refine aA (ah ?_);refine bY 4 0 ([aI i.to,aI i.op,aI i.n,a6 i.args]) rfl rfl (by rfl) ?_;simp -dsimp only[simprocAttr,↓aa,zp];refine b8 (ah ?_);refine aj ?_;refine aA (ah ?_);apply aP rfl<;>intro h
 ·refine aA ?_;refine .inl ⟨_,c9 i.n,by simp only[aw,ae.upto,zt,zu,az],au ?_⟩;simp -dsimp only[simprocAttr,↓aa,zp,dw];refine ah ?_;refine aq ?_;simp -dsimp only[simprocAttr,↓aa,zp,zr,Try.results75,eW];refine⟨bC,ke,?_⟩;simp[Mach.exec,iT]
 exact af h (by omega)
theorem vY{u:bR}{m:Mach}{O:List ak}(bC:∀o∈O,o.upto O.length)(i:bE)(args:List SV)(hl:∀v∈args,SV.bh O.length v)(iT:1<=i.op∧i.op<=7)(x y:SV)(hx:args[0]?=some x)(hy:args[1]?=some y)(Ie:x.kind=0->fp x.n)(Ig:y.kind=0->fp y.n):bc Try.prog 75 O [.mp 2 0,i.enc,.aE 4 (args.map SV.enc) .sh] (fun r O'=>r=.df [(m.exec i args).2.1.enc,aI (m.exec i args).2.2]∧O'=O):=by
 have qj:=fF hx;have FM:=fF hy;have cM:=sm bC args hl 0;have h0:i.op≠0:=by omega
 cases hk:jw args 0 with
 | false =>
  rw[hk]at cM;refine zf true O.length Try.func75 Try.ntmps75 ?_;dsimp only[Tmp,TypeId,ax];refine aA (ah ?_);refine bY 4 0 ([aI i.to,aI i.op,aI i.n,a6 i.args]) rfl rfl (by rfl) ?_;simp -dsimp only[simprocAttr,↓aa,zp];refine b8 (ah ?_);refine aj ?_;refine aA (ah ?_);apply aP rfl<;>intro h
  ·exact ab h (by omega)
  refine b8 (ah ?_);refine iN (⟨82,[(0,.mp 2 0),(2,.aE 4 (args.map SV.enc) .sh),(4,.ip none [aI i.to,aI i.op,aI i.n,a6 i.args]),(6,.mp (O.length+1) 0),(7,aI 0),(9,aI i.op),(15,.v (.bool true))],O++[.gone,.cells [aI 0,aI 0,.aE 4 [] .ex,.v (.pointer none)]]⟩) ?_ ?_
  ·apply aP rfl<;>intro h
   ·refine a8 ?_;show bg _ _;refine zq rfl ?_ ?_;simp -dsimp only[simprocAttr,↓aa,zp,zc]
    ·exact Sub.of_eq (by rw[h])
    rfl
   refine aA (ah ?_);apply aP rfl<;>intro h
   ·refine a8 ?_;show bg _ _;refine zq rfl ?_ ?_;simp -dsimp only[simprocAttr,↓aa,zp,zc]
    ·exact Sub.of_eq (by rw[h])
    rfl
   refine aA (ah ?_);apply aP rfl<;>intro h
   ·refine a8 ?_;show bg _ _;refine zq rfl ?_ ?_;simp -dsimp only[simprocAttr,↓aa,zp,zc]
    ·exact Sub.of_eq (by rw[h])
    rfl
   refine aA (ah ?_);apply aP rfl<;>intro h
   ·refine a8 ?_;show bg _ _;refine zq rfl ?_ ?_;simp -dsimp only[simprocAttr,↓aa,zp,zc]
    ·exact Sub.of_eq (by rw[h])
    rfl
   refine aA (ah ?_);apply aP rfl<;>intro h
   ·refine a8 ?_;show bg _ _;refine zq rfl ?_ ?_;simp -dsimp only[simprocAttr,↓aa,zp,zc]
    ·exact Sub.of_eq (by rw[h])
    rfl
   refine aA (ah ?_);apply aP rfl<;>intro h
   ·refine a8 ?_;show bg _ _;refine zq rfl ?_ ?_;simp -dsimp only[simprocAttr,↓aa,zp,zc]
    ·exact Sub.of_eq (by rw[h])
    rfl
   refine dc ?_;refine bd ?_;show bg _ _;refine zq rfl ?_ ?_;simp -dsimp only[simprocAttr,↓aa,zp,zc]
   ·exact Sub.of_eq (by rw[decide_eq_true (show i.op=7 by simp only[decide_eq_false_iff_not]at *;omega)])
   rfl
  refine cS rfl ?_;refine b8 ?_;refine .inr (.inr ⟨_,cM _,au (zj ?_)⟩);refine ah ?_;refine cS rfl ?_;refine aA (ah ?_);refine aq ?_;simp -dsimp only[simprocAttr,↓aa,zp,zr,Try.results75,cB];refine⟨bC,fw,?_⟩;simp[Mach.exec,iT,h0,hk]
 | true =>
  rw[hk]at cM;have JE:x.kind=0:=by
   simp only[jw,List.all_eq_true,decide_eq_true_eq]at hk;exact hk x (List.mem_of_getElem? hx)
  have JF:y.kind=0:=by
   simp only[jw,List.all_eq_true,decide_eq_true_eq]at hk;exact hk y (List.mem_of_getElem? hy)
  have HI:=oT i.op x.n y.n (Ie JE) (Ig JF);have Gr:=mL O.length i.op x.n y.n;have eg:m.exec i args=(m,dk i.op x.n y.n):=by simp[Mach.exec,iT,h0,hk,qj,FM]
  rw[eg];generalize dk i.op x.n y.n=B at *;refine zf true O.length Try.func75 Try.ntmps75 ?_;dsimp only[Tmp,TypeId,ax];refine aA (ah ?_);refine bY 4 0 ([aI i.to,aI i.op,aI i.n,a6 i.args]) rfl rfl (by rfl) ?_;simp -dsimp only[simprocAttr,↓aa,zp];refine b8 (ah ?_);refine aj ?_;refine aA (ah ?_);apply aP rfl<;>intro h
  ·exact ab h (by omega)
  refine b8 (ah ?_);refine iN (⟨82,[(0,.mp 2 0),(2,.aE 4 (args.map SV.enc) .sh),(4,.ip none [aI i.to,aI i.op,aI i.n,a6 i.args]),(6,.mp (O.length+1) 0),(7,aI 0),(9,aI i.op),(15,.v (.bool true))],O++[.gone,.cells [aI 0,aI 0,.aE 4 [] .ex,.v (.pointer none)]]⟩) ?_ ?_
  ·apply aP rfl<;>intro h
   ·refine a8 ?_;show bg _ _;refine zq rfl ?_ ?_;simp -dsimp only[simprocAttr,↓aa,zp,zc]
    ·exact Sub.of_eq (by rw[h])
    rfl
   refine aA (ah ?_);apply aP rfl<;>intro h
   ·refine a8 ?_;show bg _ _;refine zq rfl ?_ ?_;simp -dsimp only[simprocAttr,↓aa,zp,zc]
    ·exact Sub.of_eq (by rw[h])
    rfl
   refine aA (ah ?_);apply aP rfl<;>intro h
   ·refine a8 ?_;show bg _ _;refine zq rfl ?_ ?_;simp -dsimp only[simprocAttr,↓aa,zp,zc]
    ·exact Sub.of_eq (by rw[h])
    rfl
   refine aA (ah ?_);apply aP rfl<;>intro h
   ·refine a8 ?_;show bg _ _;refine zq rfl ?_ ?_;simp -dsimp only[simprocAttr,↓aa,zp,zc]
    ·exact Sub.of_eq (by rw[h])
    rfl
   refine aA (ah ?_);apply aP rfl<;>intro h
   ·refine a8 ?_;show bg _ _;refine zq rfl ?_ ?_;simp -dsimp only[simprocAttr,↓aa,zp,zc]
    ·exact Sub.of_eq (by rw[h])
    rfl
   refine aA (ah ?_);apply aP rfl<;>intro h
   ·refine a8 ?_;show bg _ _;refine zq rfl ?_ ?_;simp -dsimp only[simprocAttr,↓aa,zp,zc]
    ·exact Sub.of_eq (by rw[h])
    rfl
   refine dc ?_;refine bd ?_;show bg _ _;refine zq rfl ?_ ?_;simp -dsimp only[simprocAttr,↓aa,zp,zc]
   ·exact Sub.of_eq (by rw[decide_eq_true (show i.op=7 by simp only[decide_eq_false_iff_not]at *;omega)])
   rfl
  refine cS rfl ?_;refine b8 ?_;refine .inr (.inr ⟨_,cM _,au (zj ?_)⟩);refine ah ?_;refine cE rfl ?_;refine cA ?_;refine aX ?_;simp -dsimp only[simprocAttr,↓aa,zp,hx,hy];refine zi HI ?_;refine⟨ob (by kernel_rfl),?_⟩;refine ah ?_;refine aq ?_;simp -dsimp only[simprocAttr,↓aa,zp,zr,Try.results75];exact⟨bC,qG Gr⟩
theorem zM{u:bR}{m:Mach}{O:List ak}(bC:∀o∈O,o.upto O.length)(i:bE)(args:List SV)(hl:∀v∈args,SV.bh O.length v)(iT:i.op=8):bc Try.prog 75 O [.mp 2 0,i.enc,.aE 4 (args.map SV.enc) .sh] (fun r O'=>r=.df [(m.exec i args).2.1.enc,aI (m.exec i args).2.2]∧O'=O):=by
 have hz:=(SV.bh.mk (k:=1) (m:=i.n) (a:=none) (by simp) hl).aN;rw[SV.iu]at hz;refine zf true O.length Try.func75 Try.ntmps75 ?_;dsimp only[Tmp,TypeId,ax];refine aA (ah ?_);refine bY 4 0 ([aI i.to,aI i.op,aI i.n,a6 i.args]) rfl rfl (by rfl) ?_;simp -dsimp only[simprocAttr,↓aa,zp];refine b8 (ah ?_);refine aj ?_;refine aA (ah ?_);apply aP rfl<;>intro h
 ·exact ab h (by omega)
 refine b8 (ah ?_);apply aP rfl<;>intro h
 ·exact ab h (by omega)
 refine aA (ah ?_);apply aP rfl<;>intro h
 ·exact ab h (by omega)
 refine aA (ah ?_);apply aP rfl<;>intro h
 ·exact ab h (by omega)
 refine aA (ah ?_);apply aP rfl<;>intro h
 ·exact ab h (by omega)
 refine aA (ah ?_);apply aP rfl<;>intro h
 ·exact ab h (by omega)
 refine aA (ah ?_);apply aP rfl<;>intro h
 ·exact ab h (by omega)
 refine dc (ah ?_);apply aP rfl<;>intro h
 ·exact ab h (by omega)
 refine aA (ah ?_);apply aP rfl<;>intro h
 ·refine aA (ah ?_);refine aq ?_;simp -dsimp only[simprocAttr,↓aa,zp,zr,Try.results75];refine⟨bC,⟨hz,trivial,trivial⟩,?_⟩;simp[Mach.exec,iT,SV.iu,eP]
 exact af h (by omega)
theorem x7{u:bR}{m:Mach}{O:List ak}(bC:∀o∈O,o.upto O.length)(i:bE)(args:List SV)(hl:∀v∈args,SV.bh O.length v)(iT:i.op=9):bc Try.prog 75 O [.mp 2 0,i.enc,.aE 4 (args.map SV.enc) .sh] (fun r O'=>r=.df [(m.exec i args).2.1.enc,aI (m.exec i args).2.2]∧O'=O):=by
 have hz:=(SV.bh.mk (k:=2) (m:=i.n) (a:=none) (by simp) hl).aN;rw[SV.iu]at hz;refine zf true O.length Try.func75 Try.ntmps75 ?_;dsimp only[Tmp,TypeId,ax];refine aA (ah ?_);refine bY 4 0 ([aI i.to,aI i.op,aI i.n,a6 i.args]) rfl rfl (by rfl) ?_;simp -dsimp only[simprocAttr,↓aa,zp];refine b8 (ah ?_);refine aj ?_;refine aA (ah ?_);apply aP rfl<;>intro h
 ·exact ab h (by omega)
 refine b8 (ah ?_);apply aP rfl<;>intro h
 ·exact ab h (by omega)
 refine aA (ah ?_);apply aP rfl<;>intro h
 ·exact ab h (by omega)
 refine aA (ah ?_);apply aP rfl<;>intro h
 ·exact ab h (by omega)
 refine aA (ah ?_);apply aP rfl<;>intro h
 ·exact ab h (by omega)
 refine aA (ah ?_);apply aP rfl<;>intro h
 ·exact ab h (by omega)
 refine aA (ah ?_);apply aP rfl<;>intro h
 ·exact ab h (by omega)
 refine dc (ah ?_);apply aP rfl<;>intro h
 ·exact ab h (by omega)
 refine aA (ah ?_);apply aP rfl<;>intro h
 ·exact ab h (by omega)
 refine aA (ah ?_);apply aP rfl<;>intro h
 ·refine aA (ah ?_);refine aq ?_;simp -dsimp only[simprocAttr,↓aa,zp,zr,Try.results75];refine⟨bC,⟨hz,trivial,trivial⟩,?_⟩;simp[Mach.exec,iT,SV.iu,eP]
 exact af h (by omega)
theorem zO{u:bR}{m:Mach}{O:List ak}(bC:∀o∈O,o.upto O.length)(i:bE)(args:List SV)(hl:∀v∈args,SV.bh O.length v)(iT:i.op=10∨i.op=11∨i.op=12∨i.op=21)(hC:bc Try.prog 98 O [i.enc,.aE 4 (args.map SV.enc) .sh] (fun r O'=>r=.df [(c8 i args).1.enc,aI (c8 i args).2]∧O'=O))(hR:SV.bh O.length (c8 i args).1):bc Try.prog 75 O [.mp 2 0,i.enc,.aE 4 (args.map SV.enc) .sh] (fun r O'=>r=.df [(m.exec i args).2.1.enc,aI (m.exec i args).2.2]∧O'=O):=by
 have dZ:=bc.frame hC rfl ⟨i.aN _,⟨SV.ai hl,trivial⟩,trivial⟩ bC;have eg:m.exec i args=(m,c8 i args):=by
  unfold Mach.exec;rw[if_neg (by omega),if_neg (by omega),if_neg (by omega),if_neg (by omega),if_pos iT]
 rw[eg];generalize c8 i args=B at *;refine zf true O.length Try.func75 Try.ntmps75 ?_;dsimp only[Tmp,TypeId,ax];refine aA (ah ?_);refine bY 4 0 ([aI i.to,aI i.op,aI i.n,a6 i.args]) rfl rfl (by rfl) ?_;simp -dsimp only[simprocAttr,↓aa,zp];refine b8 (ah ?_);refine aj ?_;refine aA (ah ?_);apply aP rfl<;>intro h
 ·exact ab h (by omega)
 refine b8 (ah ?_);apply aP rfl<;>intro h
 ·exact ab h (by omega)
 refine aA (ah ?_);apply aP rfl<;>intro h
 ·exact ab h (by omega)
 refine aA (ah ?_);apply aP rfl<;>intro h
 ·exact ab h (by omega)
 refine aA (ah ?_);apply aP rfl<;>intro h
 ·exact ab h (by omega)
 refine aA (ah ?_);apply aP rfl<;>intro h
 ·exact ab h (by omega)
 refine aA (ah ?_);apply aP rfl<;>intro h
 ·exact ab h (by omega)
 refine dc (ah ?_);apply aP rfl<;>intro h
 ·exact ab h (by omega)
 refine aA (ah ?_);apply aP rfl<;>intro h
 ·exact ab h (by omega)
 refine aA (ah ?_);apply aP rfl<;>intro h
 ·exact ab h (by omega)
 refine b8 (ah ?_);refine iN (⟨82,[(0,.mp 2 0),(2,.aE 4 (args.map SV.enc) .sh),(4,.ip none [aI i.to,aI i.op,aI i.n,a6 i.args]),(6,.mp (O.length+1) 0),(7,aI 0),(9,aI i.op),(52,.v (.bool true))],O++[.gone,.cells [aI 0,aI 0,.aE 4 [] .ex,.v (.pointer none)]]⟩) ?_ ?_
 ·apply aP rfl<;>intro h
  ·refine a8 ?_;show bg _ _;refine zq rfl ?_ ?_;simp -dsimp only[simprocAttr,↓aa,zp,zc]
   ·exact Sub.of_eq (by rw[h])
   rfl
  refine aA (ah ?_);apply aP rfl<;>intro h
  ·refine a8 ?_;show bg _ _;refine zq rfl ?_ ?_;simp -dsimp only[simprocAttr,↓aa,zp,zc]
   ·exact Sub.of_eq (by rw[h])
   rfl
  refine aA (ah ?_);apply aP rfl<;>intro h
  ·refine a8 ?_;show bg _ _;refine zq rfl ?_ ?_;simp -dsimp only[simprocAttr,↓aa,zp,zc]
   ·exact Sub.of_eq (by rw[h])
   rfl
  refine dc ?_;refine bd ?_;show bg _ _;refine zq rfl ?_ ?_;simp -dsimp only[simprocAttr,↓aa,zp,zc]
  ·exact Sub.of_eq (by rw[decide_eq_true (show i.op=21 by simp only[decide_eq_false_iff_not]at *;omega)])
  rfl
 refine cS rfl ?_;refine aA ?_;refine .inr (.inr ⟨_,dZ _,au (zj ?_)⟩);refine ah ?_;refine aq ?_;simp -dsimp only[simprocAttr,↓aa,zp,zr,Try.results75];exact⟨bC,qG hR⟩
theorem zP{u:bR}{m:Mach}{O:List ak}(bC:∀o∈O,o.upto O.length)(i:bE)(args:List SV)(hl:∀v∈args,SV.bh O.length v)(iT:i.op=22∨i.op=23∨i.op=24)(hC:bc Try.prog 99 O [i.enc,.aE 4 (args.map SV.enc) .sh] (fun r O'=>r=.df [(dn i args).1.enc,aI (dn i args).2]∧O'=O))(hR:SV.bh O.length (dn i args).1):bc Try.prog 75 O [.mp 2 0,i.enc,.aE 4 (args.map SV.enc) .sh] (fun r O'=>r=.df [(m.exec i args).2.1.enc,aI (m.exec i args).2.2]∧O'=O):=by
 have dZ:=bc.frame hC rfl ⟨i.aN _,⟨SV.ai hl,trivial⟩,trivial⟩ bC;have eg:m.exec i args=(m,dn i args):=by
  unfold Mach.exec;rw[if_neg (by omega),if_neg (by omega),if_neg (by omega),if_neg (by omega),if_neg (by omega),if_pos iT]
 rw[eg];generalize dn i args=B at *;refine zf true O.length Try.func75 Try.ntmps75 ?_;dsimp only[Tmp,TypeId,ax];refine aA (ah ?_);refine bY 4 0 ([aI i.to,aI i.op,aI i.n,a6 i.args]) rfl rfl (by rfl) ?_;simp -dsimp only[simprocAttr,↓aa,zp];refine b8 (ah ?_);refine aj ?_;refine aA (ah ?_);apply aP rfl<;>intro h
 ·exact ab h (by omega)
 refine b8 (ah ?_);apply aP rfl<;>intro h
 ·exact ab h (by omega)
 refine aA (ah ?_);apply aP rfl<;>intro h
 ·exact ab h (by omega)
 refine aA (ah ?_);apply aP rfl<;>intro h
 ·exact ab h (by omega)
 refine aA (ah ?_);apply aP rfl<;>intro h
 ·exact ab h (by omega)
 refine aA (ah ?_);apply aP rfl<;>intro h
 ·exact ab h (by omega)
 refine aA (ah ?_);apply aP rfl<;>intro h
 ·exact ab h (by omega)
 refine dc (ah ?_);apply aP rfl<;>intro h
 ·exact ab h (by omega)
 refine aA (ah ?_);apply aP rfl<;>intro h
 ·exact ab h (by omega)
 refine aA (ah ?_);apply aP rfl<;>intro h
 ·exact ab h (by omega)
 refine b8 (ah ?_);apply aP rfl<;>intro h
 ·exact ab h (by omega)
 refine aA (ah ?_);apply aP rfl<;>intro h
 ·exact ab h (by omega)
 refine aA (ah ?_);apply aP rfl<;>intro h
 ·exact ab h (by omega)
 refine dc (ah ?_);apply aP rfl<;>intro h
 ·exact ab h (by omega)
 refine b8 (ah ?_);refine iN (⟨82,[(0,.mp 2 0),(2,.aE 4 (args.map SV.enc) .sh),(4,.ip none [aI i.to,aI i.op,aI i.n,a6 i.args]),(6,.mp (O.length+1) 0),(7,aI 0),(9,aI i.op),(62,.v (.bool true))],O++[.gone,.cells [aI 0,aI 0,.aE 4 [] .ex,.v (.pointer none)]]⟩) ?_ ?_
 ·apply aP rfl<;>intro h
  ·refine a8 ?_;show bg _ _;refine zq rfl ?_ ?_;simp -dsimp only[simprocAttr,↓aa,zp,zc]
   ·exact Sub.of_eq (by rw[h])
   rfl
  refine aA (ah ?_);apply aP rfl<;>intro h
  ·refine a8 ?_;show bg _ _;refine zq rfl ?_ ?_;simp -dsimp only[simprocAttr,↓aa,zp,zc]
   ·exact Sub.of_eq (by rw[h])
   rfl
  refine dc ?_;refine bd ?_;show bg _ _;refine zq rfl ?_ ?_;simp -dsimp only[simprocAttr,↓aa,zp,zc]
  ·exact Sub.of_eq (by rw[decide_eq_true (show i.op=24 by simp only[decide_eq_false_iff_not]at *;omega)])
  rfl
 refine cS rfl ?_;refine aA ?_;refine .inr (.inr ⟨_,dZ _,au (zj ?_)⟩);refine ah ?_;refine aq ?_;simp -dsimp only[simprocAttr,↓aa,zp,zr,Try.results75];exact⟨bC,qG hR⟩
theorem x8{u:bR}{m:Mach}{O:List ak}(bC:∀o∈O,o.upto O.length)(i:bE)(args:List SV)(hl:∀v∈args,SV.bh O.length v)(iT:i.op=100)(x:SV)(hx:args[0]?=some x):bc Try.prog 75 O [.mp 2 0,i.enc,.aE 4 (args.map SV.enc) .sh] (fun r O'=>r=.df [(m.exec i args).2.1.enc,aI (m.exec i args).2.2]∧O'=O):=by
 have qj:=fF hx;have xD:=hl x (List.mem_of_getElem? hx);refine zf true O.length Try.func75 Try.ntmps75 ?_;dsimp only[Tmp,TypeId,ax];refine aA (ah ?_);refine bY 4 0 ([aI i.to,aI i.op,aI i.n,a6 i.args]) rfl rfl (by rfl) ?_;simp -dsimp only[simprocAttr,↓aa,zp];refine b8 (ah ?_);refine aj ?_;refine aA (ah ?_);apply aP rfl<;>intro h
 ·exact ab h (by omega)
 refine b8 (ah ?_);apply aP rfl<;>intro h
 ·exact ab h (by omega)
 refine aA (ah ?_);apply aP rfl<;>intro h
 ·exact ab h (by omega)
 refine aA (ah ?_);apply aP rfl<;>intro h
 ·exact ab h (by omega)
 refine aA (ah ?_);apply aP rfl<;>intro h
 ·exact ab h (by omega)
 refine aA (ah ?_);apply aP rfl<;>intro h
 ·exact ab h (by omega)
 refine aA (ah ?_);apply aP rfl<;>intro h
 ·exact ab h (by omega)
 refine dc (ah ?_);apply aP rfl<;>intro h
 ·exact ab h (by omega)
 refine aA (ah ?_);apply aP rfl<;>intro h
 ·exact ab h (by omega)
 refine aA (ah ?_);apply aP rfl<;>intro h
 ·exact ab h (by omega)
 refine b8 (ah ?_);apply aP rfl<;>intro h
 ·exact ab h (by omega)
 refine aA (ah ?_);apply aP rfl<;>intro h
 ·exact ab h (by omega)
 refine aA (ah ?_);apply aP rfl<;>intro h
 ·exact ab h (by omega)
 refine dc (ah ?_);apply aP rfl<;>intro h
 ·exact ab h (by omega)
 refine b8 (ah ?_);apply aP rfl<;>intro h
 ·exact ab h (by omega)
 refine aA (ah ?_);apply aP rfl<;>intro h
 ·exact ab h (by omega)
 refine dc (ah ?_);apply aP rfl<;>intro h
 ·exact ab h (by omega)
 refine aA (ah ?_);apply aP rfl<;>intro h
 ·refine aX ?_;simp -dsimp only[simprocAttr,↓aa,zp,hx];refine ah ?_;refine aq ?_;simp -dsimp only[simprocAttr,↓aa,zp,zr,Try.results75];refine⟨bC,qG xD,?_⟩;simp[Mach.exec,iT,qj]
 exact af h (by omega)
theorem uk(m:Mach)(i:bE)(args:List SV)(h0:i.op≠0)(h1:¬(1<=i.op∧i.op<=7))(h8:i.op≠8)(h9:i.op≠9)(rW:i.op≠10∧i.op≠11∧i.op≠12∧i.op≠21)(v7:i.op≠22∧i.op≠23∧i.op≠24)(gB:i.op≠100):m.exec i args=m.effect i args:=by
 unfold Mach.exec;rw[if_neg h0,if_neg h1,if_neg h8,if_neg h9,if_neg (by omega),if_neg (by omega),if_neg gB]
theorem lR{O O':List ak}(bC:∀o∈O,o.upto O.length)(i:bE)(args:List SV)(hl:∀v∈args,SV.bh O.length v)(h0:i.op≠0)(h1:¬(1<=i.op∧i.op<=7))(h8:i.op≠8)(h9:i.op≠9)(rW:i.op≠10∧i.op≠11∧i.op≠12∧i.op≠21)(v7:i.op≠22∧i.op≠23∧i.op≠24)(gB:i.op≠100)(kB:2<O.length)(v:SV)(t:Int)(hv:SV.bh O.length v)
  (hC:bc Try.prog 100 O [.mp 2 0,i.enc,.aE 4 (args.map SV.enc) .sh] (fun r O1=>r=.df [v.enc,aI t]∧O1=O')) (hlen:O.length=O'.length) (lG:∀o∈O',o.upto O'.length) :
  bc Try.prog 75 O [.mp 2 0,i.enc,.aE 4 (args.map SV.enc) .sh] (fun r O1=>r=.df [v.enc,aI t]∧O1=O'):=by
 have dZ:=bc.frame hC hlen.symm ⟨kB,i.aN _,⟨SV.ai hl,trivial⟩,trivial⟩ bC;rw[hlen]at hv;refine zf true O.length Try.func75 Try.ntmps75 ?_;dsimp only[Tmp,TypeId,ax];refine aA (ah ?_);refine bY 4 0 ([aI i.to,aI i.op,aI i.n,a6 i.args]) rfl rfl (by rfl) ?_;simp -dsimp only[simprocAttr,↓aa,zp];refine b8 (ah ?_);refine aj ?_;refine aA (ah ?_);apply aP rfl<;>intro h
 ·exact ab h (by omega)
 refine b8 (ah ?_);apply aP rfl<;>intro h
 ·exact ab h (by omega)
 refine aA (ah ?_);apply aP rfl<;>intro h
 ·exact ab h (by omega)
 refine aA (ah ?_);apply aP rfl<;>intro h
 ·exact ab h (by omega)
 refine aA (ah ?_);apply aP rfl<;>intro h
 ·exact ab h (by omega)
 refine aA (ah ?_);apply aP rfl<;>intro h
 ·exact ab h (by omega)
 refine aA (ah ?_);apply aP rfl<;>intro h
 ·exact ab h (by omega)
 refine dc (ah ?_);apply aP rfl<;>intro h
 ·exact ab h (by omega)
 refine aA (ah ?_);apply aP rfl<;>intro h
 ·exact ab h (by omega)
 refine aA (ah ?_);apply aP rfl<;>intro h
 ·exact ab h (by omega)
 refine b8 (ah ?_);apply aP rfl<;>intro h
 ·exact ab h (by omega)
 refine aA (ah ?_);apply aP rfl<;>intro h
 ·exact ab h (by omega)
 refine aA (ah ?_);apply aP rfl<;>intro h
 ·exact ab h (by omega)
 refine dc (ah ?_);apply aP rfl<;>intro h
 ·exact ab h (by omega)
 refine b8 (ah ?_);apply aP rfl<;>intro h
 ·exact ab h (by omega)
 refine aA (ah ?_);apply aP rfl<;>intro h
 ·exact ab h (by omega)
 refine dc (ah ?_);apply aP rfl<;>intro h
 ·exact ab h (by omega)
 refine aA (ah ?_);apply aP rfl<;>intro h
 ·exact ab h (by omega)
 refine jR ?_;refine aA ?_;refine .inr (.inl ⟨_,_,dZ _,.inl (au ?_)⟩);simp -dsimp only[simprocAttr,↓aa,zp,hlen];refine ah ?_;refine aq ?_;simp -dsimp only[simprocAttr,↓aa,zp,zr,Try.results75,hlen];exact⟨lG,qG hv⟩
theorem BX{u:bR}{m:Mach}{O:List ak}(bC:∀o∈O,o.upto O.length)(xv:O[2]?=some (.cells (aC u m)))(i:bE)(size fill:SV)(hs:SV.bh O.length size)(hf:SV.bh O.length fill)
  (iT:i.op=16) (Ge:0<=m.left) (h2:m.left<=2 ^ 40) (lF:m.short=false) (hk:size.kind=0) (nR:0<=size.n) (r9:size.n<=1024) (hp:size.n<=m.left) :
  bc Try.prog 75 O [.mp 2 0,i.enc,.aE 4 [size.enc,fill.enc] .sh] (fun r O'=>r=.df [.agg [aI 3,aI 0,.aE 4 [] .sh,.mp (O.length+8) 0],aI 0]∧O'=O.set 2 (.cells (aC u (m.cR size.n))) ++
   [.gone,.cells [aI 3,aI 0,.aE 4 [] .sh,.mp (O.length+8) 0],.gone,.cells [aI 3,aI 0,.aE 4 [] .sh,.mp (O.length+8) 0],.gone,.gone,.cells [aI 3,aI 0,.aE 4 [] .ex,.mp (O.length+8) 0],.cells (ao ((List.replicate size.n.toNat fill).map SV.enc)),.cells [.ms (O.length+7) 0 size.n.toNat size.n.toNat]]):=by
 have uK:∀o∈O++[.gone,.cells [aI 0,aI 0,.aE 4 [] .ex,.v (.pointer none)]],o.upto (O++[ak.gone,.cells [aI 0,aI 0,.aE 4 [] .ex,.v (.pointer none)]]).length:=fun o ho=>by
  rcases List.mem_append.1 ho with ho|ho
  ·exact ak.cu (by simp) (bC o ho)
  simp only[List.mem_cons,List.mem_nil_iff,or_false]at ho;rcases ho with rfl|rfl
  ·trivial
  simp[ak.upto,aw,ae.upto]
 have HW:(O++[ak.gone,.cells [aI 0,aI 0,.aE 4 [] .ex,.v (.pointer none)]]).length=O.length+2:=by simp
 have dZ:=x6 uK (bJ xv) i size fill (hs.mono (by simp)) (hf.mono (by simp)) iT Ge h2 lF hk nR r9 hp;have eL:=bq bC xv (ds:=aC u (m.cR size.n)) (fun h=>b9 h (mA m size.n));rw[jN xv,HW]at dZ;obtain⟨O1,dW⟩:∃O1,O1=O.set 2 (.cells (aC u (m.cR size.n))):=⟨_,rfl⟩
 have hlen:O.length=O1.length:=by rw[dW];simp
 simp only[<-dW]at dZ eL ⊢;rw[hlen]at eL;have jZ:∀v∈List.replicate size.n.toNat fill,SV.bh (O1.length+9) v:=fun v hv=>by
  rw[(List.mem_replicate.1 hv).2];exact hf.mono (by omega)
 have hc:=SV.ir jZ;have h0:i.op≠0:=by omega
 generalize dp:ao ((List.replicate size.n.toNat fill).map SV.enc)=row at *;refine zf true (O.length+9) Try.func75 Try.ntmps75 ?_;dsimp only[Tmp,TypeId,ax];refine aA (ah ?_);refine bY 4 0 ([aI i.to,aI i.op,aI i.n,a6 i.args]) rfl rfl (by rfl) ?_;simp -dsimp only[simprocAttr,↓aa,zp];refine b8 (ah ?_);refine aj ?_;refine aA (ah ?_);apply aP rfl<;>intro h
 ·exact ab h (by omega)
 refine b8 (ah ?_);apply aP rfl<;>intro h
 ·exact ab h (by omega)
 refine aA (ah ?_);apply aP rfl<;>intro h
 ·exact ab h (by omega)
 refine aA (ah ?_);apply aP rfl<;>intro h
 ·exact ab h (by omega)
 refine aA (ah ?_);apply aP rfl<;>intro h
 ·exact ab h (by omega)
 refine aA (ah ?_);apply aP rfl<;>intro h
 ·exact ab h (by omega)
 refine aA (ah ?_);apply aP rfl<;>intro h
 ·exact ab h (by omega)
 refine dc (ah ?_);apply aP rfl<;>intro h
 ·exact ab h (by omega)
 refine aA (ah ?_);apply aP rfl<;>intro h
 ·exact ab h (by omega)
 refine aA (ah ?_);apply aP rfl<;>intro h
 ·exact ab h (by omega)
 refine b8 (ah ?_);apply aP rfl<;>intro h
 ·exact ab h (by omega)
 refine aA (ah ?_);apply aP rfl<;>intro h
 ·exact ab h (by omega)
 refine aA (ah ?_);apply aP rfl<;>intro h
 ·exact ab h (by omega)
 refine dc (ah ?_);apply aP rfl<;>intro h
 ·exact ab h (by omega)
 refine b8 (ah ?_);apply aP rfl<;>intro h
 ·exact ab h (by omega)
 refine aA (ah ?_);apply aP rfl<;>intro h
 ·exact ab h (by omega)
 refine dc (ah ?_);apply aP rfl<;>intro h
 ·exact ab h (by omega)
 refine aA (ah ?_);apply aP rfl<;>intro h
 ·exact ab h (by omega)
 refine jR ?_;refine aA ?_;refine .inr (.inl ⟨_,_,dZ,.inl (au ?_)⟩);simp -dsimp only[simprocAttr,↓aa,zp,hlen];refine ah ?_;refine aq ?_;simp -dsimp only[simprocAttr,↓aa,zp,zr,Try.results75,hlen];rw[mE];refine⟨fun o ho=>?_,by simp[aw,ae.upto],rfl⟩;rcases List.mem_append.1 ho with ho|ho
 ·exact ak.cu (by omega) (eL o ho)
 simp only[List.take_succ_cons,List.take_zero,List.mem_cons,List.mem_nil_iff,or_false]at ho;rcases ho with rfl|rfl|rfl|rfl|rfl|rfl|rfl|rfl|rfl
 ·trivial
 ·simp[ak.upto,aw,ae.upto]
 ·trivial
 ·simp[ak.upto,aw,ae.upto]
 ·trivial
 ·trivial
 ·simp[ak.upto,aw,ae.upto]
 ·exact hc
 simp[ak.upto,aw,ae.upto]
theorem mU:∀{es:List (Int×SV)} {ps:List Int} {l:List SV} {j:Nat} {p:Int} {a:SV},ps[j]?=some p->l[j]?=some a->cH es (ps.take (j+1)) (l.take (j+1))=cK (cH es (ps.take j) (l.take j)) p a
 | es,q::ps,b::l,0,p,a,h1,h2=>by
  simp only[List.getElem?_cons_zero,Option.some.injEq]at h1 h2;subst h1;subst h2;simp[cH]
 | es,q::ps,b::l,j+1,p,a,h1,h2=>by
  have ih:=mU (es:=cK es q b) (ps:=ps) (l:=l) (j:=j) (by simpa using h1) (by simpa using h2);simp only[List.take_succ_cons,cH];exact ih
 | _,[],_,_,_,_,h1,_=>by simp at h1
 | _,_::_,[],_,_,_,_,h2=>by simp at h2
theorem pP(es:List (Int×SV))(ps:List Int)(l:List SV):cH es (ps.take 0) (l.take 0)=es:=by simp[cH]
theorem jt:∀{es:List (Int×SV)} {ps:List Int} {l:List SV} {e:Int×SV},e∈cH es ps l->e∈es∨e.2∈l
 | es,[],_,e,h=>.inl (by simpa[cH]using h)
 | es,_::_,[],e,h=>.inl (by simpa[cH]using h)
 | es,p::ps,a::l,e,h=>by
  simp only[cH]at h;rcases jt h with h|h
  ·rcases iD h with h|h
   ·exact .inl h
   exact .inr (by simp[h])
  exact .inr (by simp[h])
theorem jm{u:bR}{k:Int}(h0:0<=k)(h1:k<u.fns.length):u.fns[k.toNat]?=some (aL u k):=by
 have aZ:k.toNat<u.fns.length:=by omega
 simp[aL,aZ]
theorem dy{f:Func}{k:Int}(h0:0<=k)(h1:k<f.blocks.length):f.blocks[k.toNat]?=some (aD f k):=by
 have aZ:k.toNat<f.blocks.length:=by omega
 simp[aD,aZ]
theorem uh{es:List (Int×SV)}{n:Nat}(h:∀e∈es,SV.bh n e.2):kc n (es.map gi):=by
 induction es with
 | nil=>trivial
 | cons e r ih=>exact⟨(h e (by simp)).aN,ih fun x hx=>h x (by simp[hx])⟩
theorem uo{u:bR}{m:Mach}{O:List ak}(bC:∀o∈O,o.upto O.length)(h0:O[2]?=some (.cells (aC u m)))(f:Fr)(hf:O[f.bP]?=some (.cells (aV f)))(hv:O[f.di]?=some (.map (.int .i64) (f.vals.map gi)))
  (hu:∀e∈f.vals,SV.bh O.length e.2) (JT:2≠f.bP) (JU:2≠f.di) (pH:f.bP≠f.di) (jr:0<=f.fn∧f.fn<u.fns.length) (e:Edge) (he:sg (aL u f.fn) e) (f':Fr)
  (fg:f' = { f with blk:=e.block,pos:=0,vals:=cH f.vals (aD (aL u f.fn) e.block).params (bN f.vals e.args) }) :
  bc Try.prog 92 O [.mp 2 0,.mp f.bP 0,e.enc] (fun r O'=>r=.df []∧O'=(O.set f.bP (.cells (aV f'))).set f.di (.map (.int .i64) (f'.vals.map gi))):=by
 have gn:=iH bC hf hv hu e.args he.len;have hF:=jm jr.1 jr.2;have hB:=dy he.lo he.hi;have km:=he.args;have gQ:=he.lo;have IG:=he.len;have gK:=I hf;have uF:=I hv;have eK:=I h0;have I4:=l9 hu e.args;have iq:(bN f.vals e.args).length=e.args.length:=by simp[bN]
 generalize Kb:bN f.vals e.args=T at *;generalize aD (aL u f.fn) e.block=B at *;generalize aL u f.fn=F at *;have Kc:=SV.ai I4;have hc:[aI f.fn,aI e.block,aI 0,aI f.to,.mm f.di]=aV f':=by
  rw[fg];rfl
 obtain⟨O1,dW⟩:∃O1,O1=O.set f.bP (.cells (aV f')):=⟨_,rfl⟩
 have hlen:O.length=O1.length:=by rw[dW];simp
 have hs:=dA hf;have lL:O1[2]?=some (.cells (aC u m)):=by rw[dW];exact bx h0 JT.symm
 have kr:O1[f.bP]?=some (.cells (aV f')):=by rw[dW];exact hs _
 have sT:O1[f.di]?=some (.map (.int .i64) (f.vals.map gi)):=by rw[dW];exact bx hv pH
 have eL:∀o∈O1,o.upto O1.length:=by
  rw[<-hlen,dW];refine bq bC hf fun h=>?_;simp only[aV,aw,ae.upto,true_and,and_true]at h ⊢;rw[fg];exact h
 rw[<-dW];have JH:∀x,(O1.set f.di x)[2]?=some (.cells (aC u m)):=fun x=>bx lL JU.symm;have wi:∀x,(O1.set f.di x)[f.bP]?=some (.cells (aV f')):=fun x=>bx kr pH.symm;have E3:∀x,(O1.set f.di x)[f.di]?=some x:=dA sT;unfold aC at lL JH;have dU:=hf;unfold aV at dU;have GM:aV f'=[aI f.fn,aI e.block,aI 0,aI f.to,.mm f.di]:=hc.symm;have GI:=kr;have GK:=wi;rw[GM]at GI GK;have yi:O1.set f.di (.map (.int .i64) (f.vals.map gi))=O1:=kG sT;have iz:∀x,(O1.set f.di x).take O1.length=O1.set f.di x:=fun x=>cG;refine zf true O.length Try.func92 Try.ntmps92 ?_;dsimp only[Tmp,TypeId,ax];refine aA (ah ?_);refine aO 5 ([aI e.block,a6 e.args]) [(0,.mp 2 0),(1,.mp f.bP 0),(5,.ip none [aI e.block,a6 e.args])] rfl (by rfl) (by omega) (by simp[bu,a7,Go.Av.look]) ?_ ?_ ?_
 ·exact bC
 ·simp[aw,ae.upto,az,gK,eK]
 refine aA ?_;refine .inr (.inr ⟨_,gn,au (zj ?_)⟩);refine ah ?_;refine aX ?_;simp -dsimp only[simprocAttr,↓aa,zp,dU,hs,List.set_set,hc,<-dW];refine ah ?_;refine aX ?_;simp -dsimp only[simprocAttr,↓aa,zp,lL,GI,hF,hB]
 repeat(refine⟨by omega,?_⟩)
 refine⟨ob (by kernel_rfl),?_⟩;refine ah ?_;refine aj (aU (ι:={j:Nat // j<=B.params.length}) (fun j=>⟨54,[(0,.mp 2 0),(1,.mp f.bP 0),(5,.ip none [aI e.block,a6 e.args]),(6,.aE 4 (T.map SV.enc) .sh),(37,a6 B.params),(38,aI B.params.length),(39,aI j.1)],O1.set f.di (.map (.int .i64) ((cH f.vals (B.params.take j.1) (T.take j.1)).map gi))⟩) (fun j=>B.params.length-j.1) ⟨0,by omega⟩ ?_ ?_)
 ·refine zq rfl ?_ ?_;simp -dsimp only[simprocAttr,↓aa,zp,zc];rw[pP,yi]
 rintro⟨j,hj⟩;refine aA (ah ?_);apply gW rfl<;>intro h
 ·refine cA ?_;have aZ:j<B.params.length:=by simpa using h
  obtain⟨p,hp⟩:∃p,B.params[j]?=some p:=⟨B.params[j],by simp[aZ]⟩
  obtain⟨a,ha⟩:∃a,T[j]?=some a:=⟨T[j]'(by omega),List.getElem?_eq_getElem _⟩
  refine aK (aj ?_);refine aX ?_;simp -dsimp only[simprocAttr,↓aa,zp,hp];refine ah ?_;refine j1 ?_;simp -dsimp only[simprocAttr,↓aa,zp,GK,ha,E3,nY,<-mU hp ha,List.set_set]
  repeat(refine⟨by omega,?_⟩)
  refine⟨ob (by kernel_rfl),?_⟩;refine ah ?_;refine dc ?_
  repeat(refine⟨by omega,?_⟩)
  refine fV ?_;refine⟨⟨j+1,aZ⟩,by simp;omega,?_⟩;refine zq rfl ?_ ?_;simp -dsimp only[simprocAttr,↓aa,zp,zc]
  ·exact Sub.int (by simp)
  rfl
 refine aR ?_;simp -dsimp only[bX,ne_eq,Nat.reduceEqDiff,reduceCtorEq];have oH:j=B.params.length:=by simp at h;omega
 subst oH;have v8:T.take B.params.length=T:=List.take_of_length_le (by omega)
 skip
 simp -dsimp only[simprocAttr,↓aa,zp,zr,Try.results92,hlen,v8,List.take_length,iz,List.length_set];refine⟨bF eL (uh fun x hx=>?_),trivial,by rw[fg]⟩;rw[<-hlen];rcases jt hx with q|q
 ·exact hu x q
 exact I4 _ q
def jC(l:List Int):Nat->Int
 | 0=>0
 | k+1 =>
  match l[l.length-(k+1)]? with
  | none=>0
  | some c=>if !decide (fp c)then 4 else if uv (l.take (l.length-(k+1))) c then 7 else jC l k
def lQ(f:Func):List Edge->Int
 | []=>0
 | e::r=>if !within e.block 1 ((f.blocks.length:Int)-1)then 4 else if e.args.length≠(aD f e.block).params.length then 3 else lQ f r
def jX(f:Func)(t:Term):Int :=
 if !eG t then 3
 else if 256<t.cases.length then 2
 else if t.kind=4∧within t.n 1 6=false then 4
 else if jC t.cases t.cases.length≠0 then jC t.cases t.cases.length
 else lQ f t.to
theorem tS{l:List Int}{j:Nat}{c:Int}(h:l[j]?=some c):jC l (l.length-j)=if !decide (fp c)then 4 else if uv (l.take j) c then 7 else jC l (l.length-(j+1)):=by
 have aZ:=I h;obtain⟨k,hk⟩:∃k,l.length-j=k+1:=⟨l.length-j-1,by omega⟩
 have hj:l.length-(k+1)=j:=by omega
 rw[hk];simp only[jC,hj,h];rw[show l.length-(j+1)=k by omega]
theorem ud{f:Func}{l:List Edge}{j:Nat}{e:Edge}(h:l[j]?=some e):lQ f (l.drop j)=if !within e.block 1 ((f.blocks.length:Int)-1)then 4 else if e.args.length≠(aD f e.block).params.length then 3 else lQ f (l.drop (j+1)):=by
 have aZ:=I h;rw[List.getElem?_eq_getElem aZ]at h;simp only[Option.some.injEq]at h;rw[List.drop_eq_getElem_cons aZ,h];rfl
theorem fa{n lo hi:Int}:within n lo hi=true↔lo<=n∧n<=hi:=by
 simp[within]
theorem ug(f:Func)(t:Term)(eJ:t.cases.length<=2 ^ 60)(iI:f.blocks.length<=2 ^ 60):bw Try.prog 69 [f.enc,t.enc] (aI (jX f t)):=by
 have iy:=w8 t eJ;have hw:=dN t.n 1 6;obtain⟨R,hR⟩:∃R,R=jX f t:=⟨_,rfl⟩
 rw[<-hR];unfold jX at hR;generalize eG t=sh at *;have GD:∀e:Edge,bw Try.prog 33 [aI e.block,aI 1,aI ((f.blocks.length:Int)-1)] (.v (.bool (within e.block 1 ((f.blocks.length:Int)-1)))):=fun e=>dN _ _ _;have JD:(t.kind=4∧within t.n 1 6=false)∨(¬(t.kind=4∧within t.n 1 6=false)∧((decide (t.kind=4)=false)∨(decide (t.kind=4)=true∧within t.n 1 6=true))):=by
  by_cases h4:t.kind=4
  ·cases I8:within t.n 1 6
   ·exact .inl ⟨h4,rfl⟩
   exact .inr ⟨by simp,.inr ⟨decide_eq_true h4,rfl⟩⟩
  exact .inr ⟨fun q=>h4 q.1,.inl (decide_eq_false h4)⟩
 refine zf true 0 Try.func69 Try.ntmps69 ?_;dsimp only[Tmp,TypeId,ax];refine aA (ah ?_);refine aH 2 0 (.ip none [aI f.name,ay f.blocks]) rfl (by simp[ak.aF]) trivial rfl ?_ ?_;rotate_left;simp -dsimp only[simprocAttr,↓aa,zp]
 ·refine aH 3 1 (.ip none [aI t.kind,aI t.arg,aI t.n,a6 t.cases,aJ t.to]) rfl (by simp[ak.aF]) trivial rfl ?_ ?_;rotate_left;simp -dsimp only[simprocAttr,↓aa,zp]
  ·by_cases sN:sh=false∨256<t.cases.length∨(t.kind=4∧within t.n 1 6=false)
   ·refine aK (aj ?_);refine aA ?_;refine zi iy ?_;refine ah ?_;cases sh with
    | false =>
     refine cS rfl ?_;refine aA (ah ?_);refine aq ?_;simp -dsimp only[simprocAttr,↓aa,zp,zr,Try.results69];simp[hR]
    | true =>
     refine cE rfl ?_;by_cases hc:256<t.cases.length
     ·have hd:decide ((256:Int)<t.cases.length)=true:=decide_eq_true (by omega);refine aX ?_;simp -dsimp only[simprocAttr,↓aa,zp,hd];refine ah ?_;refine cS rfl ?_;refine aA (ah ?_);refine aq ?_;simp -dsimp only[simprocAttr,↓aa,zp,zr,Try.results69];simp[hR,hc]
     have hd:decide ((256:Int)<t.cases.length)=false:=decide_eq_false (by omega);have hk:t.kind=4∧within t.n 1 6=false:=by
      rcases sN with q|q|q
      ·cases q
      ·exact absurd q hc
      exact q
     have Ca:decide (t.kind=4)=true:=decide_eq_true hk.1;rw[hk.2]at hw;refine aX ?_;simp -dsimp only[simprocAttr,↓aa,zp,hd];refine ah ?_;refine cE rfl ?_;refine aX ?_;simp -dsimp only[simprocAttr,↓aa,zp,Ca];refine zi hw ?_;refine ah ?_;refine cS rfl ?_;refine aA (ah ?_);refine aq ?_;simp -dsimp only[simprocAttr,↓aa,zp,zr,Try.results69];simp[hR,hc,hk]
   have H6:sh=true:=by
    cases sh
    ·exact absurd (.inl rfl) sN
    rfl
   subst H6;have hc:¬256<t.cases.length:=fun q=>sN (.inr (.inl q));have hk:¬(t.kind=4∧within t.n 1 6=false):=fun q=>sN (.inr (.inr q));have hd:decide ((256:Int)<t.cases.length)=false:=decide_eq_false (by omega);rw[if_neg (by simp),if_neg hc,if_neg hk]at hR;have HV:=JD.resolve_left hk;refine gI (⟨78,[(2,.ip none [aI f.name,ay f.blocks]),(3,.ip none [aI t.kind,aI t.arg,aI t.n,a6 t.cases,aJ t.to]),(4,aI 0)],[.gone,.gone]⟩) ?_ ?_
   ·refine aj ?_;refine aA ?_;refine zi iy ?_;refine ah ?_;refine cE rfl ?_;refine aX ?_;simp -dsimp only[simprocAttr,↓aa,zp,hd];refine ah ?_;refine cE rfl ?_;rcases HV.2 with Ca|⟨Ca,nT⟩
    ·refine aX ?_;simp -dsimp only[simprocAttr,↓aa,zp,Ca];refine ah ?_;refine cE rfl ?_;refine a8 ?_;show bg _ _;refine zq rfl ?_ ?_;simp -dsimp only[simprocAttr,↓aa,zp,zc];rfl
    rw[nT]at hw;refine aX ?_;simp -dsimp only[simprocAttr,↓aa,zp,Ca];refine zi hw ?_;refine ah ?_;refine cE rfl ?_;refine a8 ?_;show bg _ _;refine zq rfl ?_ ?_;simp -dsimp only[simprocAttr,↓aa,zp,zc];rfl
   refine b8 (ah ?_);refine aj (aU (ι:={j:Nat // j<=t.cases.length∧jC t.cases t.cases.length=jC t.cases (t.cases.length-j)}) (fun j=>⟨78,[(2,.ip none [aI f.name,ay f.blocks]),(3,.ip none [aI t.kind,aI t.arg,aI t.n,a6 t.cases,aJ t.to]),(4,aI 0),(29,a6 t.cases),(30,aI t.cases.length),(31,aI j.1)],[.gone,.gone]⟩) (fun j=>t.cases.length-j.1) ⟨0,by omega,rfl⟩ ?_ ?_)
   ·refine zq rfl ?_ ?_;simp -dsimp only[simprocAttr,↓aa,zp,zc];rfl
   rintro⟨j,hj,fB⟩;refine aA (ah ?_);apply gW rfl<;>intro h
   ·refine cA ?_;have aZ:j<t.cases.length:=by simpa using h
    obtain⟨c,Ey⟩:∃c,t.cases[j]?=some c:=⟨t.cases[j],by simp[aZ]⟩
    have bV:=tS Ey;rw[<-fB]at bV;have HT:=o6 c;have HK:=mN (t.cases.take j) c;refine aK (aj ?_);refine aX ?_;simp -dsimp only[simprocAttr,↓aa,zp,Ey];refine ah ?_;refine aj ?_;refine aA ?_;refine zi HT ?_;refine ah ?_;cases hw:decide (fp c)with
    | false =>
     rw[hw]at bV;refine cS rfl ?_;refine aA (ah ?_);refine aq ?_;simp -dsimp only[simprocAttr,↓aa,zp,zr,Try.results69];simp[hR,bV]
    | true =>
     rw[hw]at bV;refine cE rfl ?_;refine aX ?_;simp -dsimp only[simprocAttr,↓aa,zp,Int.toNat_natCast,List.drop_zero,<-List.map_take]
     repeat(refine⟨by omega,?_⟩)
     refine zi HK ?_;refine ah ?_;cases hh:uv (t.cases.take j) c with
     | true =>
      rw[hh]at bV;refine cS rfl ?_;refine aA (ah ?_);refine aq ?_;simp -dsimp only[simprocAttr,↓aa,zp,zr,Try.results69];simp[hR,bV]
     | false =>
      rw[hh]at bV;refine cE rfl ?_;refine Hw ?_;refine dc ?_
      repeat(refine⟨by omega,?_⟩)
      refine fV ?_;refine⟨⟨j+1,aZ,by rw[bV];simp⟩,by simp;omega,?_⟩;refine zq rfl ?_ ?_;simp -dsimp only[simprocAttr,↓aa,zp,zc]
      ·exact Sub.int (by simp)
      rfl
   refine aR ?_;simp -dsimp only[bX,ne_eq,Nat.reduceEqDiff,reduceCtorEq];have oH:j=t.cases.length:=by simp at h;omega
   subst oH;have hz:jC t.cases t.cases.length=0:=by rw[fB,Nat.sub_self];rfl
   rw[hz,if_neg (by simp)]at hR;refine b8 (ah ?_);refine ff 49 rfl (fun iq=>?_);simp only[List.length_map]at iq;refine aj (aU (ι:={j:Nat // j<=t.to.length∧R=lQ f (t.to.drop j)}) (fun j=>⟨78,[(2,.ip none [aI f.name,ay f.blocks]),(4,aI 0),(49,aJ t.to),(50,aI t.to.length),(51,aI j.1)],[.gone,.gone]⟩) (fun j=>t.to.length-j.1) ⟨0,by omega,hR⟩ ?_ ?_)
   ·refine zq rfl ?_ ?_;simp -dsimp only[simprocAttr,↓aa,zp,zc];rfl
   rintro⟨j,hj,fB⟩;refine aA (ah ?_);apply gW rfl<;>intro h
   ·refine cA ?_;have aZ:j<t.to.length:=by simpa using h
    obtain⟨e,r6⟩:∃e,t.to[j]?=some e:=⟨t.to[j],by simp[aZ]⟩
    have bV:=ud (f:=f) r6;rw[<-fB]at bV;have G1:=GD e;refine aK (aj ?_);refine aX ?_;simp -dsimp only[simprocAttr,↓aa,zp,r6];refine ah ?_;refine aH 8 2 (.ip none [aI e.block,a6 e.args]) rfl (by simp[ak.aF]) trivial rfl ?_ ?_;rotate_left;simp -dsimp only[simprocAttr,↓aa,zp]
    ·refine bT 2 [(2,.ip none [aI f.name,ay f.blocks]),(4,aI 0),(8,.ip none [aI e.block,a6 e.args]),(49,aJ t.to),(50,aI t.to.length),(51,aI j)] (by simp) (by omega) [.gone,.gone] ?_ ?_ ?_ ?_ ?_
     ·rfl
     ·simp[ak.upto]
     ·simp[gj,St.get,bu,a7,Go.Av.look,Sub.refl]
     ·simp[aw,ae.upto,az,Block.ai,Edge.ai]
     cases hw:within e.block 1 ((f.blocks.length:Int)-1)with
     | false =>
      rw[hw]at bV G1;refine aj ?_;refine aA ?_
      repeat(refine⟨by omega,?_⟩)
      refine zi G1 ?_;refine ah ?_;refine cS rfl ?_;refine aA (ah ?_);refine aq ?_;simp -dsimp only[simprocAttr,↓aa,zp,zr,Try.results69];simp[bV]
     | true =>
      rw[hw]at bV G1;have Kj:=fa.1 hw;have hB:=dy (f:=f) (k:=e.block) (by omega) (by omega);generalize aD f e.block=B at *;by_cases hl:e.args.length=B.params.length
      ·have jP:decide ((e.args.length:Int)=B.params.length)=true:=decide_eq_true (by omega);refine aj ?_;refine aA ?_
       repeat(refine⟨by omega,?_⟩)
       refine zi G1 ?_;refine ah ?_;refine cE rfl ?_;refine aX ?_;simp -dsimp only[simprocAttr,↓aa,zp,hB,jP]
       repeat(refine⟨by omega,?_⟩)
       refine⟨ob (by kernel_rfl),?_⟩;refine ah ?_;refine cE rfl ?_;refine Hw ?_;refine dc ?_
       repeat(refine⟨by omega,?_⟩)
       refine fV ?_;refine⟨⟨j+1,aZ,by rw[bV];simp[hl]⟩,by simp;omega,?_⟩;refine zq rfl ?_ ?_;simp -dsimp only[simprocAttr,↓aa,zp,zc]
       ·exact Sub.int (by simp)
       rfl
      have jP:decide ((e.args.length:Int)=B.params.length)=false:=decide_eq_false (by omega);refine aj ?_;refine aA ?_
      repeat(refine⟨by omega,?_⟩)
      refine zi G1 ?_;refine ah ?_;refine cE rfl ?_;refine aX ?_;simp -dsimp only[simprocAttr,↓aa,zp,hB,jP]
      repeat(refine⟨by omega,?_⟩)
      refine⟨ob (by kernel_rfl),?_⟩;refine ah ?_;refine cS rfl ?_;refine aA (ah ?_);refine aq ?_;simp -dsimp only[simprocAttr,↓aa,zp,zr,Try.results69];simp[bV,hl]
    exact cw.mp rfl rfl
   refine aR ?_;simp -dsimp only[bX,ne_eq,Nat.reduceEqDiff,reduceCtorEq];have oH:j=t.to.length:=by simp at h;omega
   subst oH;rw[List.drop_length]at fB;refine aA (ah ?_);refine aq ?_;simp -dsimp only[simprocAttr,↓aa,zp,zr,Try.results69];simp[fB,lQ]
  exact cw.mp rfl rfl
 exact cw.mp rfl rfl
abbrev Defs:=List (Int×Int×Int)
def eD(p:Int×Int):ae:=.agg [aI p.1,aI p.2]
def fc(e:Int×Int×Int):Value×ae:=(.int .i64 e.1,eD e.2)
def fC:Defs->Int->Option (Int×Int)
 | [],_=>none
 | (k,p)::r,key=>if k=key then some p else fC r key
theorem iC(es:Defs)(k:Int):jh (es.map fc) (.int .i64 k)=(fC es k).map eD:=by
 induction es with
 | nil=>rfl
 | cons p r ih =>
  obtain⟨a,v⟩:=p;simp only[List.map_cons,fc,jh,fC,mj,decide_eq_true_eq];split
  ·rfl
  exact ih
theorem AF{es:Defs}{k:Int}(p:Int×Int)(h:fC es k=none):ll (es.map fc) (.int .i64 k) (.agg [aI p.1,aI p.2])=(es++[(k,p)]).map fc:=by
 induction es with
 | nil=>rfl
 | cons q r ih =>
  obtain⟨a,v⟩:=q;simp only[fC]at h;split at h
  ·cases h
  rename_i cj;simp only[List.map_cons,fc,ll,mj,decide_eq_true_eq,if_neg cj,List.cons_append];rw[<-ih h]
theorem fj(n:Nat)(es:Defs):kc n (es.map fc):=by
 induction es with
 | nil=>trivial
 | cons p r ih=>exact⟨⟨trivial,trivial,trivial⟩,ih⟩
def dt(ds:Defs)(v:Int)(p:Int×Int):Int×Defs :=
 if !within v 0 4095 then(4,ds)else if(fC ds v).isSome then(7,ds)else(0,ds++[(v,p)])
theorem ub{O:List ak}(bC:∀o∈O,o.upto O.length){c d:Nat}{f:Func}{ds:Defs}(hc:O[c]?=some (.cells [aI f.name,ay f.blocks,.mm d]))(hd:O[d]?=some (.map (.int .i64) (ds.map fc)))(v:Int)(p:Int×Int) :
  bc Try.prog 76 O [.mp c 0,aI v,.agg [aI p.1,aI p.2]] (fun r O'=>r=aI (dt ds v p).1∧O'=O.set d (.map (.int .i64) ((dt ds v p).2.map fc))):=by
 have hw:=dN v 0 4095;have eJ:=I hc;have fo:O.set d (.map (.int .i64) (ds.map fc))=O:=kG hd;unfold dt;cases hv:within v 0 4095 with
 | false =>
  rw[hv]at hw;refine zf true O.length Try.func76 Try.ntmps76 ?_;dsimp only[Tmp,TypeId,ax];refine aA (ah ?_);refine aO 5 ([aI p.1,aI p.2]) [(0,.mp c 0),(1,aI v),(5,.ip none [aI p.1,aI p.2]),(6,aI 0)] rfl (by rfl) (by omega) (by simp[bu,a7,Go.Av.look]) ?_ ?_ ?_
  ·exact bC
  ·simp[ae.upto,aw,eJ]
  refine b8 ?_;refine zi hw ?_;refine ah ?_;refine cS rfl ?_;refine aA (ah ?_);refine aq ?_;simp -dsimp only[simprocAttr,↓aa,zp,zr,Try.results76];exact⟨bC,fo.symm⟩
 | true =>
  rw[hv]at hw;cases hl:fC ds v with
  | some q =>
   have hq:eD q=.agg [aI q.1,aI q.2]:=rfl;refine zf true O.length Try.func76 Try.ntmps76 ?_;dsimp only[Tmp,TypeId,ax];refine aA (ah ?_);refine aO 5 ([aI p.1,aI p.2]) [(0,.mp c 0),(1,aI v),(5,.ip none [aI p.1,aI p.2]),(6,aI 0)] rfl (by rfl) (by omega) (by simp[bu,a7,Go.Av.look]) ?_ ?_ ?_
   ·exact bC
   ·simp[ae.upto,aw,eJ]
   refine b8 ?_;refine zi hw ?_;refine ah ?_;refine cE rfl ?_;refine cA ?_;refine dd ?_;simp -dsimp only[simprocAttr,↓aa,zp,hc,hd,iC,hl,hq,Option.map_some,Option.getD_some,Option.isSome_some];refine ah ?_;refine aA (ah ?_);refine cS rfl ?_;refine aA (ah ?_);refine aq ?_;simp -dsimp only[simprocAttr,↓aa,zp,zr,Try.results76];exact⟨bC,fo.symm⟩
  | none =>
   have fX:=AF p hl;have fY:=bF (k:=d) (x:=.map (.int .i64) ((ds++[(v,p)]).map fc)) bC (fj _ _);have iz:=cG (O:=O) (k:=d) (x:=.map (.int .i64) ((ds++[(v,p)]).map fc));refine zf true O.length Try.func76 Try.ntmps76 ?_;dsimp only[Tmp,TypeId,ax];refine aA (ah ?_);refine aO 5 ([aI p.1,aI p.2]) [(0,.mp c 0),(1,aI v),(5,.ip none [aI p.1,aI p.2]),(6,aI 0)] rfl (by rfl) (by omega) (by simp[bu,a7,Go.Av.look]) ?_ ?_ ?_
   ·exact bC
   ·simp[ae.upto,aw,eJ]
   refine b8 ?_;refine zi hw ?_;refine ah ?_;refine cE rfl ?_;refine cA ?_;refine dd ?_;simp -dsimp only[simprocAttr,↓aa,zp,hc,hd,iC,hl,Option.map_none,Option.getD_none,Option.isSome_none];refine ah ?_;refine aO 7 ([aI 0,aI 0]) [(0,.mp c 0),(1,aI v),(5,.ip none [aI p.1,aI p.2]),(6,aI 0),(8,.v (.bool false))] rfl (by rfl) (by omega) (by simp[bu,a7,Go.Av.look]) ?_ ?_ ?_
   ·exact bC
   ·simp[ae.upto,aw,eJ]
   refine aA (ah ?_);refine cE rfl ?_;refine cA ?_;refine aX ?_;simp -dsimp only[simprocAttr,↓aa,zp,hc,hd,fX];refine⟨ob (by kernel_rfl),?_⟩;refine ah ?_;refine aA (ah ?_);refine aq ?_;simp -dsimp only[simprocAttr,↓aa,zp,zr,Try.results76,iz,List.length_set];exact fY
def dF(k:Int):Defs->List Int->Int×Defs
 | ds,[]=>(0,ds)
 | ds,p::r=>if(dt ds p (k,0)).1≠0 then dt ds p (k,0)else dF k (dt ds p (k,0)).2 r
def la(k:Int):Int->Defs->List bE->Int×Defs
 | _,ds,[]=>(0,ds)
 | n,ds,i::r=>if(dt ds i.to (k,n+1)).1≠0 then dt ds i.to (k,n+1)else if jg i≠0 then(jg i,(dt ds i.to (k,n+1)).2)else la k (n+1) (dt ds i.to (k,n+1)).2 r
def fG(f:Func)(ds:Defs)(k:Int):Int×Defs :=
 if(dF k ds (aD f k).params).1≠0 then dF k ds (aD f k).params
 else if(la k 0 (dF k ds (aD f k).params).2 (aD f k).ins).1≠0 then la k 0 (dF k ds (aD f k).params).2 (aD f k).ins
 else(jX f (aD f k).term,(la k 0 (dF k ds (aD f k).params).2 (aD f k).ins).2)
theorem bS{α:Type}{l:List α}{j:Nat}{x:α}(h:l[j]?=some x):l.drop j=x::l.drop (j+1):=by
 have aZ:=I h;rw[List.getElem?_eq_getElem aZ]at h;simp only[Option.some.injEq]at h;rw[List.drop_eq_getElem_cons aZ,h]
theorem vC{O:List ak}(bC:∀o∈O,o.upto O.length){c d:Nat}(Js:c≠d){f:Func}{ds:Defs}(hc:O[c]?=some (.cells [aI f.name,ay f.blocks,.mm d]))(hd:O[d]?=some (.map (.int .i64) (ds.map fc)))(k:Int)(DK:0<=k)(DL:k<f.blocks.length)
  (iI:f.blocks.length<=2 ^ 60) (eJ:(aD f k).term.cases.length<=2 ^ 60) :
  bc Try.prog 62 O [.mp c 0,aI k] (fun r O'=>r=aI (fG f ds k).1∧O'=O.set d (.map (.int .i64) ((fG f ds k).2.map fc))):=by
 have hB:=dy DK DL;have Gv:=I hc;obtain⟨R,hR⟩:∃R,R=fG f ds k:=⟨_,rfl⟩
 rw[<-hR];unfold fG at hR;have iR:=ug f (aD f k).term eJ iI;generalize aD f k=B at *;have II:∀x,(O.set d x)[c]?=some (.cells [aI f.name,ay f.blocks,.mm d]):=fun x=>bx hc Js.symm;have Jt:=dA hd;have uK:∀(es:Defs),∀o∈O.set d (.map (.int .i64) (es.map fc)),o.upto (O.set d (.map (.int .i64) (es.map fc))).length:=fun es=>by
  rw[List.length_set];exact bF bC (fj _ _)
 have Gx:∀(es:Defs) (v:Int) (p:Int×Int),bc Try.prog 76 (O.set d (.map (.int .i64) (es.map fc))) [.mp c 0,aI v,.agg [aI p.1,aI p.2]] (fun r O'=>r=aI (dt es v p).1∧O'=O.set d (.map (.int .i64) ((dt es v p).2.map fc))):=fun es v p=>by
  have h:=ub (uK es) (II _) (Jt (.map (.int .i64) (es.map fc))) v p;rw[List.set_set]at h;exact h
 have fo:O.set d (.map (.int .i64) (ds.map fc))=O:=kG hd;have iz:∀es:Defs,(O.set d (.map (.int .i64) (es.map fc))).take O.length=O.set d (.map (.int .i64) (es.map fc)):=fun es=>cG;have uJ:∀es:Defs,∀o∈O.set d (.map (.int .i64) (es.map fc)),o.upto O.length:=fun es=>bF bC (fj _ _);refine zf true O.length Try.func62 Try.ntmps62 ?_;dsimp only[Tmp,TypeId,ax];refine aA (ah ?_);refine aX ?_;simp -dsimp only[simprocAttr,↓aa,zp,hc,hB]
 repeat(refine⟨by omega,?_⟩)
 refine ah ?_;refine aO 5 ([a6 B.params,bD B.ins,aI B.term.kind,aI B.term.arg,aI B.term.n,a6 B.term.cases,aJ B.term.to]) [(0,.mp c 0),(1,aI k),(4,aI 0),(5,.ip none [a6 B.params,bD B.ins,aI B.term.kind,aI B.term.arg,aI B.term.n,a6 B.term.cases,aJ B.term.to])] rfl (by rfl) (by omega) (by simp[bu,a7,Go.Av.look]) ?_ ?_ ?_
 ·exact bC
 ·simp[ae.upto,aw,Gv,az,Edge.ai,bE.ai]
 refine b8 (ah ?_);refine ff 22 rfl (fun qx=>?_);simp only[List.length_map]at qx;refine aj (aU (ι:={x:Nat×Defs // x.1<=B.params.length∧dF k ds B.params=dF k x.2 (B.params.drop x.1)}) (fun x=>⟨69,[(0,.mp c 0),(1,aI k),(4,aI 0),(5,.ip none [a6 B.params,bD B.ins,aI B.term.kind,aI B.term.arg,aI B.term.n,a6 B.term.cases,aJ B.term.to]),(22,a6 B.params),(23,aI B.params.length),(24,aI x.1.1)],O.set d (.map (.int .i64) (x.1.2.map fc))⟩) (fun x=>B.params.length-x.1.1) ⟨(0,ds),by simp,rfl⟩ ?_ ?_)
 ·refine zq rfl ?_ ?_;simp -dsimp only[simprocAttr,↓aa,zp,zc];rw[fo]
 rintro⟨⟨j,es⟩,hj,fB⟩;simp only at hj fB;refine aA (ah ?_);apply gW rfl<;>intro h
 ·refine cA ?_;have aZ:j<B.params.length:=by simpa using h
  obtain⟨p,hp⟩:∃p,B.params[j]?=some p:=⟨B.params[j],by simp[aZ]⟩
  have bV:=fB;rw[bS hp]at bV;simp only[dF]at bV;have zY:=Gx es p (k,0);generalize dt es p (k,0)=X at *;refine aK (aj ?_);refine aX ?_;simp -dsimp only[simprocAttr,↓aa,zp,hp];refine ah ?_;refine aA ?_;refine .inr (.inl ⟨_,_,zY,.inl (au (zj ?_))⟩);refine ah ?_;by_cases hX:X.1=0
  ·have z4:decide (X.1=0)=true:=decide_eq_true hX;rw[if_neg (by simp[hX])]at bV;refine aX ?_;simp -dsimp only[simprocAttr,↓aa,zp,z4];refine ah ?_;refine cE rfl ?_;refine jR ?_;refine dc ?_
   repeat(refine⟨by omega,?_⟩)
   refine fV ?_;refine⟨⟨(j+1,X.2),by simp only;omega,bV⟩,by simp;omega,?_⟩;refine zq rfl ?_ ?_;simp -dsimp only[simprocAttr,↓aa,zp,zc]
   ·exact Sub.int (by simp)
   rfl
  have z4:decide (X.1=0)=false:=decide_eq_false hX;rw[if_pos hX]at bV;rw[bV,if_pos hX]at hR;refine aX ?_;simp -dsimp only[simprocAttr,↓aa,zp,z4];refine ah ?_;refine cS rfl ?_;refine aA (ah ?_);refine aq ?_;simp -dsimp only[simprocAttr,↓aa,zp,zr,Try.results62,iz,List.length_set];rw[hR];exact⟨uJ X.2,rfl,rfl⟩
 refine aR ?_;simp -dsimp only[bX,ne_eq,Nat.reduceEqDiff,reduceCtorEq];have oH:j=B.params.length:=by simp at h;omega
 subst oH;rw[List.drop_length]at fB;simp only[dF]at fB;rw[fB,if_neg (by simp)]at hR;simp only at hR;refine b8 (ah ?_);refine ff 38 rfl (fun sP=>?_);simp only[List.length_map]at sP;refine aj (aU (ι:={x:Nat×Defs // x.1<=B.ins.length∧la k 0 es B.ins=la k x.1 x.2 (B.ins.drop x.1)}) (fun x=>⟨69,[(0,.mp c 0),(1,aI k),(4,aI 0),(5,.ip none [a6 B.params,bD B.ins,aI B.term.kind,aI B.term.arg,aI B.term.n,a6 B.term.cases,aJ B.term.to]),(38,bD B.ins),(39,aI B.ins.length),(40,aI x.1.1)],O.set d (.map (.int .i64) (x.1.2.map fc))⟩) (fun x=>B.ins.length-x.1.1) ⟨(0,es),by simp,rfl⟩ ?_ ?_)
 ·refine zq rfl ?_ ?_;simp -dsimp only[simprocAttr,↓aa,zp,zc];rfl
 rintro⟨⟨j,jl⟩,hj,fB⟩;simp only at hj fB;refine aA (ah ?_);apply gW rfl<;>intro h
 ·refine cA ?_;have aZ:j<B.ins.length:=by simpa using h
  obtain⟨i,hi⟩:∃i,B.ins[j]?=some i:=⟨B.ins[j],by simp[aZ]⟩
  have bV:=fB;rw[bS hi]at bV;simp only[la]at bV;have zY:=Gx jl i.to (k,(j:Int)+1);have z8:=rT i;generalize jg i=e at *;generalize dt jl i.to (k,(j:Int)+1)=X at *;refine aK (aj ?_);refine aX ?_;simp -dsimp only[simprocAttr,↓aa,zp,hi];refine ah ?_;refine aO 10 ([aI i.to,aI i.op,aI i.n,a6 i.args]) [(0,.mp c 0),(1,aI k),(4,aI 0),(5,.ip none [a6 B.params,bD B.ins,aI B.term.kind,aI B.term.arg,aI B.term.n,a6 B.term.cases,aJ B.term.to]),(38,bD B.ins),(39,aI B.ins.length),(40,aI j),(9,aI j),(10,.ip none [aI i.to,aI i.op,aI i.n,a6 i.args])] (by simp[bu,a7,Go.Av.look]) (by rfl) (by simp) (by simp[bu,a7,Go.Av.look]) ?_ ?_ ?_
  ·exact uK jl
  ·simp[ae.upto,aw,Gv,az,Edge.ai,bE.ai]
  refine b8 ?_
  repeat(refine⟨by omega,?_⟩)
  refine .inr (.inl ⟨_,_,zY,.inl (au (zj ?_))⟩);refine ah ?_;by_cases hX:X.1=0
  ·have z4:decide (X.1=0)=true:=decide_eq_true hX;rw[if_neg (by simp[hX])]at bV;refine aX ?_;simp -dsimp only[simprocAttr,↓aa,zp,z4];refine ah ?_;refine cE rfl ?_;refine cA ?_;refine aA ?_;refine zi z8 ?_;refine ah ?_;by_cases he:e=0
   ·have jn:decide (e=0)=true:=decide_eq_true he;rw[if_neg (by simp[he])]at bV;refine aX ?_;simp -dsimp only[simprocAttr,↓aa,zp,jn];refine ah ?_;refine cE rfl ?_;refine jR ?_;refine dc ?_
    repeat(refine⟨by omega,?_⟩)
    refine fV ?_;refine⟨⟨(j+1,X.2),by simp only;omega,bV⟩,by simp;omega,?_⟩;refine zq rfl ?_ ?_;simp -dsimp only[simprocAttr,↓aa,zp,zc]
    ·exact Sub.int (by simp)
    rfl
   have jn:decide (e=0)=false:=decide_eq_false he;rw[if_pos he]at bV;rw[bV,if_pos he]at hR;refine aX ?_;simp -dsimp only[simprocAttr,↓aa,zp,jn];refine ah ?_;refine cS rfl ?_;refine aA (ah ?_);refine aq ?_;simp -dsimp only[simprocAttr,↓aa,zp,zr,Try.results62,iz,List.length_set];rw[hR];exact⟨uJ X.2,rfl,rfl⟩
  have z4:decide (X.1=0)=false:=decide_eq_false hX;rw[if_pos hX]at bV;rw[bV,if_pos hX]at hR;refine aX ?_;simp -dsimp only[simprocAttr,↓aa,zp,z4];refine ah ?_;refine cS rfl ?_;refine aA (ah ?_);refine aq ?_;simp -dsimp only[simprocAttr,↓aa,zp,zr,Try.results62,iz,List.length_set];rw[hR];exact⟨uJ X.2,rfl,rfl⟩
 refine aR ?_;simp -dsimp only[bX,ne_eq,Nat.reduceEqDiff,reduceCtorEq];have oH:j=B.ins.length:=by simp at h;omega
 subst oH;rw[List.drop_length]at fB;simp only[la]at fB;rw[fB,if_neg (by simp)]at hR;simp only at hR;refine aX ?_;simp -dsimp only[simprocAttr,↓aa,zp,II];refine zi iR ?_;refine⟨ob (by kernel_rfl),?_⟩;refine ah ?_;refine aq ?_;simp -dsimp only[simprocAttr,↓aa,zp,zr,Try.results62,iz,List.length_set];rw[hR];exact⟨uJ jl,rfl,rfl⟩
theorem Cz:si Try.prog 132 .u64:=by
 obtain⟨⟨i,z,q1,q2,_⟩,_⟩:=hT 130 _ xK;exact⟨130,i,Try.underlying132,q1,q2,Try.underlying130,by kernel_rfl⟩
theorem Eh(N V:Bs):(decide ((N.a:Int)=V.a)&&decide ((N.b:Int)=V.b))=decide (N=V):=by
 obtain⟨n1,n2⟩:=N;obtain⟨v1,v2⟩:=V;simp only[Bs.mk.injEq,Int.natCast_inj];by_cases q1:n1=v1<;>by_cases q2:n2=v2<;>simp[q1,q2]
theorem qS(N V:Bs)(K:ga):mS Try.prog .neq 132 N.enc V.enc K=K (.v (.bool (!decide (N=V)))) .pure:=by
 show((IntKind.u64=IntKind.u64∧IntKind.u64=IntKind.u64∧IntKind.u64=IntKind.u64∧si Try.prog 132 .u64)∧on (iL .neq (decide ((N.a:Int)=V.a)&&decide ((N.b:Int)=V.b))) fun r=>K (.v (.bool r)) .pure)=_;rw[Eh];simp only[Cz,iL,s8,and_self,true_and]
theorem nu{sz:Nat}:∀{xs:List ae} {k:Nat} {x:ae},(∀y∈xs,y.cells.length=sz)->xs[k]?=some x->((ao xs).drop (k*sz)).take sz=x.cells
 | q::r,0,x,cU,h=>by
  simp only[List.getElem?_cons_zero,Option.some.injEq]at h;subst h;have hq:=cU q (by simp);simp only[ao,List.flatMap_cons,Nat.zero_mul,List.drop_zero];rw[List.take_append_of_le_length (by omega),List.take_of_length_le (by omega)]
 | q::r,k+1,x,cU,h=>by
  have ih:=nu (xs:=r) (k:=k) (x:=x) (fun y hy=>cU y (by simp[hy])) (by simpa using h);have hq:=cU q (by simp);have e1:(k+1)*sz-sz=k*sz:=by rw[Nat.succ_mul];omega
  have e3:sz<=(k+1)*sz:=by rw[Nat.succ_mul];omega
  simp only[ao,List.flatMap_cons]at ih ⊢;rw[List.drop_append,List.drop_of_length_le (by omega),hq,e1,List.nil_append];exact ih
theorem xo(l:List Bs):∀y∈l.map Bs.enc,y.cells.length=2:=fun y hy=>by
 obtain⟨s,_,rfl⟩:=List.mem_map.1 hy;rfl
theorem su(l:List Bs):(ao (l.map Bs.enc)).length=l.length*2:=by
 rw[bO (xo l),List.length_map]
theorem y8{l:List Bs}{k:Nat}{s:Bs}(h:l[k]?=some s):((ao (l.map Bs.enc)).drop (k*2)).take 2=[.v (.int .u64 s.a),.v (.int .u64 s.b)]:=nu (xo l) (x:=s.enc) (by simp[h])
theorem vE{l:List Bs}{k:Nat}(h:k<l.length)(s:Bs):aS (ao (l.map Bs.enc)) (k*2) [.v (.int .u64 s.a),.v (.int .u64 s.b)]=ao ((l.set k s).map Bs.enc):=by
 have:=kZ (xo l) (k:=k) (by simpa using h) (y:=s.enc) rfl;rw[<-List.map_set]at this;exact this
theorem gA(n:Nat)(l:List Bs):aw n (l.map Bs.enc):=by
 rw[aY];intro x hx;obtain⟨s,_,rfl⟩:=List.mem_map.1 hx;exact s.aN n
theorem g8(n:Nat)(l:List Bs):aw n (ao (l.map Bs.enc)):=by
 rw[aY];intro c hc;simp only[ao,List.mem_flatMap,List.mem_map]at hc;obtain⟨_,⟨p,_,rfl⟩,hc⟩:=hc;simp only[Bs.al,List.mem_cons,List.mem_nil_iff,or_false]at hc;rcases hc with rfl|rfl<;>trivial
theorem aB(s:Bs):ae.agg [.v (.int .u64 s.a),.v (.int .u64 s.b)]=s.enc:=rfl
theorem pK:∀n,n<=128->(re n).fit
 | 0,_=>Bs.lS
 | n+1,h=>Bs.mo (pK n (by omega)) (by omega)
theorem tN:∀n,n<=128->∀k,k<n->(re n).has k=true
 | n+1,h,k,hk=>by
  simp only[re];rw[Bs.has_add _ _ _ (by omega) (by omega)];by_cases e:k=n
  ·simp[e]
  rw[tN n (by omega) k (by omega)];rfl
theorem sE{f:Func}(h0:f.blocks≠[])(h1:f.blocks.length<=128):jS f.blocks.length (jW f) where
 few:=h1
 len:=by simp[jW]
 fit:=fun s hs=>by
  rcases List.mem_or_eq_of_mem_set hs with q|q
  ·rw[(List.mem_replicate.1 q).2];exact pK _ h1
  rw[q];exact Bs.mo Bs.lS (by omega)
 seen:=Bs.mo Bs.lS (by omega)
 self:=fun k hk=>by
  unfold Ds.at_ jW;by_cases e:k=0
  ·subst e;rw[List.getElem?_set_self (by simpa using hk)];decide
  rw[List.getElem?_set_ne (Ne.symm e)];simp only[List.getElem?_replicate,hk,if_true,Option.getD_some];exact tN _ h1 k hk
theorem Fc{l:List Nat}{b:Nat}(h:∀x∈l,x<=b):l.sum<=l.length*b:=by
 induction l with
 | nil=>simp
 | cons a r ih =>
  have:=h a (by simp);have:=ih fun x hx=>h x (by simp[hx]);simp only[List.sum_cons,List.length_cons,Nat.succ_mul];omega
theorem se{n:Nat}{S:Ds}(h:jS n S):S.weight<=16512:=by
 have h1:(S.over.map Bs.size).sum<=(S.over.map Bs.size).length*128:=Fc fun x hx=>by
  obtain⟨s,_,rfl⟩:=List.mem_map.1 hx;exact s.pd
 have h2:=h.few;have h3:=h.len;simp only[List.length_map]at h1;have h4:S.over.length*128<=128*128:=Nat.mul_le_mul_right _ (by omega);simp only[Ds.weight];omega
theorem rQ{f:Func}{S:Ds}(h:S.again=false)(n:Nat):ig f n S=S:=by
 cases n with
 | zero=>rfl
 | succ n=>simp[ig,h]
theorem pt(f:Func)(h0:f.blocks≠[])(h1:f.blocks.length<=128)(he:∀b∈f.blocks,∀e∈b.term.to,0<=e.block∧e.block.toNat<f.blocks.length) :
  bw Try.prog 78 [f.enc] (.df [.aE 2 ((jV f).1.map Bs.enc) .sh,(jV f).2.enc]):=by
 have hS:=sE h0 h1;have I1:=List.length_pos_iff.2 h0;have xC:∀(s:Bs) (k:Nat),s.fit->k<128->bw Try.prog 103 [s.enc,aI k] (s.add k).enc:=fun s k hs hk=>yP s hs k hk;obtain⟨R,hR⟩:∃R,R=ig f 20000 (jW f):=⟨_,rfl⟩
 have hM:jV f=(R.over,R.seen):=by rw[hR];rfl
 rw[hM];obtain⟨n,hn⟩:∃n,n=f.blocks.length:=⟨_,rfl⟩
 rw[<-hn]at hS I1 h1 he;have oY:ae.agg [.v (.int .u64 0),.v (.int .u64 0)]=Bs.none.enc:=rfl;refine zf true 0 Try.func78 Try.ntmps78 ?_;dsimp only[Tmp,TypeId,ax];refine aX ?_;simp -dsimp only[simprocAttr,↓aa,zp,Bs.al,Bs.av,Bs.an,aB];refine ah ?_;refine aH 1 0 (.ip none [aI f.name,ay f.blocks]) rfl (by simp[ak.aF]) trivial rfl ?_ ?_;rotate_left;simp -dsimp only[simprocAttr,↓aa,zp,Bs.al,Bs.av,Bs.an,aB]
 ·refine aX ?_;simp -dsimp only[simprocAttr,↓aa,zp,Bs.al,Bs.av,Bs.an,aB];refine ah ?_;refine dd ?_;simp -dsimp only[simprocAttr,↓aa,zp,Bs.al,Bs.av,Bs.an,aB,<-hn];refine ah ?_;refine aj (aU (ι:={j:Nat // j<=n}) (fun j=>⟨106,[(1,.ip none [aI f.name,ay f.blocks]),(3,.mp 1 0),(4,.mp 2 0),(17,aI n),(18,aI j.1)],[.gone,.cells [.v (.int .u64 0),.v (.int .u64 0)],.cells (re j.1).enc.cells]⟩) (fun j=>n-j.1) ⟨0,by omega⟩ ?_ ?_)
  ·refine zq rfl ?_ ?_;simp -dsimp only[simprocAttr,↓aa,zp,Bs.al,Bs.av,Bs.an,aB,zc]
   all_goals rfl
  rintro⟨j,hj⟩;have JP:=fun h=>xC (re j) j (pK j (by omega)) h;refine aX ?_;simp -dsimp only[simprocAttr,↓aa,zp,Bs.al,Bs.av,Bs.an,aB];refine ah ?_;apply gW rfl<;>intro h
  ·refine cA ?_;have aZ:j<n:=by simpa using h
   refine aK (aj ?_);refine aX ?_;simp -dsimp only[simprocAttr,↓aa,zp,Bs.al,Bs.av,Bs.an,aB];refine ah ?_;refine j1 ?_;simp -dsimp only[simprocAttr,↓aa,zp,Bs.al,Bs.av,Bs.an,aB];refine .inl ⟨_,(JP (by omega)),by simp only[aw,ae.upto,zt,zu,az,Bs.aN,Bs.an],au ?_⟩;simp -dsimp only[simprocAttr,↓aa,zp,Bs.al,Bs.av,Bs.an,aB];refine ah ?_;refine j1 ?_;simp -dsimp only[simprocAttr,↓aa,zp,Bs.al,Bs.av,Bs.an,aB]
   repeat(refine⟨by omega,?_⟩)
   refine fV ?_;refine⟨⟨j+1,aZ⟩,by simp;omega,?_⟩;refine zq rfl ?_ ?_;simp -dsimp only[simprocAttr,↓aa,zp,Bs.al,Bs.av,Bs.an,aB,zc]
   all_goals first|rfl|exact Sub.refl _
  refine aR ?_;simp -dsimp only[bX,ne_eq,Nat.reduceEqDiff,reduceCtorEq];have oH:j=n:=by simp at h;omega
  subst oH;refine aX ?_;simp -dsimp only[simprocAttr,↓aa,zp,Bs.al,Bs.av,Bs.an,aB,<-hn]
  repeat(refine⟨by omega,?_⟩)
  refine ah ?_;refine dd ?_;simp -dsimp only[simprocAttr,↓aa,zp,Bs.al,Bs.av,Bs.an,aB,<-hn];refine ah ?_;obtain⟨A,hA⟩:∃A,A=re j:=⟨_,rfl⟩
  rw[<-hA];refine aj (aU (ι:={i:Nat // i<=j}) (fun i=>⟨106,[(1,.ip none [aI f.name,ay f.blocks]),(3,.mp 1 0),(4,.mp 2 0),(6,.ms 3 0 j j),(30,aI j),(31,aI i.1)],[.gone,.cells [.v (.int .u64 0),.v (.int .u64 0)],.cells A.enc.cells,.cells (ao ((List.replicate i.1 A++List.replicate (j-i.1) Bs.none).map Bs.enc))]⟩) (fun i=>j-i.1) ⟨0,by omega⟩ ?_ ?_)
  ·refine zq rfl ?_ ?_;simp -dsimp only[simprocAttr,↓aa,zp,Bs.al,Bs.av,Bs.an,aB,zc];simp[ao,List.flatMap,Bs.al,Bs.none]
  rintro⟨i,hi⟩;have dp:(List.replicate i A++List.replicate (j-i) Bs.none).length=j:=by simp;omega
  refine aX ?_;simp -dsimp only[simprocAttr,↓aa,zp,Bs.al,Bs.av,Bs.an,aB];refine ah ?_;apply gW rfl<;>intro h
  ·refine cA ?_;have aZ:i<j:=by simpa using h
   have gw:=vE (l:=List.replicate i A++List.replicate (j-i) Bs.none) (k:=i) (by rw[dp];exact aZ) A;have o5:(List.replicate i A++List.replicate (j-i) Bs.none).set i A=List.replicate (i+1) A++List.replicate (j-(i+1)) Bs.none:=by
    obtain⟨q,hq⟩:∃q,j-i=q+1:=⟨j-i-1,by omega⟩
    rw[hq,show j-(i+1)=q by omega,List.set_append_right _ _ (by simp),List.replicate_succ' (n:=i)];simp[List.replicate_succ]
   rw[o5]at gw;have hlen:=su (List.replicate i A++List.replicate (j-i) Bs.none);rw[dp]at hlen;refine aK (aj ?_);refine aX ?_;simp -dsimp only[simprocAttr,↓aa,zp,Bs.al,Bs.av,Bs.an,aB];refine ah ?_;refine j1 ?_;simp -dsimp only[simprocAttr,↓aa,zp,Bs.al,Bs.av,Bs.an,aB,gw,hlen]
   repeat(refine⟨by omega,?_⟩)
   refine ah ?_;refine j1 ?_;simp -dsimp only[simprocAttr,↓aa,zp,Bs.al,Bs.av,Bs.an,aB]
   repeat(refine⟨by omega,?_⟩)
   refine fV ?_;refine⟨⟨i+1,aZ⟩,by simp;omega,?_⟩;refine zq rfl ?_ ?_;simp -dsimp only[simprocAttr,↓aa,zp,Bs.al,Bs.av,Bs.an,aB,zc]
   all_goals first|rfl|exact Sub.refl _
  refine aR ?_;simp -dsimp only[bX,ne_eq,Nat.reduceEqDiff,reduceCtorEq];have nP:i=j:=by simp at h;omega
  subst nP;have HB:=xC Bs.none 0 Bs.lS (by omega);have hlen:=su (List.replicate i A++List.replicate (i-i) Bs.none);rw[dp]at hlen;have gw:=vE (l:=List.replicate i A++List.replicate (i-i) Bs.none) (k:=0) (by rw[dp];exact I1) (Bs.none.add 0);have lF:(List.replicate i A++List.replicate (i-i) Bs.none).set 0 (Bs.none.add 0)=(jW f).over:=by
   simp[jW,<-hn,hA]
  rw[lF,Nat.zero_mul]at gw;have Gt:aI ((0:Nat):Int)=aI 0:=rfl;rw[Gt]at HB;refine aX ?_;simp -dsimp only[simprocAttr,↓aa,zp,Bs.al,Bs.av,Bs.an,aB,oY];refine .inl ⟨_,HB,by simp only[aw,ae.upto,zt,zu,az,Bs.aN,Bs.an],au ?_⟩;simp -dsimp only[simprocAttr,↓aa,zp,Bs.al,Bs.av,Bs.an,aB,gw,hlen];refine⟨by omega,by omega,?_⟩;refine ah ?_;refine aX ?_;simp -dsimp only[simprocAttr,↓aa,zp,Bs.al,Bs.av,Bs.an,aB,oY];refine .inl ⟨_,HB,by simp only[aw,ae.upto,zt,zu,az,Bs.aN,Bs.an],au ?_⟩;simp -dsimp only[simprocAttr,↓aa,zp,Bs.al,Bs.av,Bs.an,aB];refine ah ?_;refine dd ?_;simp -dsimp only[simprocAttr,↓aa,zp,Bs.al,Bs.av,Bs.an,aB];refine ah ?_;have JO:=se hS;refine aj (aU (ι:={x:Ds×Nat // jS i x.1∧R=ig f x.2 x.1∧(x.1.again=true->x.1.weight<x.2)}) (fun x=>⟨106,[(1,.ip none [aI f.name,ay f.blocks]),(3,.mp 1 0),(6,.ms 3 0 i i),(8,.mp 4 0),(9,.v (.bool x.1.1.again))],[.gone,.cells [.v (.int .u64 0),.v (.int .u64 0)],.cells A.enc.cells,.cells (ao (x.1.1.over.map Bs.enc)),.cells x.1.1.seen.enc.cells]⟩) (fun x=>x.1.1.weight+if x.1.1.again then 1 else 0) ⟨(jW f,20000),hS,hR,fun _=>by simp only;omega⟩ ?_ ?_)
  ·refine zq rfl ?_ ?_;simp -dsimp only[simprocAttr,↓aa,zp,Bs.al,Bs.av,Bs.an,aB,zc]
   all_goals first|rfl|exact Sub.refl _
  rintro⟨⟨S,q⟩,Er,Hk,Ib⟩;simp only at Er Hk Ib;refine dd ?_;simp -dsimp only[simprocAttr,↓aa,zp,Bs.al,Bs.av,Bs.an,aB];refine ah ?_;apply aP rfl<;>intro h
  ·refine cA ?_;have mO:S.again=true:=h;have Ib:=Ib mO;obtain⟨q,rfl⟩:∃q',q=q'+1:=⟨q-1,by omega⟩
   have Gi:R=ig f q (kk 0 ⟨S.over,S.seen,false⟩ f.blocks):=by
    rw[Hk];simp[ig,mO]
   have DH:jS i ⟨S.over,S.seen,false⟩:=⟨Er.few,Er.len,Er.fit,Er.seen,Er.self⟩
   have I3:=nD f.blocks (k:=0) DH he;obtain⟨S1,FL⟩:∃S1,S1=kk 0 ⟨S.over,S.seen,false⟩ f.blocks:=⟨_,rfl⟩
   rw[<-FL]at Gi I3;obtain⟨JZ,J1,Ip⟩:=I3;have I7:(⟨S.over,S.seen,false⟩:Ds).weight=S.weight:=rfl;rw[I7]at J1 Ip;refine aj ?_;refine aX ?_;simp -dsimp only[simprocAttr,↓aa,zp,Bs.al,Bs.av,Bs.an,aB];refine ah ?_;refine aX ?_;simp -dsimp only[simprocAttr,↓aa,zp,Bs.al,Bs.av,Bs.an,aB,<-hn];refine ah ?_;refine aj (aU (ι:={y:Nat×Ds // y.1<=i∧jS i y.2∧S1=kk y.1 y.2 (f.blocks.drop y.1)}) (fun y=>⟨106,[(1,.ip none [aI f.name,ay f.blocks]),(3,.mp 1 0),(6,.ms 3 0 i i),(8,.mp 4 0),(47,ay f.blocks),(48,aI i),(9,.v (.bool y.1.2.again)),(49,aI y.1.1)],[.gone,.cells [.v (.int .u64 0),.v (.int .u64 0)],.cells A.enc.cells,.cells (ao (y.1.2.over.map Bs.enc)),.cells y.1.2.seen.enc.cells]⟩) (fun y=>i-y.1.1) ⟨(0,⟨S.over,S.seen,false⟩),by simp,DH,FL⟩ ?_ ?_)
   ·refine zq rfl ?_ ?_;simp -dsimp only[simprocAttr,↓aa,zp,Bs.al,Bs.av,Bs.an,aB,zc]
    all_goals rfl
   rintro⟨⟨k,T⟩,hk,Gk,zW⟩;simp only at hk Gk zW;refine aX ?_;simp -dsimp only[simprocAttr,↓aa,zp,Bs.al,Bs.av,Bs.an,aB];refine ah ?_;apply gW rfl<;>intro h
   ·refine cA ?_;have aZ:k<i:=by simpa using h
    obtain⟨b,hb⟩:∃b,f.blocks[k]?=some b:=⟨f.blocks[k]'(by omega),List.getElem?_eq_getElem _⟩
    have jc:=List.mem_of_getElem? hb;rw[bS hb]at zW;simp only[kk]at zW;have IL:=xq (k:=k) Gk (he b jc);have Cl:=nM T.seen Gk.seen k (by omega);refine aK (aj ?_);refine aX ?_;simp -dsimp only[simprocAttr,↓aa,zp,Bs.al,Bs.av,Bs.an,aB,hb];refine ah ?_;refine aH 11 5 (.ip none [a6 b.params,bD b.ins,aI b.term.kind,aI b.term.arg,aI b.term.n,a6 b.term.cases,aJ b.term.to]) rfl (by simp[ak.aF]) trivial rfl ?_ ?_;rotate_left;simp -dsimp only[simprocAttr,↓aa,zp,Bs.al,Bs.av,Bs.an,aB]
    ·refine bT 5 [(1,.ip none [aI f.name,ay f.blocks]),(3,.mp 1 0),(6,.ms 3 0 i i),(8,.mp 4 0),(47,ay f.blocks),(48,aI i),(9,.v (.bool T.again)),(10,aI k),(11,.ip none [a6 b.params,bD b.ins,aI b.term.kind,aI b.term.arg,aI b.term.n,a6 b.term.cases,aJ b.term.to]),(49,aI k)] (by simp) (by omega) [.gone,.cells [.v (.int .u64 0),.v (.int .u64 0)],.cells A.enc.cells,.cells (ao (T.over.map Bs.enc)),.cells T.seen.enc.cells] ?_ ?_ ?_ ?_ ?_
     ·rfl
     ·simp[ak.upto,aw,ae.upto,az,Block.ai,Edge.ai,bE.ai,g8,Bs.al]
     ·simp[gj,St.get,bu,a7,Go.Av.look,Sub.refl]
     ·simp[ak.upto,aw,ae.upto,az,Block.ai,Edge.ai,bE.ai,g8,Bs.al]
     cases DX:T.seen.has k with
     | false =>
      rw[DX]at Cl;have HM:nC k T b=T:=by simp[nC,DX]
      rw[HM]at zW;refine dd ?_;simp -dsimp only[simprocAttr,↓aa,zp,Bs.al,Bs.av,Bs.an,aB];refine .inl ⟨_,Cl,by simp only[aw,ae.upto,zt,zu,az,Bs.aN,Bs.an],au ?_⟩;simp -dsimp only[simprocAttr,↓aa,zp,Bs.al,Bs.av,Bs.an,aB];refine ah ?_;refine cS rfl ?_;refine aR ?_;simp -dsimp only[bX,ne_eq,Nat.reduceEqDiff,reduceCtorEq];refine j1 ?_;simp -dsimp only[simprocAttr,↓aa,zp,Bs.al,Bs.av,Bs.an,aB]
      repeat(refine⟨by omega,?_⟩)
      refine fV ?_;refine⟨⟨(k+1,T),by simp only;omega,Gk,zW⟩,by simp;omega,?_⟩;refine zq rfl ?_ ?_;simp -dsimp only[simprocAttr,↓aa,zp,Bs.al,Bs.av,Bs.an,aB,zc]
      all_goals first|rfl|exact Sub.refl _
     | true =>
      rw[DX]at Cl;have HM:nC k T b=b.term.to.foldl (gL k) T:=by simp[nC,DX]
      rw[HM]at zW IL;refine dd ?_;simp -dsimp only[simprocAttr,↓aa,zp,Bs.al,Bs.av,Bs.an,aB];refine .inl ⟨_,Cl,by simp only[aw,ae.upto,zt,zu,az,Bs.aN,Bs.an],au ?_⟩;simp -dsimp only[simprocAttr,↓aa,zp,Bs.al,Bs.av,Bs.an,aB];refine ah ?_;apply aP rfl<;>intro h
      ·cases h
      refine cA ?_;refine aX ?_;simp -dsimp only[simprocAttr,↓aa,zp,Bs.al,Bs.av,Bs.an,aB];refine ah ?_;refine ff 60 rfl (fun iq=>?_);simp only[List.length_map]at iq;obtain⟨T1,Gj⟩:∃T1,T1=b.term.to.foldl (gL k) T:=⟨_,rfl⟩
      rw[<-Gj]at zW IL;refine aj (aU (ι:={y:Nat×Ds // y.1<=b.term.to.length∧jS i y.2∧T1=(b.term.to.drop y.1).foldl (gL k) y.2}) (fun y=>⟨106,[(1,.ip none [aI f.name,ay f.blocks]),(3,.mp 1 0),(6,.ms 3 0 i i),(8,.mp 4 0),(47,ay f.blocks),(48,aI i),(9,.v (.bool y.1.2.again)),(10,aI k),(49,aI k),(60,aJ b.term.to),(61,aI b.term.to.length),(62,aI y.1.1)],[.gone,.cells [.v (.int .u64 0),.v (.int .u64 0)],.cells A.enc.cells,.cells (ao (y.1.2.over.map Bs.enc)),.cells y.1.2.seen.enc.cells]⟩) (fun y=>b.term.to.length-y.1.1) ⟨(0,T),by simp,Gk,Gj⟩ ?_ ?_)
      ·refine zq rfl ?_ ?_;simp -dsimp only[simprocAttr,↓aa,zp,Bs.al,Bs.av,Bs.an,aB,zc]
       all_goals rfl
      rintro⟨⟨z,U⟩,hz,yb,B7⟩;simp only at hz yb B7;refine aX ?_;simp -dsimp only[simprocAttr,↓aa,zp,Bs.al,Bs.av,Bs.an,aB];refine ah ?_;apply gW rfl<;>intro h
      ·refine cA ?_;have Cn:z<b.term.to.length:=by simpa using h
       obtain⟨e,r6⟩:∃e,b.term.to[z]?=some e:=⟨b.term.to[z],by simp[Cn]⟩
       obtain⟨Bu,pE⟩:=he b jc e (List.mem_of_getElem? r6);rw[bS r6]at B7;simp only[List.foldl_cons]at B7;have jn:=xr (k:=k) yb Bu pE;obtain⟨ej,FN⟩:∃ej:Nat,e.block=ej:=⟨e.block.toNat,by omega⟩
       have GF:e.block.toNat=ej:=by omega
       rw[GF]at pE;have By:U.over[ej]?=some (U.at_ ej):=by
        have:ej<U.over.length:=by rw[yb.len];exact pE
        simp[Ds.at_,this]
       have jJ:U.over[k]?=some (U.at_ k):=by
        have:k<U.over.length:=by rw[yb.len];exact aZ
        simp[Ds.at_,this]
       have Gq:=xQ (U.at_ ej) (U.at_ k) (yb.sq ej) (yb.sq k);have Bv:=Bs.um (t:=U.at_ k) (yb.sq ej);have Es:=xC ((U.at_ ej).meet (U.at_ k)) ej Bv (by omega);have jr:=Bs.mo Bv (k:=ej) (by omega);have nS:=nM U.seen yb.seen ej (by omega);have DW:=xC U.seen ej yb.seen (by omega);have lK:=y8 By;have Ck:=y8 jJ;have uH:=su U.over;rw[yb.len]at uH;have HL:gL k U e=if((U.at_ ej).meet (U.at_ k)).add ej≠U.at_ ej∨U.seen.has ej=false then⟨U.over.set ej (((U.at_ ej).meet (U.at_ k)).add ej),U.seen.add ej,true⟩else U:=by
        simp only[gL,GF]
       generalize Ka:(U.at_ ej).meet (U.at_ k)=M1 at *;generalize hN:M1.add ej=N at *;generalize hV:U.at_ ej=V at *;have gw:=vE (l:=U.over) (k:=ej) (by rw[yb.len];exact pE) N;refine aK (aj ?_);refine aX ?_;simp -dsimp only[simprocAttr,↓aa,zp,Bs.al,Bs.av,Bs.an,aB,r6];refine ah ?_;refine aH 13 5 (.ip none [aI e.block,a6 e.args]) rfl (by simp[ak.aF]) trivial rfl ?_ ?_;rotate_left;simp -dsimp only[simprocAttr,↓aa,zp,Bs.al,Bs.av,Bs.an,aB]
       ·refine bT 5 [(1,.ip none [aI f.name,ay f.blocks]),(3,.mp 1 0),(6,.ms 3 0 i i),(8,.mp 4 0),(47,ay f.blocks),(48,aI i),(9,.v (.bool U.again)),(10,aI k),(13,.ip none [aI e.block,a6 e.args]),(49,aI k),(60,aJ b.term.to),(61,aI b.term.to.length),(62,aI z)] (by simp) (by omega) [.gone,.cells [.v (.int .u64 0),.v (.int .u64 0)],.cells A.enc.cells,.cells (ao (U.over.map Bs.enc)),.cells U.seen.enc.cells] ?_ ?_ ?_ ?_ ?_
        ·rfl
        ·simp[ak.upto,aw,ae.upto,az,Block.ai,Edge.ai,bE.ai,g8,Bs.al]
        ·simp[gj,St.get,bu,a7,Go.Av.look,Sub.refl]
        ·simp[ak.upto,aw,ae.upto,az,Block.ai,Edge.ai,bE.ai,g8,Bs.al]
        refine aX ?_;simp -dsimp only[simprocAttr,↓aa,zp,Bs.al,Bs.av,Bs.an,aB,FN,Int.toNat_natCast,lK,Ck,uH];refine⟨by omega,by omega,by omega,by omega,?_⟩;refine .inl ⟨_,Gq,by simp only[aw,ae.upto,zt,zu,az,Bs.aN,Bs.an],au ?_⟩;simp -dsimp only[simprocAttr,↓aa,zp,Bs.al,Bs.av,Bs.an,aB];refine .inl ⟨_,Es,by simp only[aw,ae.upto,zt,zu,az,Bs.aN,Bs.an],au ?_⟩;simp -dsimp only[simprocAttr,↓aa,zp,Bs.al,Bs.av,Bs.an,aB];refine⟨ob (by kernel_rfl),?_⟩;refine ah ?_;have Gr:=g8 5 (U.over.set ej N);rw[List.map_set]at Gr;by_cases Hj:N=V
        ·have Hm:decide (N=V)=true:=decide_eq_true Hj;cases yj:U.seen.has ej with
         | true =>
          rw[yj]at nS;have wh:gL k U e=U:=by rw[HL,if_neg (by simp[Hj,yj])]
          refine aX ?_;simp -dsimp only[simprocAttr,↓aa,zp,Bs.al,Bs.av,Bs.an,aB,FN,Int.toNat_natCast,lK,uH,qS,Hm]
          repeat(refine⟨by omega,?_⟩)
          refine .inl ⟨_,nS,by simp only[aw,ae.upto,zt,zu,az,Bs.aN,Bs.an],au ?_⟩;simp -dsimp only[simprocAttr,↓aa,zp,Bs.al,Bs.av,Bs.an,aB];refine⟨ob (by kernel_rfl),?_⟩;refine ah ?_;refine cE rfl ?_;refine jR ?_;refine bT 5 [(1,.ip none [aI f.name,ay f.blocks]),(3,.mp 1 0),(6,.ms 3 0 i i),(8,.mp 4 0),(47,ay f.blocks),(48,aI i),(9,.v (.bool U.again)),(10,aI k),(49,aI k),(60,aJ b.term.to),(61,aI b.term.to.length),(62,aI z)] (by simp) (by omega) [.gone,.cells [.v (.int .u64 0),.v (.int .u64 0)],.cells A.enc.cells,.cells (ao ((U.over).map Bs.enc)),.cells (U.seen).enc.cells] ?_ ?_ ?_ ?_ ?_
          ·rfl
          ·simp[ak.upto,aw,ae.upto,az,Block.ai,Edge.ai,bE.ai,g8,Bs.al]
          ·simp[gj,St.get,bu,a7,Go.Av.look,Sub.refl]
          ·simp[ak.upto,aw,ae.upto,az,Block.ai,Edge.ai,bE.ai,g8,Bs.al]
          refine j1 ?_;simp -dsimp only[simprocAttr,↓aa,zp,Bs.al,Bs.av,Bs.an,aB]
          repeat(refine⟨by omega,?_⟩)
          refine fV ?_;refine⟨⟨(z+1,U),by simp only;omega,yb,by rw[B7,wh]⟩,by simp;omega,?_⟩;refine zq rfl ?_ ?_;simp -dsimp only[simprocAttr,↓aa,zp,Bs.al,Bs.av,Bs.an,aB,zc]
          all_goals first|rfl|exact Sub.refl _
         | false =>
          rw[yj]at nS;have wh:gL k U e=⟨U.over.set ej N,U.seen.add ej,true⟩:=by rw[HL,if_pos (.inr yj)]
          refine aX ?_;simp -dsimp only[simprocAttr,↓aa,zp,Bs.al,Bs.av,Bs.an,aB,FN,Int.toNat_natCast,lK,uH,qS,Hm]
          repeat(refine⟨by omega,?_⟩)
          refine .inl ⟨_,nS,by simp only[aw,ae.upto,zt,zu,az,Bs.aN,Bs.an],au ?_⟩;simp -dsimp only[simprocAttr,↓aa,zp,Bs.al,Bs.av,Bs.an,aB];refine⟨ob (by kernel_rfl),?_⟩;refine ah ?_;refine cS rfl ?_;refine j1 ?_;simp -dsimp only[simprocAttr,↓aa,zp,Bs.al,Bs.av,Bs.an,aB,FN,Int.toNat_natCast,gw,uH]
          repeat(refine⟨by omega,?_⟩)
          refine .inl ⟨_,DW,by simp only[aw,ae.upto,zt,zu,az,Bs.aN,Bs.an],au ?_⟩;simp -dsimp only[simprocAttr,↓aa,zp,Bs.al,Bs.av,Bs.an,aB,gw,uH]
          repeat(refine⟨by omega,?_⟩)
          refine⟨ob (by kernel_rfl),?_⟩;refine ah ?_;refine bT 5 [(1,.ip none [aI f.name,ay f.blocks]),(3,.mp 1 0),(6,.ms 3 0 i i),(8,.mp 4 0),(47,ay f.blocks),(48,aI i),(9,.v (.bool true)),(10,aI k),(49,aI k),(60,aJ b.term.to),(61,aI b.term.to.length),(62,aI z)] (by simp) (by omega) [.gone,.cells [.v (.int .u64 0),.v (.int .u64 0)],.cells A.enc.cells,.cells (ao ((U.over.set ej N).map Bs.enc)),.cells (U.seen.add ej).enc.cells] ?_ ?_ ?_ ?_ ?_
          ·rfl
          ·simp[ak.upto,aw,ae.upto,az,Block.ai,Edge.ai,bE.ai,g8,Bs.al,Gr]
          ·simp[gj,St.get,bu,a7,Go.Av.look,Sub.refl]
          ·simp[ak.upto,aw,ae.upto,az,Block.ai,Edge.ai,bE.ai,g8,Bs.al]
          refine j1 ?_;simp -dsimp only[simprocAttr,↓aa,zp,Bs.al,Bs.av,Bs.an,aB]
          repeat(refine⟨by omega,?_⟩)
          refine fV ?_;refine⟨⟨(z+1,⟨U.over.set ej N,U.seen.add ej,true⟩),by simp only;omega,by rw[<-wh];exact jn.1,by rw[B7,wh]⟩,by simp;omega,?_⟩;refine zq rfl ?_ ?_;simp -dsimp only[simprocAttr,↓aa,zp,Bs.al,Bs.av,Bs.an,aB,zc]
          all_goals first|rfl|exact Sub.refl _
        have Hm:decide (N=V)=false:=decide_eq_false Hj;have wh:gL k U e=⟨U.over.set ej N,U.seen.add ej,true⟩:=by rw[HL,if_pos (.inl Hj)]
        refine aX ?_;simp -dsimp only[simprocAttr,↓aa,zp,Bs.al,Bs.av,Bs.an,aB,FN,Int.toNat_natCast,lK,uH,qS,Hm]
        repeat(refine⟨by omega,?_⟩)
        refine⟨ob (by kernel_rfl),?_⟩;refine ah ?_;refine cS rfl ?_;refine j1 ?_;simp -dsimp only[simprocAttr,↓aa,zp,Bs.al,Bs.av,Bs.an,aB,FN,Int.toNat_natCast,gw,uH]
        repeat(refine⟨by omega,?_⟩)
        refine .inl ⟨_,DW,by simp only[aw,ae.upto,zt,zu,az,Bs.aN,Bs.an],au ?_⟩;simp -dsimp only[simprocAttr,↓aa,zp,Bs.al,Bs.av,Bs.an,aB,gw,uH]
        repeat(refine⟨by omega,?_⟩)
        refine⟨ob (by kernel_rfl),?_⟩;refine ah ?_;refine bT 5 [(1,.ip none [aI f.name,ay f.blocks]),(3,.mp 1 0),(6,.ms 3 0 i i),(8,.mp 4 0),(47,ay f.blocks),(48,aI i),(9,.v (.bool true)),(10,aI k),(49,aI k),(60,aJ b.term.to),(61,aI b.term.to.length),(62,aI z)] (by simp) (by omega) [.gone,.cells [.v (.int .u64 0),.v (.int .u64 0)],.cells A.enc.cells,.cells (ao ((U.over.set ej N).map Bs.enc)),.cells (U.seen.add ej).enc.cells] ?_ ?_ ?_ ?_ ?_
        ·rfl
        ·simp[ak.upto,aw,ae.upto,az,Block.ai,Edge.ai,bE.ai,g8,Bs.al,Gr]
        ·simp[gj,St.get,bu,a7,Go.Av.look,Sub.refl]
        ·simp[ak.upto,aw,ae.upto,az,Block.ai,Edge.ai,bE.ai,g8,Bs.al]
        refine j1 ?_;simp -dsimp only[simprocAttr,↓aa,zp,Bs.al,Bs.av,Bs.an,aB]
        repeat(refine⟨by omega,?_⟩)
        refine fV ?_;refine⟨⟨(z+1,⟨U.over.set ej N,U.seen.add ej,true⟩),by simp only;omega,by rw[<-wh];exact jn.1,by rw[B7,wh]⟩,by simp;omega,?_⟩;refine zq rfl ?_ ?_;simp -dsimp only[simprocAttr,↓aa,zp,Bs.al,Bs.av,Bs.an,aB,zc]
        all_goals first|rfl|exact Sub.refl _
       exact cw.mp rfl rfl
      refine aR ?_;simp -dsimp only[bX,ne_eq,Nat.reduceEqDiff,reduceCtorEq];have gp:z=b.term.to.length:=by simp at h;omega
      subst gp;rw[List.drop_length]at B7;simp only[List.foldl_nil]at B7;refine j1 ?_;simp -dsimp only[simprocAttr,↓aa,zp,Bs.al,Bs.av,Bs.an,aB]
      repeat(refine⟨by omega,?_⟩)
      refine fV ?_;refine⟨⟨(k+1,U),by simp only;omega,yb,by rw[zW,B7]⟩,by simp;omega,?_⟩;refine zq rfl ?_ ?_;simp -dsimp only[simprocAttr,↓aa,zp,Bs.al,Bs.av,Bs.an,aB,zc]
      all_goals first|rfl|exact Sub.refl _
    exact cw.mp rfl rfl
   refine aR ?_;simp -dsimp only[bX,ne_eq,Nat.reduceEqDiff,reduceCtorEq];have JC:k=i:=by simp at h;omega
   subst JC;rw[hn,List.drop_length]at zW;simp only[kk]at zW;subst zW;have Ab:S1.again=true->S1.weight<q:=fun hh=>by
    rcases Ip hh with r|r
    ·cases r
    omega
   refine⟨⟨(S1,q),JZ,Gi,Ab⟩,?_,?_⟩
   ·simp only[mO,if_true];cases yi:S1.again
    ·simp;omega
    rcases Ip yi with r|r
    ·cases r
    simp;omega
   refine zq rfl ?_ ?_;simp -dsimp only[simprocAttr,↓aa,zp,Bs.al,Bs.av,Bs.an,aB,zc]
   all_goals rfl
  refine aR ?_;simp -dsimp only[bX,ne_eq,Nat.reduceEqDiff,reduceCtorEq];have mO:S.again=false:=h;rw[rQ mO]at Hk;subst Hk;have cU:=Er.len;refine aH 6 3 (.aE 2 (R.over.map Bs.enc) .sh) rfl (by simp[ak.aF]) trivial rfl ?_ ?_;rotate_left;simp -dsimp only[simprocAttr,↓aa,zp,Bs.al,Bs.av,Bs.an,aB]
  ·refine aX ?_;simp -dsimp only[simprocAttr,↓aa,zp,Bs.al,Bs.av,Bs.an,aB];refine⟨ob (by kernel_rfl),?_⟩;refine ah ?_;refine aq ?_;simp -dsimp only[simprocAttr,↓aa,zp,Bs.al,Bs.av,Bs.an,aB,zr,Try.results78];exact⟨⟨gA _ _,trivial⟩,Bs.aN _ _,trivial⟩
  refine cw.ms rfl (xo R.over) (by simp[cU]) ?_;rw[List.drop_zero,List.take_of_length_le (by rw[su,cU];exact Nat.le_refl _),<-fi];simp[List.map_map,Function.comp_def,Bs.an]
 exact cw.mp rfl rfl
abbrev zb(f:Func)(ds:Defs)(over:List Bs)(seen:Bs)(k:Nat)(A:Nat):List ae:=[.ip none [.ip none [aI f.name,ay f.blocks,.im (.int .i64) (ds.map fc)]],.ip none [aI (k:Int)],.mp A 0,.ip none [.aE 2 (over.map Bs.enc) .sh],.ip none [.v (.int .u64 seen.a),.v (.int .u64 seen.b)]]
def ik(ds:Defs)(over:List Bs)(seen:Bs)(k:Nat)(at_:Int)(v:Int):Bool :=
 match fC ds v with
 | none=>false
 | some p=>(decide (p.1=k)&&decide (p.2<=at_)) || ((!decide (p.1=k)&&(over[k]?.getD .none).has p.1.toNat) || !seen.has k)
def vq(n:Nat)(ds:Defs):Prop:=∀v p,fC ds v=some p->0<=p.1∧p.1.toNat<n
theorem x9{O:List ak}(bC:∀o∈O,o.upto O.length){f:Func}{ds:Defs}{over:List Bs}{seen:Bs}{k A:Nat}{at_:Int}(hA:O[A]?=some (.cells [aI at_]))(hn:over.length<=128)(hk:k<over.length)(bB:∀s∈over,s.fit)(Cj:seen.fit)(nk:vq over.length ds)(v:Int) :
  bc Try.prog 79 O (aI v::zb f ds over seen k A) (fun r O'=>r=.v (.bool (ik ds over seen k at_ v))∧O'=O):=by
 have yS:=I hA;have jJ:over[k]?=some over[k]:=List.getElem?_eq_getElem hk;have IP:=bB _ (List.getElem_mem hk);obtain⟨s,hs⟩:∃s,s=over[k]:=⟨_,rfl⟩
 rw[<-hs]at jJ IP;have nS:=nM seen Cj k (by omega);unfold ik;have J':∀X,(O++X)[A]?=some (.cells [aI at_]):=fun X=>bJ hA;have Kd:=fj O.length ds;rw[jJ];simp only[Option.getD_some];generalize DX:seen.has k=sk at *;cases hl:fC ds v with
 | none =>
  refine zf true O.length Try.func79 Try.ntmps79 ?_;dsimp only[Tmp,TypeId,ax];refine aX ?_;simp -dsimp only[simprocAttr,↓aa,zp,Bs.al,Bs.av,Bs.an,aB];refine ah ?_;refine aX ?_;simp -dsimp only[simprocAttr,↓aa,zp,Bs.al,Bs.av,Bs.an,aB,iC,hl,Option.map_none,Option.getD_none,Option.isSome_none];refine ah ?_;refine aO 8 ([aI 0,aI 0]) [(9,.v (.bool false))] rfl (by rfl) (by omega) (by simp[bu,a7,Go.Av.look]) ?_ ?_ ?_
  ·exact bC
  ·simp[ae.upto]
  refine aX ?_;simp -dsimp only[simprocAttr,↓aa,zp,Bs.al,Bs.av,Bs.an,aB];refine⟨ob (by kernel_rfl),?_⟩;refine ah ?_;refine aq ?_;simp -dsimp only[simprocAttr,↓aa,zp,Bs.al,Bs.av,Bs.an,aB,zr,Try.results79];exact bC
 | some p =>
  have hq:eD p=.agg [aI p.1,aI p.2]:=rfl;obtain⟨b0,b1⟩:=nk v p hl;have lF:=nM s IP p.1.toNat (by omega)
  rw[show((p.1.toNat:Nat):Int)=p.1 by omega]at lF;simp only;generalize s.has p.1.toNat=sv at *;by_cases DT:p.1=k
  ·have hd:decide (p.1=(k:Int))=true:=decide_eq_true DT;by_cases ET:p.2<=at_
   ·have mv:decide (p.2<=at_)=true:=decide_eq_true ET;rw[hd,mv];refine zf true O.length Try.func79 Try.ntmps79 ?_;dsimp only[Tmp,TypeId,ax];refine aX ?_;simp -dsimp only[simprocAttr,↓aa,zp,Bs.al,Bs.av,Bs.an,aB];refine ah ?_;refine aX ?_;simp -dsimp only[simprocAttr,↓aa,zp,Bs.al,Bs.av,Bs.an,aB,iC,hl,hq,Option.map_some,Option.getD_some,Option.isSome_some];refine ah ?_;refine aO 8 ([aI p.1,aI p.2]) [(2,.ip none [aI k]),(3,.mp A 0),(4,.ip none [.aE 2 (over.map Bs.enc) .sh]),(5,.ip none [.v (.int .u64 seen.a),.v (.int .u64 seen.b)]),(8,.ip none [aI p.1,aI p.2]),(9,.v (.bool true))] rfl (by rfl) (by omega) (by simp[bu,a7,Go.Av.look]) ?_ ?_ ?_
    ·exact bC
    ·simp[ae.upto,aw,yS,gA]
    refine aX ?_;simp -dsimp only[simprocAttr,↓aa,zp,Bs.al,Bs.av,Bs.an,aB,hA,jJ,Int.toNat_natCast,hd,mv];refine⟨ob (by kernel_rfl),?_⟩;refine ah ?_;refine aq ?_;simp -dsimp only[simprocAttr,↓aa,zp,Bs.al,Bs.av,Bs.an,aB,zr,Try.results79];exact⟨bC,by simp⟩
   have mv:decide (p.2<=at_)=false:=decide_eq_false ET;rw[hd,mv];refine zf true O.length Try.func79 Try.ntmps79 ?_;dsimp only[Tmp,TypeId,ax];refine aX ?_;simp -dsimp only[simprocAttr,↓aa,zp,Bs.al,Bs.av,Bs.an,aB];refine ah ?_;refine aX ?_;simp -dsimp only[simprocAttr,↓aa,zp,Bs.al,Bs.av,Bs.an,aB,iC,hl,hq,Option.map_some,Option.getD_some,Option.isSome_some];refine ah ?_;refine aO 8 ([aI p.1,aI p.2]) [(2,.ip none [aI k]),(3,.mp A 0),(4,.ip none [.aE 2 (over.map Bs.enc) .sh]),(5,.ip none [.v (.int .u64 seen.a),.v (.int .u64 seen.b)]),(8,.ip none [aI p.1,aI p.2]),(9,.v (.bool true))] rfl (by rfl) (by omega) (by simp[bu,a7,Go.Av.look]) ?_ ?_ ?_
   ·exact bC
   ·simp[ae.upto,aw,yS,gA]
   refine aX ?_;simp -dsimp only[simprocAttr,↓aa,zp,Bs.al,Bs.av,Bs.an,aB,hA,jJ,Int.toNat_natCast,hd,mv];refine .inl ⟨_,nS,by simp only[aw,ae.upto,zt,zu,az,Bs.aN,Bs.an],au ?_⟩;simp -dsimp only[simprocAttr,↓aa,zp,Bs.al,Bs.av,Bs.an,aB,hd,mv,hA,jJ,Int.toNat_natCast];refine⟨ob (by kernel_rfl),?_⟩;refine ah ?_;refine aq ?_;simp -dsimp only[simprocAttr,↓aa,zp,Bs.al,Bs.av,Bs.an,aB,zr,Try.results79];exact⟨bC,by simp⟩
  have hd:decide (p.1=(k:Int))=false:=decide_eq_false DT;rw[hd];cases sv with
  | true =>
   refine zf true O.length Try.func79 Try.ntmps79 ?_;dsimp only[Tmp,TypeId,ax];refine aX ?_;simp -dsimp only[simprocAttr,↓aa,zp,Bs.al,Bs.av,Bs.an,aB];refine ah ?_;refine aX ?_;simp -dsimp only[simprocAttr,↓aa,zp,Bs.al,Bs.av,Bs.an,aB,iC,hl,hq,Option.map_some,Option.getD_some,Option.isSome_some];refine ah ?_;refine aO 8 ([aI p.1,aI p.2]) [(2,.ip none [aI k]),(3,.mp A 0),(4,.ip none [.aE 2 (over.map Bs.enc) .sh]),(5,.ip none [.v (.int .u64 seen.a),.v (.int .u64 seen.b)]),(8,.ip none [aI p.1,aI p.2]),(9,.v (.bool true))] rfl (by rfl) (by omega) (by simp[bu,a7,Go.Av.look]) ?_ ?_ ?_
   ·exact bC
   ·simp[ae.upto,aw,yS,gA]
   refine aX ?_;simp -dsimp only[simprocAttr,↓aa,zp,Bs.al,Bs.av,Bs.an,aB,hA,jJ,Int.toNat_natCast,hd];refine .inl ⟨_,lF,by simp only[aw,ae.upto,zt,zu,az,Bs.aN,Bs.an],au ?_⟩;simp -dsimp only[simprocAttr,↓aa,zp,Bs.al,Bs.av,Bs.an,aB,hd,hA,jJ,Int.toNat_natCast];refine⟨ob (by kernel_rfl),?_⟩;refine ah ?_;refine aq ?_;simp -dsimp only[simprocAttr,↓aa,zp,Bs.al,Bs.av,Bs.an,aB,zr,Try.results79];exact⟨bC,by simp⟩
  | false =>
   refine zf true O.length Try.func79 Try.ntmps79 ?_;dsimp only[Tmp,TypeId,ax];refine aX ?_;simp -dsimp only[simprocAttr,↓aa,zp,Bs.al,Bs.av,Bs.an,aB];refine ah ?_;refine aX ?_;simp -dsimp only[simprocAttr,↓aa,zp,Bs.al,Bs.av,Bs.an,aB,iC,hl,hq,Option.map_some,Option.getD_some,Option.isSome_some];refine ah ?_;refine aO 8 ([aI p.1,aI p.2]) [(2,.ip none [aI k]),(3,.mp A 0),(4,.ip none [.aE 2 (over.map Bs.enc) .sh]),(5,.ip none [.v (.int .u64 seen.a),.v (.int .u64 seen.b)]),(8,.ip none [aI p.1,aI p.2]),(9,.v (.bool true))] rfl (by rfl) (by omega) (by simp[bu,a7,Go.Av.look]) ?_ ?_ ?_
   ·exact bC
   ·simp[ae.upto,aw,yS,gA]
   refine aX ?_;simp -dsimp only[simprocAttr,↓aa,zp,Bs.al,Bs.av,Bs.an,aB,hA,jJ,Int.toNat_natCast,hd];refine .inl ⟨_,lF,by simp only[aw,ae.upto,zt,zu,az,Bs.aN,Bs.an],au ?_⟩;simp -dsimp only[simprocAttr,↓aa,zp,Bs.al,Bs.av,Bs.an,aB,hd,hA,jJ,Int.toNat_natCast];refine .inl ⟨_,nS,by simp only[aw,ae.upto,zt,zu,az,Bs.aN,Bs.an],au ?_⟩;simp -dsimp only[simprocAttr,↓aa,zp,Bs.al,Bs.av,Bs.an,aB,hd,hA,jJ,Int.toNat_natCast];refine⟨ob (by kernel_rfl),?_⟩;refine ah ?_;refine aq ?_;simp -dsimp only[simprocAttr,↓aa,zp,Bs.al,Bs.av,Bs.an,aB,zr,Try.results79];exact⟨bC,by simp⟩
def ma(t:Term)(p:Int->Bool):Bool:=((decide (t.kind=1) ||decide (t.kind=4)) ||p t.arg)&&t.to.all fun e=>e.args.all p
theorem pL{α:Type}{l:List α}{p:α->Bool}{j:Nat}{x:α}(h:l[j]?=some x):(l.drop j).all p=(p x&&(l.drop (j+1)).all p):=by
 rw[bS h];rfl
theorem yN{O:List ak}(bC:∀o∈O,o.upto O.length)(id:Nat)(jd:List ae)(ry:aw O.length jd)(p:Int->Bool)(hp:∀v,bc Try.prog id O (aI v::jd) (fun r O'=>r=.v (.bool (p v))∧O'=O))(t:Term) :
  bc Try.prog 81 O [t.enc,.fn (.func id) [] jd] (fun r O'=>r=.v (.bool (ma t p))∧O'=O):=by
 obtain⟨R,hR⟩:∃R,R=ma t p:=⟨_,rfl⟩
 rw[<-hR];unfold ma at hR;have yV:ae.upto O.length (.fn (.func id) [] jd):=⟨trivial,ry⟩
 have ET:=hp t.arg;refine zf true O.length Try.func81 Try.ntmps81 ?_;dsimp only[Tmp,TypeId,ax];refine aX ?_;simp -dsimp only[simprocAttr,↓aa,zp,Bs.al,Bs.av,Bs.an,aB];refine ah ?_;refine aO 2 ([aI t.kind,aI t.arg,aI t.n,a6 t.cases,aJ t.to]) [(1,.fn (.func id) [] jd),(2,.ip none [aI t.kind,aI t.arg,aI t.n,a6 t.cases,aJ t.to]),(4,.v (.bool false))] rfl (by rfl) (by omega) (by simp[bu,a7,Go.Av.look]) ?_ ?_ ?_
 ·exact bC
 ·simp[ae.upto,aw,az,Edge.ai,ry]
 cases hb:(decide (t.kind=1) ||decide (t.kind=4)) ||p t.arg with
 | false =>
  rw[hb]at hR;obtain⟨h1,h4,xw⟩:decide (t.kind=1)=false∧decide (t.kind=4)=false∧p t.arg=false:=by
   revert hb;cases decide (t.kind=1)<;>cases decide (t.kind=4)<;>cases p t.arg<;>simp
  rw[xw]at ET;refine dd ?_;simp -dsimp only[simprocAttr,↓aa,zp,Bs.al,Bs.av,Bs.an,aB,h1,h4];refine .inr (.inr ⟨_,ET,au ?_⟩);simp -dsimp only[simprocAttr,↓aa,zp,Bs.al,Bs.av,Bs.an,aB];refine ah ?_;refine cS rfl ?_;refine aX ?_;simp -dsimp only[simprocAttr,↓aa,zp,Bs.al,Bs.av,Bs.an,aB];refine ah ?_;refine aq ?_;simp -dsimp only[simprocAttr,↓aa,zp,Bs.al,Bs.av,Bs.an,aB,zr,Try.results81];exact⟨bC,by rw[hR];rfl⟩
 | true =>
  rw[hb,Bool.true_and]at hR;refine gI (⟨44,[(1,.fn (.func id) [] jd),(2,.ip none [aI t.kind,aI t.arg,aI t.n,a6 t.cases,aJ t.to]),(4,.v (.bool false))],O⟩) ?_ ?_
  ·cases h1:decide (t.kind=1)with
   | true =>
    refine aX ?_;simp -dsimp only[simprocAttr,↓aa,zp,Bs.al,Bs.av,Bs.an,aB,h1];refine ah ?_;refine cE rfl ?_;refine a8 ?_;show bg _ _;refine zq rfl ?_ ?_;simp -dsimp only[simprocAttr,↓aa,zp,Bs.al,Bs.av,Bs.an,aB,zc];rfl
   | false =>
    cases h4:decide (t.kind=4)with
    | true =>
     refine aX ?_;simp -dsimp only[simprocAttr,↓aa,zp,Bs.al,Bs.av,Bs.an,aB,h1,h4];refine ah ?_;refine cE rfl ?_;refine a8 ?_;show bg _ _;refine zq rfl ?_ ?_;simp -dsimp only[simprocAttr,↓aa,zp,Bs.al,Bs.av,Bs.an,aB,zc];rfl
    | false =>
     have xw:p t.arg=true:=by
      rw[h1,h4]at hb;simpa using hb
     rw[xw]at ET;refine aX ?_;simp -dsimp only[simprocAttr,↓aa,zp,Bs.al,Bs.av,Bs.an,aB,h1,h4];refine .inr (.inr ⟨_,ET,au ?_⟩);simp -dsimp only[simprocAttr,↓aa,zp,Bs.al,Bs.av,Bs.an,aB];refine ah ?_;refine cE rfl ?_;refine a8 ?_;show bg _ _;refine zq rfl ?_ ?_;simp -dsimp only[simprocAttr,↓aa,zp,Bs.al,Bs.av,Bs.an,aB,zc];rfl
  skip
  refine dd ?_;simp -dsimp only[simprocAttr,↓aa,zp,Bs.al,Bs.av,Bs.an,aB];refine ah ?_;refine ff 25 rfl (fun iq=>?_);simp only[List.length_map]at iq;refine aj (aU (ι:={j:Nat // j<=t.to.length∧R=(t.to.drop j).all fun e=>e.args.all p}) (fun j=>⟨44,[(1,.fn (.func id) [] jd),(4,.v (.bool false)),(25,aJ t.to),(26,aI t.to.length),(27,aI j.1)],O⟩) (fun j=>t.to.length-j.1) ⟨0,by omega,hR⟩ ?_ ?_)
  ·refine zq rfl ?_ ?_;simp -dsimp only[simprocAttr,↓aa,zp,Bs.al,Bs.av,Bs.an,aB,zc];rfl
  rintro⟨j,hj,fB⟩;refine aX ?_;simp -dsimp only[simprocAttr,↓aa,zp,Bs.al,Bs.av,Bs.an,aB];refine ah ?_;apply gW rfl<;>intro h
  ·refine cA ?_;have aZ:j<t.to.length:=by simpa using h
   obtain⟨e,r6⟩:∃e,t.to[j]?=some e:=⟨t.to[j],by simp[aZ]⟩
   rw[pL r6]at fB;refine aK (aj ?_);refine aX ?_;simp -dsimp only[simprocAttr,↓aa,zp,Bs.al,Bs.av,Bs.an,aB,r6];refine ah ?_;refine aO 6 ([aI e.block,a6 e.args]) [(1,.fn (.func id) [] jd),(4,.v (.bool false)),(6,.ip none [aI e.block,a6 e.args]),(25,aJ t.to),(26,aI t.to.length),(27,aI j)] rfl (by rfl) (by omega) (by simp[bu,a7,Go.Av.look]) ?_ ?_ ?_
   ·exact bC
   ·simp[ae.upto,aw,az,Edge.ai,ry]
   refine aX ?_;simp -dsimp only[simprocAttr,↓aa,zp,Bs.al,Bs.av,Bs.an,aB];refine ah ?_;refine ff 32 rfl (fun km=>?_);simp only[List.length_map]at km;refine aj (aU (ι:={z:Nat // z<=e.args.length∧R=((e.args.drop z).all p&&(t.to.drop (j+1)).all fun e=>e.args.all p)}) (fun z=>⟨44,[(1,.fn (.func id) [] jd),(4,.v (.bool false)),(25,aJ t.to),(26,aI t.to.length),(27,aI j),(32,a6 e.args),(33,aI e.args.length),(34,aI z.1)],O⟩) (fun z=>e.args.length-z.1) ⟨0,by omega,fB⟩ ?_ ?_)
   ·refine zq rfl ?_ ?_;simp -dsimp only[simprocAttr,↓aa,zp,Bs.al,Bs.av,Bs.an,aB,zc];rfl
   rintro⟨z,hz,gp⟩;refine aX ?_;simp -dsimp only[simprocAttr,↓aa,zp,Bs.al,Bs.av,Bs.an,aB];refine ah ?_;apply gW rfl<;>intro h
   ·refine cA ?_;have Cn:z<e.args.length:=by simpa using h
    obtain⟨v,hv⟩:∃v,e.args[z]?=some v:=⟨e.args[z],by simp[Cn]⟩
    rw[pL hv]at gp;have JK:=hp v;refine aK (aj ?_);refine aX ?_;simp -dsimp only[simprocAttr,↓aa,zp,Bs.al,Bs.av,Bs.an,aB,hv];refine ah ?_;refine aX ?_;simp -dsimp only[simprocAttr,↓aa,zp,Bs.al,Bs.av,Bs.an,aB];refine .inr (.inr ⟨_,JK,au ?_⟩);simp -dsimp only[simprocAttr,↓aa,zp,Bs.al,Bs.av,Bs.an,aB];refine ah ?_;cases xw:p v with
    | true =>
     rw[xw,Bool.true_and]at gp;refine cE rfl ?_;refine jR ?_;refine j1 ?_;simp -dsimp only[simprocAttr,↓aa,zp,Bs.al,Bs.av,Bs.an,aB]
     repeat(refine⟨by omega,?_⟩)
     refine fV ?_;refine⟨⟨z+1,Cn,gp⟩,by simp;omega,?_⟩;refine zq rfl ?_ ?_;simp -dsimp only[simprocAttr,↓aa,zp,Bs.al,Bs.av,Bs.an,aB,zc]
     ·exact Sub.int (by simp)
     rfl
    | false =>
     rw[xw]at gp;refine cS rfl ?_;refine aX ?_;simp -dsimp only[simprocAttr,↓aa,zp,Bs.al,Bs.av,Bs.an,aB];refine ah ?_;refine aq ?_;simp -dsimp only[simprocAttr,↓aa,zp,Bs.al,Bs.av,Bs.an,aB,zr,Try.results81];exact⟨bC,by rw[gp];rfl⟩
   refine aR ?_;simp -dsimp only[bX,ne_eq,Nat.reduceEqDiff,reduceCtorEq];have Cw:z=e.args.length:=by simp at h;omega
   subst Cw;rw[List.drop_length]at gp;refine j1 ?_;simp -dsimp only[simprocAttr,↓aa,zp,Bs.al,Bs.av,Bs.an,aB]
   repeat(refine⟨by omega,?_⟩)
   refine fV ?_;refine⟨⟨j+1,aZ,by simpa using gp⟩,by simp;omega,?_⟩;refine zq rfl ?_ ?_;simp -dsimp only[simprocAttr,↓aa,zp,Bs.al,Bs.av,Bs.an,aB,zc]
   ·exact Sub.int (by simp)
   rfl
  refine aR ?_;simp -dsimp only[bX,ne_eq,Nat.reduceEqDiff,reduceCtorEq];have oH:j=t.to.length:=by simp at h;omega
  subst oH;rw[List.drop_length]at fB;refine aX ?_;simp -dsimp only[simprocAttr,↓aa,zp,Bs.al,Bs.av,Bs.an,aB];refine ah ?_;refine aq ?_;simp -dsimp only[simprocAttr,↓aa,zp,Bs.al,Bs.av,Bs.an,aB,zr,Try.results81];exact⟨bC,by rw[fB];rfl⟩
def iJ(ds:Defs)(over:List Bs)(seen:Bs)(k:Nat):Nat->List bE->Bool
 | _,[]=>true
 | n,i::r=>i.args.all (ik ds over seen k n)&&iJ ds over seen k (n+1) r
def j4(ds:Defs)(over:List Bs)(seen:Bs)(k:Nat)(b:Block):Bool:=iJ ds over seen k 0 b.ins&&ma b.term (ik ds over seen k b.ins.length)
def gG(ds:Defs)(over:List Bs)(seen:Bs):Nat->List Block->Bool
 | _,[]=>true
 | k,b::r=>j4 ds over seen k b&&gG ds over seen (k+1) r
def oh(f:Func)(ds:Defs):Int:=if gG ds (jV f).1 (jV f).2 0 f.blocks then 0 else 6
theorem BU(f:Func)(h0:f.blocks≠[])(h1:f.blocks.length<=128)(he:∀b∈f.blocks,∀e∈b.term.to,0<=e.block∧e.block.toNat<f.blocks.length):(jV f).1.length=f.blocks.length∧(∀s∈(jV f).1,s.fit)∧(jV f).2.fit:=by
 have key:∀(n:Nat) (S:Ds),jS f.blocks.length S->jS f.blocks.length (ig f n S):=fun n=>by
  induction n with
  | zero=>exact fun S h=>h
  | succ n ih =>
   intro S h;simp only[ig];split
   ·exact ih _ (nD f.blocks (k:=0) (S:=⟨S.over,S.seen,false⟩) ⟨h.few,h.len,h.fit,h.seen,h.self⟩ he).1
   exact h
 have h:=key 20000 _ (sE h0 h1);exact⟨h.len,h.fit,h.seen⟩
theorem yO(f:Func)(ds:Defs)(h0:f.blocks≠[])(h1:f.blocks.length<=128)(he:∀b∈f.blocks,∀e∈b.term.to,0<=e.block∧e.block.toNat<f.blocks.length)(nk:vq f.blocks.length ds) :
  bw Try.prog 63 [.ip none [aI f.name,ay f.blocks,.im (.int .i64) (ds.map fc)]] (aI (oh f ds)):=by
 have Gz:=pt f h0 h1 he;obtain⟨d1,d2,d3⟩:=BU f h0 h1 he;obtain⟨R,hR⟩:∃R,R=oh f ds:=⟨_,rfl⟩
 rw[<-hR];unfold oh at hR;generalize jV f=D at *;obtain⟨over,seen⟩:=D;simp only at Gz d1 d2 d3 hR;have z0:=fj 6 ds;have Cc:=fj 3 ds;have Jv:=fj 0 ds;have DJ:∀(k:Nat) (at_:Int) (v:Int),k<f.blocks.length->bc Try.prog 79 [.gone,.gone,.gone,.gone,.gone,.cells [aI at_]] (aI v::zb f ds over seen k 5) (fun r O'=>r=.v (.bool (ik ds over seen k at_ v))∧O'=[.gone,.gone,.gone,.gone,.gone,.cells [aI at_]]):=fun k at_ v hk=>by
  refine x9 (O:=[.gone,.gone,.gone,.gone,.gone,.cells [aI at_]]) ?_ rfl (by omega) (by omega) d2 d3 (by rw[d1];exact nk) v;simp[ak.upto,aw,ae.upto]
 refine zf true 0 Try.func63 Try.ntmps63 ?_;dsimp only[Tmp,TypeId,ax];refine aX ?_;simp -dsimp only[simprocAttr,↓aa,zp,Bs.al,Bs.av,Bs.an,aB];refine ah ?_;refine aH 1 0 (.ip none [.ip none [aI f.name,ay f.blocks,.im (.int .i64) (ds.map fc)]]) rfl (by simp[ak.aF]) trivial rfl ?_ ?_;rotate_left;simp -dsimp only[simprocAttr,↓aa,zp,Bs.al,Bs.av,Bs.an,aB]
 ·refine aX ?_;simp -dsimp only[simprocAttr,↓aa,zp,Bs.al,Bs.av,Bs.an,aB];refine .inl ⟨_,Gz,by simp only[aw,ae.upto,zt,zu,az,Bs.aN,Bs.an],au ?_⟩;simp -dsimp only[simprocAttr,↓aa,zp,Bs.al,Bs.av,Bs.an,aB];refine ah ?_;refine aH 3 1 (.ip none [.aE 2 (over.map Bs.enc) .sh]) rfl (by simp[ak.aF]) trivial rfl ?_ ?_;rotate_left;simp -dsimp only[simprocAttr,↓aa,zp,Bs.al,Bs.av,Bs.an,aB]
  ·refine aH 4 2 (.ip none [.v (.int .u64 seen.a),.v (.int .u64 seen.b)]) rfl (by simp[ak.aF]) trivial rfl ?_ ?_;rotate_left;simp -dsimp only[simprocAttr,↓aa,zp,Bs.al,Bs.av,Bs.an,aB]
   ·refine dd ?_;simp -dsimp only[simprocAttr,↓aa,zp,Bs.al,Bs.av,Bs.an,aB];refine ah ?_;refine aj (aU (ι:={k:Nat // k<=f.blocks.length∧R=if gG ds over seen k (f.blocks.drop k)then 0 else 6}) (fun k=>⟨64,[(1,.ip none [.ip none [aI f.name,ay f.blocks,.im (.int .i64) (ds.map fc)]]),(2,aI 0),(3,.ip none [.aE 2 (over.map Bs.enc) .sh]),(4,.ip none [.v (.int .u64 seen.a),.v (.int .u64 seen.b)]),(25,ay f.blocks),(26,aI f.blocks.length),(27,aI k.1)],[.gone,.gone,.gone]⟩) (fun k=>f.blocks.length-k.1) ⟨0,by omega,hR⟩ ?_ ?_)
    ·refine zq rfl ?_ ?_;simp -dsimp only[simprocAttr,↓aa,zp,Bs.al,Bs.av,Bs.an,aB,zc];rfl
    rintro⟨k,hk,cO⟩;refine aX ?_;simp -dsimp only[simprocAttr,↓aa,zp,Bs.al,Bs.av,Bs.an,aB];refine ah ?_;apply gW rfl<;>intro h
    ·refine cA ?_;have aZ:k<f.blocks.length:=by simpa using h
     obtain⟨b,hb⟩:∃b,f.blocks[k]?=some b:=⟨f.blocks[k],by simp[aZ]⟩
     rw[bS hb]at cO;simp only[gG,j4]at cO;refine aK (aj ?_);refine aX ?_;simp -dsimp only[simprocAttr,↓aa,zp,Bs.al,Bs.av,Bs.an,aB,hb];refine ah ?_;refine aH 5 3 (.ip none [aI k]) rfl (by simp[ak.aF]) trivial rfl ?_ ?_;rotate_left;simp -dsimp only[simprocAttr,↓aa,zp,Bs.al,Bs.av,Bs.an,aB]
     ·refine aH 6 4 (.ip none [a6 b.params,bD b.ins,aI b.term.kind,aI b.term.arg,aI b.term.n,a6 b.term.cases,aJ b.term.to]) rfl (by simp[ak.aF]) trivial rfl ?_ ?_;rotate_left;simp -dsimp only[simprocAttr,↓aa,zp,Bs.al,Bs.av,Bs.an,aB]
      ·refine aX ?_;simp -dsimp only[simprocAttr,↓aa,zp,Bs.al,Bs.av,Bs.an,aB];refine ah ?_;refine aX ?_;simp -dsimp only[simprocAttr,↓aa,zp,Bs.al,Bs.av,Bs.an,aB];refine ah ?_;refine dd ?_;simp -dsimp only[simprocAttr,↓aa,zp,Bs.al,Bs.av,Bs.an,aB];refine ah ?_;refine ff 34 rfl (fun sP=>?_);simp only[List.length_map]at sP;refine aj (aU (ι:={x:Nat×Int // x.1<=b.ins.length∧R=if(iJ ds over seen k x.1 (b.ins.drop x.1)&&ma b.term (ik ds over seen k b.ins.length))&&gG ds over seen (k+1) (f.blocks.drop (k+1))then 0 else 6}) (fun x=>⟨64,[(1,.ip none [.ip none [aI f.name,ay f.blocks,.im (.int .i64) (ds.map fc)]]),(2,aI 0),(3,.ip none [.aE 2 (over.map Bs.enc) .sh]),(4,.ip none [.v (.int .u64 seen.a),.v (.int .u64 seen.b)]),(25,ay f.blocks),(26,aI f.blocks.length),(27,aI k),(6,.ip none [a6 b.params,bD b.ins,aI b.term.kind,aI b.term.arg,aI b.term.n,a6 b.term.cases,aJ b.term.to]),(7,.mp 5 0),(8,.fn (.func 79) [] [.ip none [.ip none [aI f.name,ay f.blocks,.im (.int .i64) (ds.map fc)]],.ip none [aI k],.mp 5 0,.ip none [.aE 2 (over.map Bs.enc) .sh],.ip none [.v (.int .u64 seen.a),.v (.int .u64 seen.b)]]),(34,bD b.ins),(35,aI b.ins.length),(36,aI x.1.1)],[.gone,.gone,.gone,.gone,.gone,.cells [aI x.1.2]]⟩) (fun x=>b.ins.length-x.1.1) ⟨(0,0),by simp,cO⟩ ?_ ?_)
       ·refine zq rfl ?_ ?_;simp -dsimp only[simprocAttr,↓aa,zp,Bs.al,Bs.av,Bs.an,aB,zc];rfl
       rintro⟨⟨j,z⟩,hj,fB⟩;simp only at hj fB;refine aX ?_;simp -dsimp only[simprocAttr,↓aa,zp,Bs.al,Bs.av,Bs.an,aB];refine ah ?_;apply gW rfl<;>intro h
       ·refine cA ?_;have nQ:j<b.ins.length:=by simpa using h
        obtain⟨i,hi⟩:∃i,b.ins[j]?=some i:=⟨b.ins[j],by simp[nQ]⟩
        rw[bS hi]at fB;simp only[iJ]at fB;refine aK (aj ?_);refine aX ?_;simp -dsimp only[simprocAttr,↓aa,zp,Bs.al,Bs.av,Bs.an,aB,hi];refine ah ?_;refine aH 10 6 (.ip none [aI i.to,aI i.op,aI i.n,a6 i.args]) rfl (by simp[ak.aF]) trivial rfl ?_ ?_;rotate_left;simp -dsimp only[simprocAttr,↓aa,zp,Bs.al,Bs.av,Bs.an,aB]
        ·refine bT 6 [(1,.ip none [.ip none [aI f.name,ay f.blocks,.im (.int .i64) (ds.map fc)]]),(2,aI 0),(3,.ip none [.aE 2 (over.map Bs.enc) .sh]),(4,.ip none [.v (.int .u64 seen.a),.v (.int .u64 seen.b)]),(25,ay f.blocks),(26,aI f.blocks.length),(27,aI k),(6,.ip none [a6 b.params,bD b.ins,aI b.term.kind,aI b.term.arg,aI b.term.n,a6 b.term.cases,aJ b.term.to]),(7,.mp 5 0),(8,.fn (.func 79) [] [.ip none [.ip none [aI f.name,ay f.blocks,.im (.int .i64) (ds.map fc)]],.ip none [aI k],.mp 5 0,.ip none [.aE 2 (over.map Bs.enc) .sh],.ip none [.v (.int .u64 seen.a),.v (.int .u64 seen.b)]]),(34,bD b.ins),(35,aI b.ins.length),(36,aI j),(9,aI j),(10,.ip none [aI i.to,aI i.op,aI i.n,a6 i.args])] (by simp) (by omega) [.gone,.gone,.gone,.gone,.gone,.cells [aI z]] ?_ ?_ ?_ ?_ ?_
         ·rfl
         ·simp[ak.upto,aw,ae.upto,az,Block.ai,Edge.ai,bE.ai,gA,z0,Cc]
         ·simp[gj,St.get,bu,a7,Go.Av.look,Sub.refl]
         ·simp[ak.upto,aw,ae.upto,az,Block.ai,Edge.ai,bE.ai,gA,z0,Cc]
         refine aX ?_;simp -dsimp only[simprocAttr,↓aa,zp,Bs.al,Bs.av,Bs.an,aB];refine ah ?_;refine aX ?_;simp -dsimp only[simprocAttr,↓aa,zp,Bs.al,Bs.av,Bs.an,aB];refine ah ?_;refine ff 43 rfl (fun km=>?_);simp only[List.length_map]at km;refine aj (aU (ι:={y:Nat // y<=i.args.length∧R=if(((i.args.drop y).all (ik ds over seen k j)&&iJ ds over seen k (j+1) (b.ins.drop (j+1)))&&ma b.term (ik ds over seen k b.ins.length))&&gG ds over seen (k+1) (f.blocks.drop (k+1))then 0 else 6}) (fun y=>⟨64,[(1,.ip none [.ip none [aI f.name,ay f.blocks,.im (.int .i64) (ds.map fc)]]),(2,aI 0),(3,.ip none [.aE 2 (over.map Bs.enc) .sh]),(4,.ip none [.v (.int .u64 seen.a),.v (.int .u64 seen.b)]),(25,ay f.blocks),(26,aI f.blocks.length),(27,aI k),(6,.ip none [a6 b.params,bD b.ins,aI b.term.kind,aI b.term.arg,aI b.term.n,a6 b.term.cases,aJ b.term.to]),(7,.mp 5 0),(8,.fn (.func 79) [] [.ip none [.ip none [aI f.name,ay f.blocks,.im (.int .i64) (ds.map fc)]],.ip none [aI k],.mp 5 0,.ip none [.aE 2 (over.map Bs.enc) .sh],.ip none [.v (.int .u64 seen.a),.v (.int .u64 seen.b)]]),(34,bD b.ins),(35,aI b.ins.length),(36,aI j),(43,a6 i.args),(44,aI i.args.length),(45,aI y.1)],[.gone,.gone,.gone,.gone,.gone,.cells [aI j]]⟩) (fun y=>i.args.length-y.1) ⟨0,by omega,fB⟩ ?_ ?_)
         ·refine zq rfl ?_ ?_;simp -dsimp only[simprocAttr,↓aa,zp,Bs.al,Bs.av,Bs.an,aB,zc];rfl
         rintro⟨y,hy,E6⟩;refine aX ?_;simp -dsimp only[simprocAttr,↓aa,zp,Bs.al,Bs.av,Bs.an,aB];refine ah ?_;apply gW rfl<;>intro h
         ·refine cA ?_;have IX:y<i.args.length:=by simpa using h
          obtain⟨v,hv⟩:∃v,i.args[y]?=some v:=⟨i.args[y],by simp[IX]⟩
          rw[pL hv]at E6;have Jx:=DJ k j v aZ;refine aK (aj ?_);refine aX ?_;simp -dsimp only[simprocAttr,↓aa,zp,Bs.al,Bs.av,Bs.an,aB,hv];refine ah ?_;refine aX ?_;simp -dsimp only[simprocAttr,↓aa,zp,Bs.al,Bs.av,Bs.an,aB];refine .inr (.inr ⟨_,Jx,au ?_⟩);simp -dsimp only[simprocAttr,↓aa,zp,Bs.al,Bs.av,Bs.an,aB];refine ah ?_;cases xw:ik ds over seen k j v with
          | true =>
           rw[xw,Bool.true_and]at E6;refine cE rfl ?_;refine jR ?_;refine j1 ?_;simp -dsimp only[simprocAttr,↓aa,zp,Bs.al,Bs.av,Bs.an,aB]
           repeat(refine⟨by omega,?_⟩)
           refine fV ?_;refine⟨⟨y+1,IX,E6⟩,by simp;omega,?_⟩;refine zq rfl ?_ ?_;simp -dsimp only[simprocAttr,↓aa,zp,Bs.al,Bs.av,Bs.an,aB,zc]
           ·exact Sub.int (by simp)
           rfl
          | false =>
           rw[xw]at E6;refine cS rfl ?_;refine aX ?_;simp -dsimp only[simprocAttr,↓aa,zp,Bs.al,Bs.av,Bs.an,aB];refine ah ?_;refine aq ?_;simp -dsimp only[simprocAttr,↓aa,zp,Bs.al,Bs.av,Bs.an,aB,zr,Try.results63];rw[E6];simp
         refine aR ?_;simp -dsimp only[bX,ne_eq,Nat.reduceEqDiff,reduceCtorEq];have JR:y=i.args.length:=by simp at h;omega
         subst JR;rw[List.drop_length]at E6;refine j1 ?_;simp -dsimp only[simprocAttr,↓aa,zp,Bs.al,Bs.av,Bs.an,aB]
         repeat(refine⟨by omega,?_⟩)
         refine fV ?_;refine⟨⟨(j+1,j),nQ,by simpa using E6⟩,by simp;omega,?_⟩;refine zq rfl ?_ ?_;simp -dsimp only[simprocAttr,↓aa,zp,Bs.al,Bs.av,Bs.an,aB,zc]
         ·exact Sub.int (by simp)
         rfl
        exact cw.mp rfl rfl
       refine aR ?_;simp -dsimp only[bX,ne_eq,Nat.reduceEqDiff,reduceCtorEq];have oH:j=b.ins.length:=by simp at h;omega
       subst oH;rw[List.drop_length]at fB;simp only[iJ,Bool.true_and]at fB;have Hs:=yN (O:=[.gone,.gone,.gone,.gone,.gone,.cells [aI b.ins.length]]) (by simp[ak.upto,aw,ae.upto]) 79 (zb f ds over seen k 5) (by simp[ak.upto,aw,ae.upto,az,Block.ai,gA,z0]) (ik ds over seen k b.ins.length) (fun v=>DJ k b.ins.length v aZ) b.term;refine aX ?_;simp -dsimp only[simprocAttr,↓aa,zp,Bs.al,Bs.av,Bs.an,aB];refine ah ?_;refine aX ?_;simp -dsimp only[simprocAttr,↓aa,zp,Bs.al,Bs.av,Bs.an,aB];refine .inr (.inr ⟨_,Hs,au ?_⟩);simp -dsimp only[simprocAttr,↓aa,zp,Bs.al,Bs.av,Bs.an,aB];refine ah ?_;cases xw:ma b.term (ik ds over seen k b.ins.length)with
       | true =>
        rw[xw,Bool.true_and]at fB;refine cE rfl ?_;refine jR ?_;refine bT 3 [(1,.ip none [.ip none [aI f.name,ay f.blocks,.im (.int .i64) (ds.map fc)]]),(2,aI 0),(3,.ip none [.aE 2 (over.map Bs.enc) .sh]),(4,.ip none [.v (.int .u64 seen.a),.v (.int .u64 seen.b)]),(25,ay f.blocks),(26,aI f.blocks.length),(27,aI k)] (by simp) (by omega) [.gone,.gone,.gone] ?_ ?_ ?_ ?_ ?_
        ·rfl
        ·simp[ak.upto,aw,ae.upto,az,Block.ai,Edge.ai,bE.ai,gA,z0,Cc]
        ·simp[gj,St.get,bu,a7,Go.Av.look,Sub.refl]
        ·simp[ak.upto,aw,ae.upto,az,Block.ai,Edge.ai,bE.ai,gA,z0,Cc]
        refine j1 ?_;simp -dsimp only[simprocAttr,↓aa,zp,Bs.al,Bs.av,Bs.an,aB]
        repeat(refine⟨by omega,?_⟩)
        refine fV ?_;refine⟨⟨k+1,aZ,fB⟩,by simp;omega,?_⟩;refine zq rfl ?_ ?_;simp -dsimp only[simprocAttr,↓aa,zp,Bs.al,Bs.av,Bs.an,aB,zc]
        ·exact Sub.int (by simp)
        rfl
       | false =>
        rw[xw]at fB;refine cS rfl ?_;refine aX ?_;simp -dsimp only[simprocAttr,↓aa,zp,Bs.al,Bs.av,Bs.an,aB];refine ah ?_;refine aq ?_;simp -dsimp only[simprocAttr,↓aa,zp,Bs.al,Bs.av,Bs.an,aB,zr,Try.results63];rw[fB];simp
      exact cw.mp rfl rfl
     exact cw.mp rfl rfl
    refine aR ?_;simp -dsimp only[bX,ne_eq,Nat.reduceEqDiff,reduceCtorEq];have gT:k=f.blocks.length:=by simp at h;omega
    subst gT;rw[List.drop_length]at cO;refine aX ?_;simp -dsimp only[simprocAttr,↓aa,zp,Bs.al,Bs.av,Bs.an,aB];refine ah ?_;refine aq ?_;simp -dsimp only[simprocAttr,↓aa,zp,Bs.al,Bs.av,Bs.an,aB,zr,Try.results63];simp[cO,gG]
   exact cw.mp rfl rfl
  exact cw.mp rfl rfl
 exact cw.mp rfl rfl
end Go.Proofs.Ytkhnjeblbiocaaa
namespace Go.Av
theorem iP{P:Program}{ops all:Array Oper}{k:Nat}(hk:∀i o,ops[i]?=some o->all[k+i]?=some o)(hg:∀o∈all.toList,o.guard=none):∀{l:List (Nat×Kind)} {σ τ:St},eR P ops l σ τ->eR P all (l.map fun p=>(k+p.1,p.2)) σ τ
 | [],_,_,h=>h
 | (i,q)::r,_,_,h=>by
  obtain⟨fE,⟨o,ho,h1⟩,h2⟩:=h;refine⟨fE,⟨o,hk i o ho,?_⟩,iP hk hg h2⟩;have ic:=hk i o ho;have Bw:o.guard=none:=hg o (by
   rw[<-Array.getElem?_toList]at ic;exact List.mem_of_getElem? ic)
  have w1:∀(a:Array Oper) (σ:St),dg a o σ=some true:=fun a σ=>by simp[dg,Bw]
  rcases h1 with⟨_,h1⟩|⟨h1,_⟩
  ·exact .inl ⟨w1 _ _,h1⟩
  rw[w1]at h1;cases h1
def DE(P:Program)(aW:eo)(md:Md)(o:Oper)(l2:List Oper)(Q:dR->St->Prop)(τ:St):Prop:=∃x m,Cert P o τ x m∧eV P aW md l2 0 [] ⟨τ.n,nc o.dst x τ.ba,m.post τ.objs⟩ [] fun ρ _=>At ρ (Q .norm)
theorem kT{P:Program}{kb:Nat}{aW:eo}(md:Md)(hT:cb P aW){id:Nat}{l l1 l2:List Oper}{o:Oper}{Q:dR->St->Prop}{σ:St}(k:Nat)(h1:l.take k=l1)(h2:l[k]?=some o)(h3:l.drop (k+1)=l2)(hg:∀o∈l,o.guard=none)
  (h:eV P aW md l1 0 [] σ [] fun τ _=>DE P aW md o l2 Q τ):cc P kb (.region id l.toArray false) Q σ:=by
 have aZ:=I h2;obtain⟨τ,sa,c1,n1,x,m,hc,h⟩:=ee (all:=l1.toArray) hT l1 0 [] σ [] (fun j=>by simp) (fun j t hj=>by simp[ib]at hj) h;obtain⟨ρ,D5,c2,n2,hQ⟩:=ee (all:=l2.toArray) hT l2 0 [] _ [] (fun j=>by simp) (fun j t hj=>by simp[ib]at hj) h;intro base a g hb hr;have Bw:o.guard=none:=hg o (List.mem_of_getElem? h2);have Il:l1.length=k:=by rw[<-h1,List.length_take];omega
 have I':l2.length=l.length-(k+1):=by rw[<-h3,List.length_drop]
 have d1:=iP (all:=l.toArray) (k:=0) (fun i o' hi=>by
  have fL:l1[i]?=some o':=by simpa using hi
  have:=I fL;rw[<-h1,List.getElem?_take]at fL;split at fL
  ·simpa using fL
  cases fL) (by simpa using hg) c1
 have d2:=iP (all:=l.toArray) (k:=k+1) (fun i o' hi=>by
  have fL:l2[i]?=some o':=by simpa using hi
  rw[<-h3,List.getElem?_drop]at fL;simpa using fL) (by simpa using hg) c2
 have dm:eR P l.toArray [(k,m.kind)] τ ⟨τ.n,nc o.dst x τ.ba,m.post τ.objs⟩:=⟨_,⟨o,by simpa using h2,.inl ⟨by simp[dg,Bw],x,m,hc,rfl,rfl⟩⟩,gz.refl _⟩
 have mu:=k5 d1 (k5 dm d2);obtain⟨ks,IU⟩:∃ks,ks=sa++m.kind::D5:=⟨_,rfl⟩
 have e:(List.range l.toArray.size).map (fun i=>(i,ks.getD i .write))=(List.map (fun p=>(0+p.1,p.2)) (List.map (fun p=>(p.2,p.1)) (sa.zipIdx 0))++([(k,m.kind)]++List.map (fun p=>(k+1+p.1,p.2)) (List.map (fun p=>(p.2,p.1)) (D5.zipIdx 0)))):=by
  have cU:l.toArray.size=ks.length:=by
   rw[IU];simp only[List.size_toArray,List.length_append,List.length_cons];omega
  rw[cU];apply List.ext_getElem?;intro i;rw[IU];simp only[List.getElem?_map];by_cases q1:i<sa.length
  ·rw[List.getElem?_append_left (by simpa using q1),List.getElem?_range (by simp;omega)];simp[q1,List.getElem?_append_left]
  rw[List.getElem?_append_right (by simp;omega)];simp only[List.length_map,List.length_zipIdx];by_cases q2:i=sa.length
  ·subst q2;rw[List.getElem?_range (by simp)];simp[n1,Il]
  rw[List.getElem?_append_right (by simp;omega)];obtain⟨j,hj⟩:∃j,i=sa.length+1+j:=⟨i-sa.length-1,by omega⟩
  subst hj;simp only[List.length_cons,List.length_nil,show sa.length+1+j-sa.length-(0+1)=j by omega,List.getElem?_map,List.getElem?_zipIdx];by_cases q3:j<D5.length
  ·rw[List.getElem?_range (by simp;omega)];simp only[Option.map_some,List.getElem?_eq_getElem q3,Option.some.injEq,Prod.mk.injEq];refine⟨by omega,?_⟩;rw[List.getD_eq_getElem?_getD,List.getElem?_append_right (by omega),show sa.length+1+j-sa.length=j+1 by omega,List.getElem?_cons_succ,List.getElem?_eq_getElem q3];rfl
  rw[List.getElem?_eq_none (l:=List.range _) (by simp;omega),List.getElem?_eq_none (l:=D5) (by omega)];rfl
 rw[<-e]at mu;exact kq mu hr fun a g wC=>⟨g,ρ,rfl,wC,hQ⟩
theorem sw{P:Program}{o:Oper}{σ:St}{t t':TypeId}{x y:Operand}{k:IntKind}{m n:Int}
  (ho:o.op=.binOp .add t x y t') (hd:∀d,o.dst=some d->d<σ.n) (hx:σ.ev x=some (.v (.int k m))) (hy:σ.ev y=some (.v (.int k n))) :
  Cert P o σ (.v (.int k (k.wrap (m+n)))) .pure :=
 Cert.bQ .pure (.inl rfl) hd fun a g _ h _=>by
  have ex:=(h x (by simp[ho,Op.operands]) _ hx).cq.1;have ey:=(h y (by simp[ho,Op.operands]) _ hy).cq.1;have hg:=cY (P:=P) .add t x y (.int k m) (.int k n) g.w (by simp) (by simp);refine⟨.int k (k.wrap (m+n)),?_,.v (wrap_within k _)⟩;have hb:(binOp .add t (.int k m) (.int k n)).run P g.w=.ok (.int k (k.wrap (m+n))) g.w:=by
   simp[binOp,Op.intArith]
  simp[execOp,ho,ex,ey,hg,hb]
theorem oK{P:Program}{aW:eo}{md:Md}{o:Oper}{l2:List Oper}{Q:dR->St->Prop}{τ:St}{t t':TypeId}{x y:Operand}{k:IntKind}{m n:Int}{d:Nat}
  (ho:o.op=.binOp .add t x y t') (jo:o.dst=some d) (hd:d<τ.n) (hx:τ.ev x=some (.v (.int k m))) (hy:τ.ev y=some (.v (.int k n)))
  (h:eV P aW md l2 0 [] ⟨τ.n,nc o.dst (.v (.int k (k.wrap (m+n)))) τ.ba,τ.objs⟩ [] fun ρ _=>At ρ (Q .norm)):DE P aW md o l2 Q τ :=
 ⟨_,.pure,sw ho (fun d' e=>by rw[jo]at e;cases e;exact hd) hx hy,h⟩
end Go.Av
namespace Go.Proofs.Ytkhnjeblbiocaaa
open Go.Av
theorem wM(ds:Defs)(k v:Int)(p:Int×Int):fC (ds++[(k,p)]) v=match fC ds v with|some q=>some q|none=>if k=v then some p else none:=by
 induction ds with
 | nil=>rfl
 | cons e r ih =>
  obtain⟨a,q⟩:=e;simp only[List.cons_append,fC];split
  ·rfl
  exact ih
structure jv(n:Nat)(ds:Defs):Prop where
 ok:vq n ds
 nodup:(ds.map (·.1)).Nodup
 range:∀e∈ds,0<=e.1∧e.1<=4095
theorem wL{ds:Defs}{v:Int}(h:fC ds v=none):∀e∈ds,e.1≠v:=by
 induction ds with
 | nil=>simp
 | cons e r ih =>
  obtain⟨a,q⟩:=e;simp only[fC]at h;split at h
  ·cases h
  rename_i cj;intro e he;rcases List.mem_cons.1 he with q|q
  ·subst q;exact cj
  exact ih h e q
theorem lZ:∀(n:Nat) (l:List Nat),l.Nodup->(∀x∈l,x<n)->l.length<=n
 | 0,l,_,h=>by
  cases l with
  | nil=>simp
  | cons a r=>exact absurd (h a (by simp)) (by omega)
 | n+1,l,hn,h=>by
  by_cases hm:n∈l
  ·have:=lZ n (l.erase n) (hn.erase n) (fun x hx=>by
    have h1:=(List.Nodup.mem_erase_iff hn).1 hx;have h2:=h x h1.2;have h3:=h1.1;omega)
   rw[List.length_erase_of_mem hm]at this;omega
  have:=lZ n l hn (fun x hx=>by
   have h2:=h x hx;have:x≠n:=fun e=>hm (e ▸ hx);omega)
  omega
theorem jv.few{n:Nat}{ds:Defs}(h:jv n ds):ds.length<=4096:=by
 have h1:(ds.map fun e=>e.1.toNat).Nodup:=by
  have h0:=h.nodup;have hr:=h.range;clear h;induction ds with
  | nil=>simp
  | cons e r ih =>
   simp only[List.map_cons,List.nodup_cons,List.mem_map,not_exists,not_and]at h0 ⊢;refine⟨fun x hx q=>h0.1 x hx ?_,ih h0.2 (fun e he=>hr e (by simp[he]))⟩;have a:=hr e (by simp);have b:=hr x (by simp[hx]);omega
 have:=lZ 4096 _ h1 (fun x hx=>by
  obtain⟨e,he,rfl⟩:=List.mem_map.1 hx;have:=h.range e he;omega)
 simpa using this
theorem qe{n:Nat}{ds:Defs}(h:jv n ds)(v:Int){p:Int×Int}(h0:0<=p.1)(h1:p.1.toNat<n):jv n (dt ds v p).2∧((dt ds v p).1=0->(dt ds v p).2.length=ds.length+1):=by
 unfold dt;split
 ·exact⟨h,fun q=>by simp at q⟩
 rename_i hw;split
 ·exact⟨h,fun q=>by simp at q⟩
 rename_i hl;have q8:fC ds v=none:=by simpa using hl
 have JN:0<=v∧v<=4095:=by simpa[within]using hw
 refine⟨⟨fun w q hq=>?_,?_,fun e he=>?_⟩,fun _=>by simp⟩
 ·rw[wM]at hq;cases hd:fC ds w with
  | some q' =>
   rw[hd]at hq;simp only[Option.some.injEq]at hq;exact hq ▸ h.ok w q' hd
  | none =>
   rw[hd]at hq;simp only at hq;split at hq
   ·simp only[Option.some.injEq]at hq;exact hq ▸ ⟨h0,h1⟩
   cases hq
 ·rw[List.map_append,List.map_cons,List.map_nil,List.nodup_append];refine⟨h.nodup,by simp,fun a ha b hb=>?_⟩;obtain⟨e,he,rfl⟩:=List.mem_map.1 ha;simp only[List.mem_singleton]at hb;subst hb;exact wL q8 e he
 rcases List.mem_append.1 he with q|q
 ·exact h.range e q
 simp only[List.mem_singleton]at q;subst q;exact JN
theorem qD{n:Nat}{k:Int}(h0:0<=k)(h1:k.toNat<n):∀(l:List Int) (ds:Defs),jv n ds->jv n (dF k ds l).2∧((dF k ds l).1=0->(dF k ds l).2.length=ds.length+l.length)
 | [],ds,h=>⟨h,fun _=>by simp[dF]⟩
 | p::r,ds,h=>by
  have hd:=qe h p (p:=(k,0)) h0 h1;simp only[dF];split
  ·rename_i cj;exact⟨hd.1,fun q=>absurd q cj⟩
  rename_i he;have ih:=qD h0 h1 r _ hd.1;refine⟨ih.1,fun q=>?_⟩;rw[ih.2 q,hd.2 (by simpa using he)];simp only[List.length_cons];omega
theorem xF{n:Nat}{k:Int}(h0:0<=k)(h1:k.toNat<n):∀(l:List bE) (j:Int) (ds:Defs),jv n ds->jv n (la k j ds l).2∧((la k j ds l).1=0->(la k j ds l).2.length=ds.length+l.length∧∀i∈l,jg i=0)
 | [],j,ds,h=>⟨h,fun _=>by simp[la]⟩
 | i::r,j,ds,h=>by
  have hd:=qe h i.to (p:=(k,j+1)) h0 h1;simp only[la];split
  ·rename_i cj;exact⟨hd.1,fun q=>absurd q cj⟩
  rename_i he;split
  ·rename_i hf;exact⟨hd.1,fun q=>absurd q hf⟩
  rename_i hf;have ih:=xF h0 h1 r (j+1) _ hd.1;refine⟨ih.1,fun q=>?_⟩;obtain⟨a,b⟩:=ih.2 q;refine⟨?_,fun x hx=>?_⟩
  ·rw[a,hd.2 (by simpa using he)];simp only[List.length_cons];omega
  rcases List.mem_cons.1 hx with e|e
  ·subst e;simpa using hf
  exact b x e
structure BD(f:Func)(b:Block):Prop where
 uu:∀i∈b.ins,jg i=0
 fin:jX f b.term=0
 few:b.params.length+b.ins.length<=4096
theorem xP{f:Func}{ds:Defs}{k:Int}(h:jv f.blocks.length ds)(h0:0<=k)(h1:k.toNat<f.blocks.length):jv f.blocks.length (fG f ds k).2∧((fG f ds k).1=0->BD f (aD f k)):=by
 have hp:=qD h0 h1 (aD f k).params ds h;have hi:=xF h0 h1 (aD f k).ins 0 _ hp.1;unfold fG;split
 ·rename_i cj;exact⟨hp.1,fun q=>absurd q cj⟩
 rename_i H3;split
 ·rename_i cj;exact⟨hi.1,fun q=>absurd q cj⟩
 rename_i Jz;refine⟨hi.1,fun q=>?_⟩;have a:=hp.2 (by simpa using H3);have b:=hi.2 (by simpa using Jz);have c:=hi.1.few;exact⟨b.2,q,by rw[b.1,a]at c;omega⟩
theorem jk{f:Func}{t:Term}(h:jX f t=0):eG t=true∧t.cases.length<=256∧(t.kind=4->1<=t.n∧t.n<=6)∧∀e∈t.to,(1<=e.block∧e.block<=(f.blocks.length:Int)-1)∧e.args.length=(aD f e.block).params.length:=by
 unfold jX at h;split at h
 ·simp at h
 rename_i hs;split at h
 ·simp at h
 rename_i hc;split at h
 ·simp at h
 rename_i hk;split at h
 ·rename_i cj;exact absurd h cj
 refine⟨by simpa using hs,by omega,fun k4=>?_,?_⟩
 ·by_cases hw:within t.n 1 6=false
  ·exact absurd ⟨k4,hw⟩ hk
  simpa[within]using hw
 generalize t.to=l at h;induction l with
 | nil=>simp
 | cons e r ih =>
  simp only[lQ]at h;split at h
  ·simp at h
  rename_i h1;split at h
  ·simp at h
  rename_i h2;intro x hx;rcases List.mem_cons.1 hx with q|q
  ·subst q;exact⟨by simpa[within]using h1,by simpa using h2⟩
  exact ih h x q
def kM:Int->List Block->Int
 | m,[]=>m
 | m,b::r=>kM (IntKind.i64.wrap (m+b.ins.length)) r
def de(f:Func):Nat->Int->Defs->Int×Defs
 | 0,_,ds=>(0,ds)
 | n+1,k,ds=>if(fG f ds k).1≠0 then fG f ds k else de f n (k+1) (fG f ds k).2
def bo(f:Func):Int :=
 if f.blocks.length=0 then 3
 else if 128<f.blocks.length∨1024<kM 0 f.blocks∨6<(aD f 0).params.length then 2
 else if within f.name (-1) 1048575=false then 4
 else if(de f f.blocks.length 0 []).1≠0 then(de f f.blocks.length 0 []).1
 else oh f (de f f.blocks.length 0 []).2
theorem kV{f:Func}:∀(n:Nat) (k:Int) (ds:Defs),jv f.blocks.length ds->0<=k->k.toNat+n<=f.blocks.length->(de f n k ds).1=0->jv f.blocks.length (de f n k ds).2∧∀j:Nat,j<n->BD f (aD f (k+j))
 | 0,k,ds,h,_,_,_=>⟨h,fun j hj=>absurd hj (by omega)⟩
 | n+1,k,ds,h,h0,h1,he=>by
  have hb:=xP (k:=k) h h0 (by omega);simp only[de]at he ⊢;split at he
  ·rename_i cj;exact absurd he cj
  rename_i cj;rw[if_neg cj];have ih:=kV n (k+1) _ hb.1 (by omega) (by omega) he;refine⟨ih.1,fun j hj=>?_⟩;cases j with
  | zero=>simpa using hb.2 (by simpa using cj)
  | succ j =>
   have:=ih.2 j (by omega)
   rwa [show k+((j+1:Nat):Int)=k+1+(j:Int) by omega]
theorem jv.nil(n:Nat):jv n []:=⟨fun v p h=>(by cases h),by simp,by simp⟩
theorem yr{f:Func}{b:Block}(h:b∈f.blocks):∃j:Nat,j<f.blocks.length∧b=aD f (j:Int):=by
 obtain⟨j,hj,rfl⟩:=List.getElem_of_mem h;exact⟨j,hj,by simp[aD,hj]⟩
theorem oU{f:Func}(he:(de f f.blocks.length 0 []).1=0):∀b∈f.blocks,BD f b:=fun b hb=>by
 obtain⟨j,hj,rfl⟩:=yr hb;have:=(kV f.blocks.length 0 [] (.nil _) (by omega) (by simp) he).2 j hj;simpa using this
theorem lP(f:Func)(bB:f.fit):bw Try.prog 39 [f.enc] (aI (bo f)):=by
 have hw:=dN f.name (-1) 1048575;have wj:f.blocks.length<=2 ^ 47:=bB.2.1;obtain⟨R,hR⟩:∃R,R=bo f:=⟨_,rfl⟩
 rw[<-hR];unfold bo at hR;refine zf true 0 Try.func39 Try.ntmps39 ?_;dsimp only[Tmp,TypeId,ax];refine aA (ah ?_);refine aH 1 0 (.ip none [aI f.name,ay f.blocks]) rfl (by simp[ak.aF]) trivial rfl ?_ ?_;rotate_left;simp -dsimp only[simprocAttr,↓aa,zp]
 ·refine aA (ah ?_);refine b8 (ah ?_);refine aj (aU (ι:={x:Nat×Int // x.1<=f.blocks.length∧kM 0 f.blocks=kM x.2 (f.blocks.drop x.1)}) (fun x=>⟨69,[(1,.ip none [aI f.name,ay f.blocks]),(2,aI 0),(3,aI x.1.2),(10,ay f.blocks),(11,aI f.blocks.length),(12,aI x.1.1)],[.gone]⟩) (fun x=>f.blocks.length-x.1.1) ⟨(0,0),by simp,rfl⟩ ?_ ?_)
  ·refine zq rfl ?_ ?_;simp -dsimp only[simprocAttr,↓aa,zp,zc];rfl
  rintro⟨⟨k,m⟩,hk,cO⟩;simp only at hk cO;refine aA (ah ?_);apply gW rfl<;>intro h
  ·refine cA ?_;have aZ:k<f.blocks.length:=by simpa using h
   obtain⟨b,hb⟩:∃b,f.blocks[k]?=some b:=⟨f.blocks[k],by simp[aZ]⟩
   rw[bS hb]at cO;simp only[kM]at cO;refine aK (aj ?_);refine aX ?_;simp -dsimp only[simprocAttr,↓aa,zp,hb];refine ah ?_;refine aH 5 1 (.ip none [a6 b.params,bD b.ins,aI b.term.kind,aI b.term.arg,aI b.term.n,a6 b.term.cases,aJ b.term.to]) rfl (by simp[ak.aF]) trivial rfl ?_ ?_;rotate_left;simp -dsimp only[simprocAttr,↓aa,zp]
   ·refine kT ⟨false,false⟩ hT 4 rfl rfl rfl (by simp) ?_;simp -dsimp only[simprocAttr,↓aa,zp];refine oK rfl rfl (by simp) rfl rfl ?_;simp -dsimp only[simprocAttr,↓aa,zp];refine ah ?_;refine bT 1 [(1,.ip none [aI f.name,ay f.blocks]),(2,aI 0),(3,aI (IntKind.i64.wrap (m+b.ins.length))),(10,ay f.blocks),(11,aI f.blocks.length),(12,aI k)] (by simp) (by omega) [.gone] ?_ ?_ ?_ ?_ ?_
    ·rfl
    ·simp[ak.upto,aw,ae.upto,az,Block.ai]
    ·simp[gj,St.get,bu,a7,Go.Av.look,Sub.refl]
    ·simp[ak.upto,aw,ae.upto,az,Block.ai]
    refine dc ?_
    repeat(refine⟨by omega,?_⟩)
    refine fV ?_;refine⟨⟨(k+1,IntKind.i64.wrap (m+b.ins.length)),by simp only;omega,cO⟩,by simp;omega,?_⟩;refine zq rfl ?_ ?_;simp -dsimp only[simprocAttr,↓aa,zp,zc]
    ·exact Sub.int (by simp)
    rfl
   exact cw.mp rfl rfl
  refine aR ?_;simp -dsimp only[bX,ne_eq,Nat.reduceEqDiff,reduceCtorEq];have gT:k=f.blocks.length:=by simp at h;omega
  subst gT;rw[List.drop_length]at cO;simp only[kM]at cO;rw[cO]at hR;refine aK (aj ?_);refine aA (ah ?_);apply aP rfl<;>intro h
  ·have hl:f.blocks.length=0:=by simpa using h
   rw[if_pos hl]at hR;refine aA (ah ?_);refine aq ?_;simp -dsimp only[simprocAttr,↓aa,zp,zr,Try.results39];rw[hR]
  have hl:¬f.blocks.length=0:=by simpa using h
  rw[if_neg hl]at hR;have hB:f.blocks[0]?=some (aD f 0):=dy (f:=f) (k:=0) (by omega) (by omega);generalize aD f 0=B at *;refine gI (⟨69,[(1,.ip none [aI f.name,ay f.blocks]),(2,aI 0),(27,.v (.bool (decide ((128:Int)<f.blocks.length) ||decide ((1024:Int)<m) ||decide ((6:Int)<B.params.length))))],[.gone]⟩) ?_ ?_
  ·cases hA:decide ((128:Int)<f.blocks.length)<;>cases FK:decide ((1024:Int)<m)<;>cases hC:decide ((6:Int)<B.params.length)
   all_goals
    refine jz hT hm ?_;simp -dsimp only[simprocAttr,↓aa,zp,hA,FK,hC,hB];refine bd ?_;show bg _ _;refine zq rfl ?_ ?_;simp -dsimp only[simprocAttr,↓aa,zp,zc]
    ·exact Sub.refl _
    rfl
  by_cases sL:128<f.blocks.length∨1024<m∨6<B.params.length
  ·rw[if_pos sL]at hR;have hd:(decide ((128:Int)<f.blocks.length) ||decide ((1024:Int)<m) ||decide ((6:Int)<B.params.length))=true:=by
    simp only[Bool.or_eq_true,decide_eq_true_eq];omega
   rw[hd];refine cS rfl ?_;refine aA (ah ?_);refine aq ?_;simp -dsimp only[simprocAttr,↓aa,zp,zr,Try.results39];rw[hR]
  rw[if_neg sL]at hR;have hd:(decide ((128:Int)<f.blocks.length) ||decide ((1024:Int)<m) ||decide ((6:Int)<B.params.length))=false:=by
   simp only[Bool.or_eq_false_iff,decide_eq_false_iff_not];omega
  rw[hd];have GJ:f.blocks.length<=128:=by omega
  have cj:f.blocks≠[]:=fun e=>hl (by rw[e];rfl);cases hn:within f.name (-1) 1048575 with
  | false =>
   rw[if_pos hn]at hR;rw[hn]at hw;refine cE rfl ?_;refine aA ?_;refine .inl ⟨_,hw,by simp only[aw,ae.upto,zt,zu,az,fj],au ?_⟩;simp -dsimp only[simprocAttr,↓aa,zp];refine ah ?_;refine cS rfl ?_;refine aA (ah ?_);refine aq ?_;simp -dsimp only[simprocAttr,↓aa,zp,zr,Try.results39];rw[hR]
  | true =>
   rw[if_neg (by simp[hn])]at hR;rw[hn]at hw;apply aP rfl<;>intro h
   ·cases h
   refine aA ?_;refine .inl ⟨_,hw,by simp only[aw,ae.upto,zt,zu,az,fj],au ?_⟩;simp -dsimp only[simprocAttr,↓aa,zp];refine ah ?_;apply aP rfl<;>intro h
   ·cases h
   refine jR ?_;refine aA (ah ?_);refine b8 (ah ?_);have sM:∀(ds:Defs) (k:Nat),k<f.blocks.length->bc Try.prog 62 [.gone,.map (.int .i64) (ds.map fc),.cells [aI f.name,ay f.blocks,.mm 1]] [.mp 2 0,aI k] (fun r O'=>r=aI (fG f ds k).1∧O'=[.gone,.map (.int .i64) ((fG f ds k).2.map fc),.cells [aI f.name,ay f.blocks,.mm 1]]):=fun ds k hk=>by
    have eJ:(aD f k).term.cases.length<=2 ^ 60:=by
     have hb:=List.mem_of_getElem? (dy (f:=f) (k:=k) (by omega) (by omega));have:=(bB.2.2 _ hb).2.2.2.2.2.2.2.2.1;omega
    exact vC (O:=[.gone,.map (.int .i64) (ds.map fc),.cells [aI f.name,ay f.blocks,.mm 1]]) (c:=2) (d:=1) (by simp[ak.upto,aw,ae.upto,Block.ai,fj]) (by omega) rfl rfl k (by omega) (by omega) (by omega) eJ
   refine aj (aU (ι:={x:Nat×Defs // x.1<=f.blocks.length∧de f f.blocks.length 0 []=de f (f.blocks.length-x.1) x.1 x.2}) (fun x=>⟨69,[(1,.ip none [aI f.name,ay f.blocks]),(2,aI 0),(6,.mp 2 0),(56,aI f.blocks.length),(57,aI x.1.1)],[.gone,.map (.int .i64) (x.1.2.map fc),.cells [aI f.name,ay f.blocks,.mm 1]]⟩) (fun x=>f.blocks.length-x.1.1) ⟨(0,[]),by simp,rfl⟩ ?_ ?_)
   ·refine zq rfl ?_ ?_;simp -dsimp only[simprocAttr,↓aa,zp,zc];rfl
   rintro⟨⟨k,ds⟩,hk,cO⟩;simp only at hk cO;refine aA (ah ?_);apply gW rfl<;>intro h
   ·refine cA ?_;have aZ:k<f.blocks.length:=by simpa using h
    rw[show f.blocks.length-k=f.blocks.length-(k+1)+1 by omega]at cO;simp only[de]at cO;have hb:=sM ds k aZ;generalize fG f ds k=X at *;refine aK (aj ?_);refine aA (ah ?_);refine aA ?_;refine .inr (.inl ⟨_,_,hb,.inl (au (zj ?_))⟩);refine ah ?_;by_cases hX:X.1=0
    ·have z4:decide (X.1=0)=true:=decide_eq_true hX;rw[if_neg (by simp[hX])]at cO;refine aX ?_;simp -dsimp only[simprocAttr,↓aa,zp,z4];refine ah ?_;refine cE rfl ?_;refine jR ?_;refine dc ?_
     repeat(refine⟨by omega,?_⟩)
     refine fV ?_;refine⟨⟨(k+1,X.2),by simp only;omega,cO⟩,by simp;omega,?_⟩;refine zq rfl ?_ ?_;simp -dsimp only[simprocAttr,↓aa,zp,zc]
     ·exact Sub.int (by simp)
     rfl
    have z4:decide (X.1=0)=false:=decide_eq_false hX;rw[if_pos hX]at cO;rw[cO,if_pos hX]at hR;refine aX ?_;simp -dsimp only[simprocAttr,↓aa,zp,z4];refine ah ?_;refine cS rfl ?_;refine aA (ah ?_);refine aq ?_;simp -dsimp only[simprocAttr,↓aa,zp,zr,Try.results39];rw[hR]
   refine aR ?_;simp -dsimp only[bX,ne_eq,Nat.reduceEqDiff,reduceCtorEq];have gT:k=f.blocks.length:=by simp at h;omega
   subst gT;rw[Nat.sub_self]at cO;simp only[de]at cO;have zX:(de f f.blocks.length 0 []).1=0:=by rw[cO]
   have cM:=oU zX;have GA:=(kV f.blocks.length 0 [] (.nil _) (by omega) (by simp) zX).1;rw[cO]at GA;rw[cO,if_neg (by simp)]at hR;have Hs:=yO f ds cj GJ (fun b hb e he=>by
    have:=(jk (cM b hb).fin).2.2.2 e he;omega) GA.ok
   simp only at hR;rw[<-hR]at Hs;refine kh 1 rfl (by simp[ak.aF]) trivial [(2,aI 0),(6,.mp 2 0)] ?_ 2 (by omega) _ [aI f.name,ay f.blocks,.im (.int .i64) (ds.map fc)] rfl rfl ?_ ?_ ?_
   ·intro s y hy;simp only[Go.Av.look]at hy;split at hy
    ·cases hy;rename_i e;subst e;exact⟨_,rfl,.refl _⟩
    split at hy
    ·cases hy;rename_i e;subst e;exact⟨_,rfl,.refl _⟩
    cases hy
   ·simp[ae.scalar]
   ·intro j c d hc hd
    match j,hc,hd with
    | 0,hc,hd =>
     cases hc;cases hd;exact .refl _
    | 1,hc,hd =>
     cases hc;cases hd;exact .refl _
    | 2,hc,hd =>
     cases hc;cases hd;exact .mm rfl
   show cc Try.prog _ _ _ ⟨_,_,[.gone,.gone,.cells [aI f.name,ay f.blocks,.im (.int .i64) (ds.map fc)]]⟩;refine aH 6 2 (.ip none [aI f.name,ay f.blocks,.im (.int .i64) (ds.map fc)]) rfl (by simp[ak.aF]) trivial rfl ?_ ?_;rotate_left;simp -dsimp only[simprocAttr,↓aa,zp]
   ·refine aA ?_;refine .inl ⟨_,Hs,by simp only[aw,ae.upto,zt,zu,az,fj],au ?_⟩;simp -dsimp only[simprocAttr,↓aa,zp];refine ah ?_;refine aq ?_;simp -dsimp only[simprocAttr,↓aa,zp,zr,Try.results39]
   exact cw.mp rfl rfl
 exact cw.mp rfl rfl
def fH(u:bR)(i:bE):Int :=
 if i.op≠13∧i.op≠9 then 0
 else if(u.fns.length:Int)<=i.n then 4
 else if(i.op=13∧(aD (aL u i.n) 0).params.length≠i.args.length)∨(i.op=9∧(aD (aL u i.n) 0).params.length=0)then 3
 else 0
theorem pU(u:bR)(i:bE)(hn:i.op=13∨i.op=9->0<=i.n)(cj:∀f∈u.fns,f.blocks≠[]):bw Try.prog 40 [u.enc,i.enc] (aI (fH u i)):=by
 obtain⟨R,hR⟩:∃R,R=fH u i:=⟨_,rfl⟩
 rw[<-hR];unfold fH at hR;rcases(show(i.op≠13∧i.op≠9)∨i.op=13∨i.op=9 by omega)with h|h|h
 ·rw[if_pos h]at hR;have h1:decide (i.op=13)=false:=decide_eq_false h.1;have h2:decide (i.op=9)=false:=decide_eq_false h.2;refine zf true 0 Try.func40 Try.ntmps40 ?_;dsimp only[Tmp,TypeId,ax];refine aA (ah ?_);refine dd ?_;simp -dsimp only[simprocAttr,↓aa,zp,h1,h2];refine ah ?_;refine cS rfl ?_;refine aA (ah ?_);refine aq ?_;simp -dsimp only[simprocAttr,↓aa,zp,zr,Try.results40];rw[hR]
 all_goals
  have hn:=hn (by omega);rw[if_neg (by omega)]at hR;by_cases hl:(u.fns.length:Int)<=i.n
  ·rw[if_pos hl]at hR;have h3:decide ((u.fns.length:Int)<=i.n)=true:=decide_eq_true hl;have HD:(decide (i.op=13)=true∧decide (i.op=9)=false)∨(decide (i.op=13)=false∧decide (i.op=9)=true):=by
    simp only[decide_eq_true_eq,decide_eq_false_iff_not];omega
   rcases HD with⟨h1,h2⟩|⟨h1,h2⟩
   all_goals
    refine zf true 0 Try.func40 Try.ntmps40 ?_;dsimp only[Tmp,TypeId,ax];refine aA (ah ?_);refine dd ?_;simp -dsimp only[simprocAttr,↓aa,zp,h1,h2];refine ah ?_;refine cE rfl ?_;refine cA ?_;refine dd ?_;simp -dsimp only[simprocAttr,↓aa,zp,h3];refine ah ?_;refine cS rfl ?_;refine aA (ah ?_);refine aq ?_;simp -dsimp only[simprocAttr,↓aa,zp,zr,Try.results40];rw[hR]
  rw[if_neg hl]at hR;have h3:decide ((u.fns.length:Int)<=i.n)=false:=decide_eq_false hl;have hF:=jm (u:=u) (k:=i.n) hn (by omega);have HQ:=cj _ (List.mem_of_getElem? hF);have gK:0<(aL u i.n).blocks.length:=by
   cases hb:(aL u i.n).blocks with
   | nil=>exact absurd hb HQ
   | cons=>simp
  have hB:(aL u i.n).blocks[0]?=some (aD (aL u i.n) 0):=dy (f:=aL u i.n) (k:=0) (by omega) (by omega);generalize aD (aL u i.n) 0=B at *;generalize aL u i.n=F at *;have HD:(decide (i.op=13)=true∧decide (i.op=9)=false)∨(decide (i.op=13)=false∧decide (i.op=9)=true):=by
   simp only[decide_eq_true_eq,decide_eq_false_iff_not];omega
  rcases HD with⟨h1,h2⟩|⟨h1,h2⟩
  ·have g1:=of_decide_eq_true h1;have g2:=of_decide_eq_false h2;by_cases H4:B.params.length=i.args.length
   ·rw[if_neg (by omega)]at hR;have hq:decide ((B.params.length:Int)=i.args.length)=true:=decide_eq_true (by omega);refine zf true 0 Try.func40 Try.ntmps40 ?_;dsimp only[Tmp,TypeId,ax];refine aA (ah ?_);refine dd ?_;simp -dsimp only[simprocAttr,↓aa,zp,h1,h2];refine ah ?_;refine cE rfl ?_;refine cA ?_;refine dd ?_;simp -dsimp only[simprocAttr,↓aa,zp,h3];refine ah ?_;refine cE rfl ?_;refine cA ?_;refine aX ?_;simp -dsimp only[simprocAttr,↓aa,zp,hF,hB]
    repeat(refine⟨by omega,?_⟩)
    refine ah ?_;refine dd ?_;simp -dsimp only[simprocAttr,↓aa,zp,h1,h2,hq];refine ah ?_;refine cE rfl ?_;refine cA ?_;refine aA (ah ?_);refine aq ?_;simp -dsimp only[simprocAttr,↓aa,zp,zr,Try.results40];rw[hR]
   rw[if_pos (.inl ⟨g1,H4⟩)]at hR;have hq:decide ((B.params.length:Int)=i.args.length)=false:=decide_eq_false (by omega);refine zf true 0 Try.func40 Try.ntmps40 ?_;dsimp only[Tmp,TypeId,ax];refine aA (ah ?_);refine dd ?_;simp -dsimp only[simprocAttr,↓aa,zp,h1,h2];refine ah ?_;refine cE rfl ?_;refine cA ?_;refine dd ?_;simp -dsimp only[simprocAttr,↓aa,zp,h3];refine ah ?_;refine cE rfl ?_;refine cA ?_;refine aX ?_;simp -dsimp only[simprocAttr,↓aa,zp,hF,hB]
   repeat(refine⟨by omega,?_⟩)
   refine ah ?_;refine dd ?_;simp -dsimp only[simprocAttr,↓aa,zp,h1,h2,hq];refine ah ?_;refine cS rfl ?_;refine aA (ah ?_);refine aq ?_;simp -dsimp only[simprocAttr,↓aa,zp,zr,Try.results40];rw[hR]
  have g1:=of_decide_eq_false h1;have g2:=of_decide_eq_true h2;by_cases H4:B.params.length=0
  ·rw[if_pos (.inr ⟨g2,H4⟩)]at hR;have hq:decide ((B.params.length:Int)=0)=true:=decide_eq_true (by omega);refine zf true 0 Try.func40 Try.ntmps40 ?_;dsimp only[Tmp,TypeId,ax];refine aA (ah ?_);refine dd ?_;simp -dsimp only[simprocAttr,↓aa,zp,h1,h2];refine ah ?_;refine cE rfl ?_;refine cA ?_;refine dd ?_;simp -dsimp only[simprocAttr,↓aa,zp,h3];refine ah ?_;refine cE rfl ?_;refine cA ?_;refine aX ?_;simp -dsimp only[simprocAttr,↓aa,zp,hF,hB]
   repeat(refine⟨by omega,?_⟩)
   refine ah ?_;refine dd ?_;simp -dsimp only[simprocAttr,↓aa,zp,h1,h2,hq];refine ah ?_;refine cS rfl ?_;refine aA (ah ?_);refine aq ?_;simp -dsimp only[simprocAttr,↓aa,zp,zr,Try.results40];rw[hR]
  rw[if_neg (by omega)]at hR;have hq:decide ((B.params.length:Int)=0)=false:=decide_eq_false (by omega);refine zf true 0 Try.func40 Try.ntmps40 ?_;dsimp only[Tmp,TypeId,ax];refine aA (ah ?_);refine dd ?_;simp -dsimp only[simprocAttr,↓aa,zp,h1,h2];refine ah ?_;refine cE rfl ?_;refine cA ?_;refine dd ?_;simp -dsimp only[simprocAttr,↓aa,zp,h3];refine ah ?_;refine cE rfl ?_;refine cA ?_;refine aX ?_;simp -dsimp only[simprocAttr,↓aa,zp,hF,hB]
  repeat(refine⟨by omega,?_⟩)
  refine ah ?_;refine dd ?_;simp -dsimp only[simprocAttr,↓aa,zp,h1,h2,hq];refine ah ?_;refine cE rfl ?_;refine cA ?_;refine aA (ah ?_);refine aq ?_;simp -dsimp only[simprocAttr,↓aa,zp,zr,Try.results40];rw[hR]
theorem tE:∀(l:List Block) (m:Int),0<=m->m+2 ^ 48*(l.length:Int)<=2 ^ 60->(∀b∈l,b.ins.length<=2 ^ 47)->m<=kM m l∧∀b∈l,(b.ins.length:Int)<=kM m l
 | [],m,_,_,_=>⟨by simp[kM],by simp⟩
 | b::r,m,h0,h1,h2=>by
  have hb:=h2 b (by simp);simp only[List.length_cons]at h1;have hw:IntKind.i64.wrap (m+b.ins.length)=m+b.ins.length:=lx _ _ (by simp[IntKind.min,IntKind.bits,IntKind.signed];omega) (by simp[IntKind.max,IntKind.bits,IntKind.signed];omega);have ih:=tE r (m+b.ins.length) (by omega) (by omega) (fun x hx=>h2 x (by simp[hx]));simp only[kM,hw];refine⟨by omega,fun x hx=>?_⟩;rcases List.mem_cons.1 hx with q|q
  ·subst q;omega
  exact ih.2 x q
structure DC(f:Func):Prop where
 ne:f.blocks≠[]
 few:f.blocks.length<=128
 name:-1<=f.name∧f.name<=1048575
 args:(aD f 0).params.length<=6
 ins:∀b∈f.blocks,b.ins.length<=1024
 blk:∀b∈f.blocks,BD f b
 pC:oh f (de f f.blocks.length 0 []).2=0
theorem dV{f:Func}(bB:f.fit)(h:bo f=0):DC f:=by
 unfold bo at h;split at h
 ·simp at h
 rename_i h1;split at h
 ·simp at h
 rename_i h2;split at h
 ·simp at h
 rename_i h3;split at h
 ·rename_i h4;exact absurd h h4
 rename_i h4;have hw:=tE f.blocks 0 (by omega) (by omega) (fun b hb=>(bB.2.2 b hb).2.2.1);refine⟨fun e=>h1 (by rw[e];rfl),by omega,by simpa[within]using h3,by omega,fun b hb=>?_,oU (by simpa using h4),h⟩;have:=hw.2 b hb;omega
structure DD(i:bE):Prop where
 op:0<=i.op∧i.op<=24
 len:i.args.length<=16
 c0:i.op=0->fp i.n∧i.args.length=0
 c2:(1<=i.op∧i.op<=7)∨i.op=16∨i.op=18∨i.op=19∨i.op=21∨i.op=23->i.args.length=2
 c1:i.op=10∨i.op=11∨i.op=12∨i.op=15∨i.op=17∨i.op=24->i.args.length=1
 c3:i.op=20->i.args.length=3
 F':i.op=8->0<=i.n∧i.n<=255
 call:i.op=9∨i.op=13->0<=i.n∧i.n<=255
 app:i.op=14->1<=i.args.length
 G':i.op=11∨i.op=24->0<=i.n
 pack:i.op=22->(i.n=2∨i.n=4)∧(i.args.length:Int)=i.n
 vec:i.op=23->i.n=1∨i.n=2∨i.n=3
theorem nK{i:bE}(h:jg i=0):DD i:=by
 unfold jg at h;split at h
 ·simp at h
 rename_i hA;split at h
 ·simp at h
 rename_i HH;split at h
 ·rename_i hN;have Jh:(bj i).2=true∧(0<=(bj i).1->(i.args.length:Int)=(bj i).1)∧(i.op=14->¬(i.args.length:Int)=0):=by
   simp only[uq,Bool.or_eq_true,Bool.not_eq_true',Bool.and_eq_true,decide_eq_true_eq,decide_eq_false_iff_not,not_or,not_and,Bool.not_eq_false,Decidable.not_not]at hA;exact⟨hA.1.1,hA.1.2,hA.2⟩
  obtain⟨a1,a2,a3⟩:=Jh;have hB:(i.op=8∨i.op=9->i.args.length<=16)∧(i.op=13∨i.op=14->i.args.length<=6):=by
   simp only[qg,ur,Bool.or_eq_true,Bool.and_eq_true,decide_eq_true_eq,not_or,not_and]at HH;exact⟨fun q=>by have:=HH.1 q;omega,fun q=>by have:=HH.2 q;omega⟩
  obtain⟨b1,b2⟩:=hB;have iT:0<=i.op∧i.op<=24:=by
   unfold bj at a1;split at a1
   ·omega
   split at a1
   ·omega
   split at a1
   ·omega
   split at a1
   ·omega
   split at a1
   ·omega
   split at a1
   ·omega
   simp at a1
  have o0:i.op=0->bj i=(0,true):=fun q=>by unfold bj;rw[if_pos q]
  have o2:(1<=i.op∧i.op<=7)∨i.op=16∨i.op=18∨i.op=19∨i.op=21∨i.op=23->bj i=(2,true):=fun q=>by unfold bj;rw[if_neg (by omega),if_pos q]
  have o3:i.op=20->bj i=(3,true):=fun q=>by unfold bj;rw[if_neg (by omega),if_neg (by omega),if_pos q]
  have o1:i.op=10∨i.op=11∨i.op=12∨i.op=15∨i.op=17∨i.op=24->bj i=(1,true):=fun q=>by unfold bj;rw[if_neg (by omega),if_neg (by omega),if_neg (by omega),if_pos q]
  have JY:i.op=22->bj i=(i.n,decide (i.n=2∨i.n=4)):=fun q=>by unfold bj;rw[if_neg (by omega),if_neg (by omega),if_neg (by omega),if_neg (by omega),if_neg (by omega),if_pos q]
  have l0:i.op=0->i.args.length=0:=fun q=>by rw[o0 q]at a2;have:=a2 (by decide);simp only at this;omega
  have l2:=fun q=>by have:=a2;rw[o2 q]at this;exact this (by decide)
  have l3:=fun q=>by have:=a2;rw[o3 q]at this;exact this (by decide)
  have l1:=fun q=>by have:=a2;rw[o1 q]at this;exact this (by decide)
  have I9:i.op=22->(i.n=2∨i.n=4)∧(i.args.length:Int)=i.n:=fun q=>by
   rw[JY q]at a1 a2;have:i.n=2∨i.n=4:=of_decide_eq_true a1;exact⟨this,a2 (by simp only;omega)⟩
  have n0:i.op=0->fp i.n:=fun q=>by unfold cC at hN;rw[if_pos q]at hN;exact of_decide_eq_true hN
  have n8:i.op=8->0<=i.n∧i.n<=255:=fun q=>by unfold cC at hN;rw[if_neg (by omega),if_pos q]at hN;exact fa.1 hN
  have JV:i.op=11->0<=i.n∧i.n<=15:=fun q=>by unfold cC at hN;rw[if_neg (by omega),if_neg (by omega),if_pos q]at hN;exact fa.1 hN
  have n9:i.op=9∨i.op=13->0<=i.n∧i.n<=255:=fun q=>by unfold cC at hN;rw[if_neg (by omega),if_neg (by omega),if_neg (by omega),if_pos q]at hN;exact fa.1 hN
  have JW:i.op=23->i.n=1∨i.n=2∨i.n=3:=fun q=>by unfold cC at hN;rw[if_neg (by omega),if_neg (by omega),if_neg (by omega),if_neg (by omega),if_pos q]at hN;exact of_decide_eq_true hN
  have JX:i.op=24->0<=i.n∧i.n<=3:=fun q=>by unfold cC at hN;rw[if_neg (by omega),if_neg (by omega),if_neg (by omega),if_neg (by omega),if_neg (by omega),if_pos q]at hN;exact fa.1 hN
  have L2:(1<=i.op∧i.op<=7)∨i.op=16∨i.op=18∨i.op=19∨i.op=21∨i.op=23->i.args.length=2:=fun q=>by have:=l2 q;omega
  have L1:i.op=10∨i.op=11∨i.op=12∨i.op=15∨i.op=17∨i.op=24->i.args.length=1:=fun q=>by have:=l1 q;omega
  have L3:i.op=20->i.args.length=3:=fun q=>by have:=l3 q;omega
  refine⟨iT,?_,fun q=>⟨n0 q,l0 q⟩,L2,L1,L3,n8,n9,fun q=>by have:=a3 q;omega,fun q=>?_,I9,JW⟩
  ·rcases(show i.op=0∨((1<=i.op∧i.op<=7)∨i.op=16∨i.op=18∨i.op=19∨i.op=21∨i.op=23)∨i.op=20∨(i.op=10∨i.op=11∨i.op=12∨i.op=15∨i.op=17∨i.op=24)∨(i.op=8∨i.op=9)∨(i.op=13∨i.op=14)∨i.op=22 by omega)with q|q|q|q|q|q|q
   ·have:=l0 q;omega
   ·have:=L2 q;omega
   ·have:=L3 q;omega
   ·have:=L1 q;omega
   ·have:=b1 q;omega
   ·have:=b2 q;omega
   have:=I9 q;omega
  rcases q with q|q
  ·exact(JV q).1
  exact(JX q).1
 simp at h
structure FZ(f:Func)(t:Term):Prop where
 kind:0<=t.kind∧t.kind<=4
 to:t.kind=0∨t.kind=4->t.to=[]
 rE:t.kind=1->t.to.length=1
 cond:t.kind=2->t.to.length=2
 switch:t.kind=3->t.to.length=t.cases.length+1
 cases:t.cases.length<=256
 ve:t.kind=4->1<=t.n∧t.n<=6
 n:t.kind≠4->t.n=0
 db:∀e∈t.to,(1<=e.block∧e.block<=(f.blocks.length:Int)-1)∧e.args.length=(aD f e.block).params.length
theorem jE{f:Func}{t:Term}(h:jX f t=0):FZ f t:=by
 obtain⟨h1,h2,h3,h4⟩:=jk h;simp only[eG,Bool.and_eq_true,Bool.or_eq_true,decide_eq_true_eq]at h1;obtain⟨hk,⟨⟨he,_⟩,hn⟩,hc⟩:=h1;refine⟨hk,fun q=>?_,fun q=>?_,fun q=>?_,fun q=>?_,h2,h3,fun q=>hn.resolve_left q,h4⟩
 ·have:eX t=0:=by rcases q with q|q<;>simp[eX,q]
  rw[this]at he;exact List.length_eq_zero_iff.1 (by omega)
 ·have:eX t=1:=by simp[eX,q]
  omega
 ·have:eX t=2:=by simp[eX,q]
  omega
 have:eX t=t.cases.length+1:=by simp[eX,q]
 omega
def l4(a b:Int):Int:=if a≠0 then a else b
theorem cJ{a b:Int}(h:a=0):l4 a b=b:=by simp[l4,h]
theorem fT{a b:Int}(h:¬a=0):l4 a b=a:=by simp[l4,h]
theorem gU(a b c:Int):l4 (l4 a b) c=l4 a (l4 b c):=by
 by_cases h:a=0
 ·rw[cJ h,cJ h]
 rw[fT h,fT h,fT h]
theorem hZ{a b:Int}(h:l4 a b=0):a=0∧b=0:=by
 by_cases q:a=0
 ·exact⟨q,by rwa [cJ q]at h⟩
 rw[fT q]at h;exact absurd h q
def k7:List Func->Int
 | []=>0
 | f::r=>l4 (bo f) (k7 r)
def kX(u:bR):List bE->Int
 | []=>0
 | i::r=>l4 (fH u i) (kX u r)
def jA(u:bR):List Block->Int
 | []=>0
 | b::r=>l4 (kX u b.ins) (jA u r)
def gv(u:bR):List Func->Int
 | []=>0
 | f::r=>l4 (jA u f.blocks) (gv u r)
def dr(u:bR):Int :=
 if u.fns.length=0 then 3
 else if 256<u.fns.length then 2
 else if within u.main 0 ((u.fns.length:Int)-1)=false then 4
 else l4 (k7 u.fns) (if 0<(aD (aL u u.main) 0).params.length then 3 else gv u u.fns)
theorem k8:∀{l:List Func},k7 l=0->∀f∈l,bo f=0
 | [],_,f,h=>by simp at h
 | g::r,h,f,hf=>by
  have:=hZ h;rcases List.mem_cons.1 hf with q|q
  ·subst q;exact this.1
  exact k8 this.2 f q
theorem mY(u:bR)(bB:u.fit):bw Try.prog 18 [u.enc] (aI (dr u)):=by
 obtain⟨R,hR⟩:∃R,R=dr u:=⟨_,rfl⟩
 rw[<-hR];unfold dr at hR;have hw:=dN u.main 0 ((u.fns.length:Int)-1);have wj:u.fns.length<=2 ^ 47:=bB.2.1;refine zf true 0 Try.func18 Try.ntmps18 ?_;dsimp only[Tmp,TypeId,ax];refine aA (ah ?_);refine aH 1 0 (.ip none [a9 u.fns,aI u.main]) rfl (by simp[ak.aF]) trivial rfl ?_ ?_;rotate_left;simp -dsimp only[simprocAttr,↓aa,zp]
 ·refine aK (aj ?_);by_cases h0:u.fns.length=0
  ·rw[if_pos h0]at hR;have hd:decide ((u.fns.length:Int)=0)=true:=decide_eq_true (by omega);refine aX ?_;simp -dsimp only[simprocAttr,↓aa,zp,hd];refine ah ?_;refine cS rfl ?_;refine aA (ah ?_);refine aq ?_;simp -dsimp only[simprocAttr,↓aa,zp,zr,Try.results18];rw[hR]
  rw[if_neg h0]at hR;have hd:decide ((u.fns.length:Int)=0)=false:=decide_eq_false (by omega);refine aX ?_;simp -dsimp only[simprocAttr,↓aa,zp,hd];refine ah ?_;apply aP rfl<;>intro h
  ·cases h
  by_cases h1:256<u.fns.length
  ·rw[if_pos h1]at hR;have hd:decide ((256:Int)<u.fns.length)=true:=decide_eq_true (by omega);refine aX ?_;simp -dsimp only[simprocAttr,↓aa,zp,hd];refine ah ?_;refine cS rfl ?_;refine aA (ah ?_);refine aq ?_;simp -dsimp only[simprocAttr,↓aa,zp,zr,Try.results18];rw[hR]
  rw[if_neg h1]at hR;have hd:decide ((256:Int)<u.fns.length)=false:=decide_eq_false (by omega);refine aX ?_;simp -dsimp only[simprocAttr,↓aa,zp,hd];refine ah ?_;apply aP rfl<;>intro h
  ·cases h
  cases wD:within u.main 0 ((u.fns.length:Int)-1)with
  | false =>
   rw[if_pos wD]at hR;rw[wD]at hw;refine aA ?_
   repeat(refine⟨by omega,?_⟩)
   refine zi hw ?_;refine ah ?_;refine cS rfl ?_;refine aA (ah ?_);refine aq ?_;simp -dsimp only[simprocAttr,↓aa,zp,zr,Try.results18];rw[hR]
  | true =>
   have r8:=fa.1 wD;rw[if_neg (by simp[wD])]at hR;rw[wD]at hw;refine aA ?_
   repeat(refine⟨by omega,?_⟩)
   refine zi hw ?_;refine ah ?_;apply aP rfl<;>intro h
   ·cases h
   refine jR ?_;refine b8 (ah ?_);refine aj (aU (ι:={k:Nat // k<=u.fns.length∧k7 u.fns=k7 (u.fns.drop k)}) (fun k=>⟨87,[(1,.ip none [a9 u.fns,aI u.main]),(2,aI 0),(33,a9 u.fns),(34,aI u.fns.length),(35,aI k.1)],[.gone]⟩) (fun k=>u.fns.length-k.1) ⟨0,by omega,rfl⟩ ?_ ?_)
   ·refine zq rfl ?_ ?_;simp -dsimp only[simprocAttr,↓aa,zp,zc];rfl
   rintro⟨k,hk,cO⟩;refine aA (ah ?_);apply gW rfl<;>intro h
   ·refine cA ?_;have aZ:k<u.fns.length:=by simpa using h
    obtain⟨f,hf⟩:∃f,u.fns[k]?=some f:=⟨u.fns[k],by simp[aZ]⟩
    have tI:=lP f (bB.2.2 f (List.mem_of_getElem? hf));rw[bS hf]at cO;simp only[k7]at cO;obtain⟨e,Bu⟩:∃e,e=bo f:=⟨_,rfl⟩
    rw[<-Bu]at cO tI;refine aK (aj ?_);refine aX ?_;simp -dsimp only[simprocAttr,↓aa,zp,hf];refine ah ?_;refine aH 4 1 (.ip none [aI f.name,ay f.blocks]) rfl (by simp[ak.aF]) trivial rfl ?_ ?_;rotate_left;simp -dsimp only[simprocAttr,↓aa,zp]
    ·refine bT 1 [(1,.ip none [a9 u.fns,aI u.main]),(2,aI 0),(33,a9 u.fns),(34,aI u.fns.length),(35,aI k),(4,.ip none [aI f.name,ay f.blocks])] (by simp) (by omega) [.gone] ?_ ?_ ?_ ?_ ?_
     ·rfl
     ·simp[ak.upto,aw,ae.upto,az,Func.ai,Block.ai,Edge.ai,bE.ai]
     ·simp[gj,St.get,bu,a7,Go.Av.look,Sub.refl]
     ·simp[ak.upto,aw,ae.upto,az,Func.ai,Block.ai,Edge.ai,bE.ai]
     refine aA ?_;refine zi tI ?_;refine ah ?_;by_cases he:e=0
     ·have jn:decide (e=0)=true:=decide_eq_true he;rw[cJ he]at cO;refine aX ?_;simp -dsimp only[simprocAttr,↓aa,zp,jn];refine ah ?_;refine cE rfl ?_;refine jR ?_;refine dc ?_
      repeat(refine⟨by omega,?_⟩)
      refine fV ?_;refine⟨⟨k+1,aZ,cO⟩,by simp;omega,?_⟩;refine zq rfl ?_ ?_;simp -dsimp only[simprocAttr,↓aa,zp,zc]
      ·exact Sub.int (by simp)
      rfl
     have jn:decide (e=0)=false:=decide_eq_false he;rw[fT he]at cO;rw[cO,fT he]at hR;refine aX ?_;simp -dsimp only[simprocAttr,↓aa,zp,jn];refine ah ?_;refine cS rfl ?_;refine aA (ah ?_);refine aq ?_;simp -dsimp only[simprocAttr,↓aa,zp,zr,Try.results18];rw[hR]
    exact cw.mp rfl rfl
   refine aR ?_;simp -dsimp only[bX,ne_eq,Nat.reduceEqDiff,reduceCtorEq];have gT:k=u.fns.length:=by simp at h;omega
   subst gT;rw[List.drop_length]at cO;have Cf:k7 u.fns=0:=by rw[cO];rfl
   rw[cJ Cf]at hR;have cM:∀f∈u.fns,DC f:=fun f hf=>dV (bB.2.2 f hf) (k8 Cf f hf);have hM:=jm (u:=u) (k:=u.main) r8.1 (by omega);have Jn:0<(aL u u.main).blocks.length:=by
    have:=(cM _ (List.mem_of_getElem? hM)).ne;cases hb:(aL u u.main).blocks with
    | nil=>exact absurd hb this
    | cons=>simp
   have hB:(aL u u.main).blocks[0]?=some (aD (aL u u.main) 0):=dy (f:=aL u u.main) (k:=0) (by omega) (by omega);generalize aD (aL u u.main) 0=B at *;generalize aL u u.main=F at *;by_cases hp:0<B.params.length
   ·rw[if_pos hp]at hR;have EC:decide ((0:Int)<B.params.length)=true:=decide_eq_true (by omega);refine dd ?_;simp -dsimp only[simprocAttr,↓aa,zp,hM,hB,EC]
    repeat(refine⟨by omega,?_⟩)
    refine ah ?_;refine cS rfl ?_;refine aA (ah ?_);refine aq ?_;simp -dsimp only[simprocAttr,↓aa,zp,zr,Try.results18];rw[hR]
   rw[if_neg hp]at hR;have EC:decide ((0:Int)<B.params.length)=false:=decide_eq_false (by omega);refine dd ?_;simp -dsimp only[simprocAttr,↓aa,zp,hM,hB,EC]
   repeat(refine⟨by omega,?_⟩)
   refine ah ?_;apply aP rfl<;>intro h
   ·cases h
   refine cA ?_;refine b8 (ah ?_);refine aj (aU (ι:={k:Nat // k<=u.fns.length∧R=gv u (u.fns.drop k)}) (fun k=>⟨87,[(1,.ip none [a9 u.fns,aI u.main]),(2,aI 0),(58,a9 u.fns),(59,aI u.fns.length),(60,aI k.1)],[.gone]⟩) (fun k=>u.fns.length-k.1) ⟨0,by omega,hR⟩ ?_ ?_)
   ·refine zq rfl ?_ ?_;simp -dsimp only[simprocAttr,↓aa,zp,zc];rfl
   rintro⟨k,hk,cO⟩;refine aA (ah ?_);apply gW rfl<;>intro h
   ·refine cA ?_;have aZ:k<u.fns.length:=by simpa using h
    obtain⟨f,hf⟩:∃f,u.fns[k]?=some f:=⟨u.fns[k],by simp[aZ]⟩
    have Bv:=List.mem_of_getElem? hf;have iI:=(cM f Bv).few;rw[bS hf]at cO;simp only[gv]at cO;refine aK (aj ?_);refine aX ?_;simp -dsimp only[simprocAttr,↓aa,zp,hf];refine ah ?_;refine aH 7 1 (.ip none [aI f.name,ay f.blocks]) rfl (by simp[ak.aF]) trivial rfl ?_ ?_;rotate_left;simp -dsimp only[simprocAttr,↓aa,zp]
    ·refine bT 1 [(1,.ip none [a9 u.fns,aI u.main]),(2,aI 0),(58,a9 u.fns),(59,aI u.fns.length),(60,aI k),(7,.ip none [aI f.name,ay f.blocks])] (by simp) (by omega) [.gone] ?_ ?_ ?_ ?_ ?_
     ·rfl
     ·simp[ak.upto,aw,ae.upto,az,Func.ai,Block.ai,Edge.ai,bE.ai]
     ·simp[gj,St.get,bu,a7,Go.Av.look,Sub.refl]
     ·simp[ak.upto,aw,ae.upto,az,Func.ai,Block.ai,Edge.ai,bE.ai]
     refine aA (ah ?_);refine aj (aU (ι:={j:Nat // j<=f.blocks.length∧R=l4 (jA u (f.blocks.drop j)) (gv u (u.fns.drop (k+1)))}) (fun j=>⟨87,[(1,.ip none [a9 u.fns,aI u.main]),(2,aI 0),(58,a9 u.fns),(59,aI u.fns.length),(60,aI k),(65,ay f.blocks),(66,aI f.blocks.length),(67,aI j.1)],[.gone]⟩) (fun j=>f.blocks.length-j.1) ⟨0,by omega,cO⟩ ?_ ?_)
     ·refine zq rfl ?_ ?_;simp -dsimp only[simprocAttr,↓aa,zp,zc];rfl
     rintro⟨j,hj,fB⟩;refine aA (ah ?_);apply gW rfl<;>intro h
     ·refine cA ?_;have nQ:j<f.blocks.length:=by simpa using h
      obtain⟨b,hb⟩:∃b,f.blocks[j]?=some b:=⟨f.blocks[j],by simp[nQ]⟩
      have jc:=List.mem_of_getElem? hb;have sP:=(cM f Bv).ins b jc;rw[bS hb]at fB;simp only[jA]at fB;rw[gU]at fB;refine aK (aj ?_);refine aX ?_;simp -dsimp only[simprocAttr,↓aa,zp,hb];refine ah ?_;refine aH 9 1 (.ip none [a6 b.params,bD b.ins,aI b.term.kind,aI b.term.arg,aI b.term.n,a6 b.term.cases,aJ b.term.to]) rfl (by simp[ak.aF]) trivial rfl ?_ ?_;rotate_left;simp -dsimp only[simprocAttr,↓aa,zp]
      ·refine bT 1 [(1,.ip none [a9 u.fns,aI u.main]),(2,aI 0),(58,a9 u.fns),(59,aI u.fns.length),(60,aI k),(65,ay f.blocks),(66,aI f.blocks.length),(67,aI j),(9,.ip none [a6 b.params,bD b.ins,aI b.term.kind,aI b.term.arg,aI b.term.n,a6 b.term.cases,aJ b.term.to])] (by simp) (by omega) [.gone] ?_ ?_ ?_ ?_ ?_
       ·rfl
       ·simp[ak.upto,aw,ae.upto,az,Func.ai,Block.ai,Edge.ai,bE.ai]
       ·simp[gj,St.get,bu,a7,Go.Av.look,Sub.refl]
       ·simp[ak.upto,aw,ae.upto,az,Func.ai,Block.ai,Edge.ai,bE.ai]
       refine aA (ah ?_);refine aj (aU (ι:={z:Nat // z<=b.ins.length∧R=l4 (kX u (b.ins.drop z)) (l4 (jA u (f.blocks.drop (j+1))) (gv u (u.fns.drop (k+1))))}) (fun z=>⟨87,[(1,.ip none [a9 u.fns,aI u.main]),(2,aI 0),(58,a9 u.fns),(59,aI u.fns.length),(60,aI k),(65,ay f.blocks),(66,aI f.blocks.length),(67,aI j),(72,bD b.ins),(73,aI b.ins.length),(74,aI z.1)],[.gone]⟩) (fun z=>b.ins.length-z.1) ⟨0,by omega,fB⟩ ?_ ?_)
       ·refine zq rfl ?_ ?_;simp -dsimp only[simprocAttr,↓aa,zp,zc];rfl
       rintro⟨z,hz,gp⟩;refine aA (ah ?_);apply gW rfl<;>intro h
       ·refine cA ?_;have qt:z<b.ins.length:=by simpa using h
        obtain⟨i,hi⟩:∃i,b.ins[z]?=some i:=⟨b.ins[z],by simp[qt]⟩
        rw[bS hi]at gp;simp only[kX]at gp;rw[gU]at gp;have HR:=nK (((cM f Bv).blk b jc).uu i (List.mem_of_getElem? hi));have eZ:=pU u i (fun q=>(HR.call (by omega)).1) (fun f hf=>(cM f hf).ne);obtain⟨e,Bu⟩:∃e,e=fH u i:=⟨_,rfl⟩
        rw[<-Bu]at gp eZ;refine aK (aj ?_);refine aX ?_;simp -dsimp only[simprocAttr,↓aa,zp,hi];refine ah ?_;refine aH 11 1 (.ip none [aI i.to,aI i.op,aI i.n,a6 i.args]) rfl (by simp[ak.aF]) trivial rfl ?_ ?_;rotate_left;simp -dsimp only[simprocAttr,↓aa,zp]
        ·refine bT 1 [(1,.ip none [a9 u.fns,aI u.main]),(2,aI 0),(58,a9 u.fns),(59,aI u.fns.length),(60,aI k),(65,ay f.blocks),(66,aI f.blocks.length),(67,aI j),(72,bD b.ins),(73,aI b.ins.length),(74,aI z),(11,.ip none [aI i.to,aI i.op,aI i.n,a6 i.args])] (by simp) (by omega) [.gone] ?_ ?_ ?_ ?_ ?_
         ·rfl
         ·simp[ak.upto,aw,ae.upto,az,Func.ai,Block.ai,Edge.ai,bE.ai]
         ·simp[gj,St.get,bu,a7,Go.Av.look,Sub.refl]
         ·simp[ak.upto,aw,ae.upto,az,Func.ai,Block.ai,Edge.ai,bE.ai]
         refine aA ?_;refine zi eZ ?_;refine ah ?_;by_cases he:e=0
         ·have jn:decide (e=0)=true:=decide_eq_true he;rw[cJ he]at gp;refine aX ?_;simp -dsimp only[simprocAttr,↓aa,zp,jn];refine ah ?_;refine cE rfl ?_;refine jR ?_;refine dc ?_
          repeat(refine⟨by omega,?_⟩)
          refine fV ?_;refine⟨⟨z+1,qt,gp⟩,by simp;omega,?_⟩;refine zq rfl ?_ ?_;simp -dsimp only[simprocAttr,↓aa,zp,zc]
          ·exact Sub.int (by simp)
          rfl
         have jn:decide (e=0)=false:=decide_eq_false he;rw[fT he]at gp;refine aX ?_;simp -dsimp only[simprocAttr,↓aa,zp,jn];refine ah ?_;refine cS rfl ?_;refine aA (ah ?_);refine aq ?_;simp -dsimp only[simprocAttr,↓aa,zp,zr,Try.results18];rw[gp]
        exact cw.mp rfl rfl
       refine aR ?_;simp -dsimp only[bX,ne_eq,Nat.reduceEqDiff,reduceCtorEq];have Cw:z=b.ins.length:=by simp at h;omega
       subst Cw;rw[List.drop_length]at gp;rw[cJ (by rfl)]at gp;refine dc ?_
       repeat(refine⟨by omega,?_⟩)
       refine fV ?_;refine⟨⟨j+1,nQ,gp⟩,by simp;omega,?_⟩;refine zq rfl ?_ ?_;simp -dsimp only[simprocAttr,↓aa,zp,zc]
       ·exact Sub.int (by simp)
       rfl
      exact cw.mp rfl rfl
     refine aR ?_;simp -dsimp only[bX,ne_eq,Nat.reduceEqDiff,reduceCtorEq];have oH:j=f.blocks.length:=by simp at h;omega
     subst oH;rw[List.drop_length]at fB;rw[cJ (by rfl)]at fB;refine dc ?_
     repeat(refine⟨by omega,?_⟩)
     refine fV ?_;refine⟨⟨k+1,aZ,fB⟩,by simp;omega,?_⟩;refine zq rfl ?_ ?_;simp -dsimp only[simprocAttr,↓aa,zp,zc]
     ·exact Sub.int (by simp)
     rfl
    exact cw.mp rfl rfl
   refine aR ?_;simp -dsimp only[bX,ne_eq,Nat.reduceEqDiff,reduceCtorEq];have gT:k=u.fns.length:=by simp at h;omega
   subst gT;rw[List.drop_length]at cO;refine aA (ah ?_);refine aq ?_;simp -dsimp only[simprocAttr,↓aa,zp,zr,Try.results18];rw[cO];rfl
 exact cw.mp rfl rfl
theorem fW.mono{u:bR}{m m':Mach}(h:∀a∈m.heap,∃b∈m'.heap,b.kd=a.kd){v:SV}(k:fW u m v):fW u m' v :=
 SV.Wf.mono (fun id ⟨a,ha,e⟩=>by
  obtain⟨b,hb,e'⟩:=h a ha;exact⟨b,hb,e'.trans e⟩) k
theorem fW.of_heap{u:bR}{m m':Mach}(h:m'.heap=m.heap){v:SV}(k:fW u m v):fW u m' v :=
 k.mono fun a ha=>⟨a,by rw[h];exact ha,rfl⟩
theorem fW.word{u:bR}{m:Mach}{n:Int}(h:fp n):fW u m (.word n):=SV.Wf.word h
theorem fW.zero{u:bR}{m:Mach}:fW u m .zero:=SV.Wf.zero
theorem gH{u:bR}{m:Mach}{l:List SV}(h:∀v∈l,fW u m v)(k:Nat):fW u m (ca l k):=by
 unfold ca;cases hk:l[k]? with
 | none=>exact fW.zero
 | some v=>exact h v (List.mem_of_getElem? hk)
theorem sI{u:bR}{m:Mach}{es:List (Int×SV)}(h:∀e∈es,fW u m e.2)(k:Int):fW u m (cZ es k):=by
 unfold cZ;cases hl:gq es k with
 | none=>exact fW.zero
 | some v =>
  obtain⟨e,h1,rfl⟩:=sb hl;exact h e h1
theorem kI{u:bR}{m:Mach}{es:List (Int×SV)}(h:∀e∈es,fW u m e.2)(l:List Int):∀v∈bN es l,fW u m v:=fun v hv=>by
 obtain⟨k,_,rfl⟩:=List.mem_map.1 hv;exact sI h k
theorem kH(es:List (Int×SV))(l:List Int):(bN es l).length=l.length:=by simp[bN]
theorem tc{u:bR}{m:Mach}{es:List (Int×SV)}(h:∀e∈es,fW u m e.2){k:Int}{v:SV}(hv:fW u m v):∀e∈cK es k v,fW u m e.2:=fun e he=>by
 rcases iD he with q|q
 ·exact h e q
 rw[q];exact hv
theorem tQ{u:bR}{m:Mach}{es:List (Int×SV)}(h:∀e∈es,fW u m e.2){ps:List Int}{l:List SV}(hl:∀v∈l,fW u m v):∀e∈cH es ps l,fW u m e.2:=fun e he=>by
 rcases jt he with q|q
 ·exact h e q
 exact hl _ q
theorem nt(op a b:Int)(hb:fp b):(∃n,fp n∧(dk op a b).1=.word n)∧0<=(dk op a b).2∧(dk op a b).2<=6:=by
 have w1:=jb (a+b);have w2:=jb (a-b);have w3:=jb (a*b);have w4:=jb (a.tdiv b);have w0:fp 0:=by unfold fp;omega
 have J3:fp 1:=by unfold fp;omega
 unfold dk
 repeat' split
 all_goals first
  | exact⟨⟨_,w1,rfl⟩,by simp⟩
  | exact⟨⟨_,w2,rfl⟩,by simp⟩
  | exact⟨⟨_,w3,rfl⟩,by simp⟩
  | exact⟨⟨_,w4,rfl⟩,by simp⟩
  | exact⟨⟨_,w0,rfl⟩,by simp⟩
  | exact⟨⟨_,J3,rfl⟩,by simp⟩
  | exact⟨⟨_,qP hb (by assumption),rfl⟩,by simp⟩
theorem qC{u:bR}{m:Mach}{i:bE}{args:List SV}(h:∀v∈args,fW u m v):fW u m (c8 i args).1∧0<=(c8 i args).2∧(c8 i args).2<=6:=by
 have h0:=gH h 0;have hk:∀k,fW u m (ca (ca args 0).list k):=gH (SV.Wf.kids h0);have hl:=SV.Wf.len h0;unfold c8
 repeat' split
 all_goals first
  | exact⟨fW.zero,by simp⟩
  | exact⟨hk _,by simp⟩
  | exact⟨fW.word (SV.Wf.num h0 (by omega)),by simp⟩
  | exact⟨fW.word (by unfold fp;omega),by simp⟩
theorem xM{u:bR}{m:Mach}{op:Int}:∀(l r:List SV),(∀v∈r,fp v.n)->∀v∈jq op l r,fW u m v∧v.kind=0
 | [],_,_,v,h=>by simp[jq]at h
 | _::_,[],_,v,h=>by simp[jq]at h
 | a::l,b::r,hr,v,h=>by
  simp only[jq,List.mem_cons]at h;rcases h with rfl|h
  ·obtain⟨⟨n,h1,h2⟩,_⟩:=nt op a.n b.n (hr b (by simp));rw[h2];exact⟨fW.word h1,rfl⟩
  exact xM l r (fun v hv=>hr v (by simp[hv])) v h
theorem oR{u:bR}{m:Mach}{v:SV}(h:fW u m v)(hk:v.kind=4):v.list.length<=1000∧∀x∈v.list,fp x.n :=
 ⟨SV.Wf.len h,fun x hx=>SV.Wf.num (SV.Wf.kids h x hx) (.inl (SV.Wf.vec h hk x hx))⟩
theorem qW{u:bR}{m:Mach}{i:bE}{args:List SV}(h:∀v∈args,fW u m v)(hl:i.op=22->args.length<=1000)(h2:i.op≠22->i.op≠24->∃x y,args=[x,y]) :
  fW u m (dn i args).1∧0<=(dn i args).2∧(dn i args).2<=6:=by
 have h0:=gH h 0;have hk:∀k,fW u m (ca (ca args 0).list k):=gH (SV.Wf.kids h0);by_cases Bp:i.op=22
 ·unfold dn;rw[if_pos Bp];split
  ·rename_i ha;refine⟨.mk (by omega) (by omega) (by omega) (by omega) (fun _ v hv=>?_) (hl Bp) (by simp) h,by simp⟩;simp only[jw,List.all_eq_true,decide_eq_true_eq]at ha;exact ha v hv
  exact⟨fW.zero,by simp⟩
 by_cases DG:i.op=24
 ·unfold dn;rw[if_neg Bp,if_pos DG];split
  ·exact⟨fW.zero,by simp⟩
  exact⟨hk _,by simp⟩
 obtain⟨x,y,e⟩:=h2 Bp DG;subst e;unfold dn;rw[if_neg Bp,if_neg DG];split
 ·exact⟨fW.zero,by simp⟩
 rename_i hn;have cM:jw [x,y] 4=true:=by
  cases hh:jw [x,y] 4
  ·exact absurd (.inl (by simp[hh])) hn
  rfl
 have gT:x.kind=4∧y.kind=4:=by simpa[jw]using cM
 have hx:=oR (h x (by simp)) gT.1;have hy:=oR (h y (by simp)) gT.2;have hz:=fun v hv=>xM (u:=u) (m:=m) (op:=i.n) x.list y.list hy.2 v hv;refine⟨.mk (by omega) (by omega) (by omega) (by omega) (fun _ v hv=>(hz v hv).2) ?_ (by simp) (fun v hv=>(hz v hv).1),by simp⟩;show(jq i.n x.list y.list).length<=1000;rw[qZ];omega
structure dS(u:bR)(m:Mach)(r:Mach×SV×Int):Prop where
 frames:r.1.frames=m.frames
 je:∀a∈m.heap,∃b∈r.1.heap,b.kd=a.kd
 val:fW u r.1 r.2.1
 ve:0<=r.2.2∧r.2.2<=6
 gk:∀a∈r.1.heap,a.l.length<=1024∧∀v∈a.l,fW u r.1 v
 left:0<=r.1.left∧r.1.left<=m.left
 out:r.1.out.length<=1000
 words:∀n∈r.1.out,fp n
 fin:r.1.fin=m.fin∧r.1.val=m.val
 over:r.1.over=false->m.over=false∧r.1.short=false
theorem dS.same{u:bR}{m:Mach}(hm:bG u m){v:SV}{t:Int}(hv:fW u m v)(ht:0<=t∧t<=6):dS u m (m,v,t) where
 frames:=rfl
 je:=fun a ha=>⟨a,ha,rfl⟩
 val:=hv
 ve:=ht
 gk:=hm.gk
 left:=⟨hm.left,Int.le_refl _⟩
 out:=hm.out
 words:=hm.words
 fin:=⟨rfl,rfl⟩
 over:=fun h=>⟨h,(hm.over h).2⟩
theorem pc:∀(l:List vp) (id:Option Nat) (x:List SV),(∀a∈l,∃b∈Mach.jf l id x,b.kd=a.kd)∧(∀b∈Mach.jf l id x,∃a∈l,a.kd=b.kd∧a.bW=b.bW∧(b=a∨b.l=x))
 | [],_,_=>⟨by simp,by simp[Mach.jf]⟩
 | a::r,id,x=>by
  obtain⟨h1,h2⟩:=pc r id x;unfold Mach.jf;split
  ·exact⟨fun c hc=>by
    rcases List.mem_cons.1 hc with rfl|hc
    ·exact⟨⟨c.kd,c.bW,x⟩,List.mem_cons_self,rfl⟩
    ·exact⟨c,by simp[hc],rfl⟩,fun b hb=>by
    rcases List.mem_cons.1 hb with rfl|hb
    ·exact⟨a,by simp,rfl,rfl,.inr rfl⟩
    exact⟨b,by simp[hb],rfl,rfl,.inl rfl⟩⟩
  exact⟨fun c hc=>by
   rcases List.mem_cons.1 hc with rfl|hc
   ·exact⟨_,by simp,rfl⟩
   ·obtain⟨b,hb,e⟩:=h1 c hc;exact⟨b,by simp[hb],e⟩,fun b hb=>by
   rcases List.mem_cons.1 hb with rfl|hb
   ·exact⟨b,by simp,rfl,rfl,.inl rfl⟩
   obtain⟨c,hc,e⟩:=h2 b hb;exact⟨c,by simp[hc],e⟩⟩
theorem mh:∀(l:List vp) (id:Nat),(∃a∈l,a.kd=id)->∃a∈l,a.kd=id∧Mach.gR l (some id)=a.l
 | [],_,h=>by simp at h
 | a::r,id,h=>by
  unfold Mach.gR;by_cases e:id=a.kd
  ·exact⟨a,by simp,e.symm,by simp[e]⟩
  obtain⟨b,hb,hv⟩:=h;rcases List.mem_cons.1 hb with rfl|hb
  ·exact absurd hv.symm e
  obtain⟨c,hc,h1,h2⟩:=mh r id ⟨b,hb,hv⟩;exact⟨c,by simp[hc],h1,by simp[e,h2]⟩
theorem y7{u:bR}{m:Mach}(hm:bG u m){v:SV}(hv:fW u m v)(hk:v.kind=3):∃a∈m.heap,v.arr=some a.kd∧Mach.gR m.heap v.arr=a.l:=by
 obtain⟨id,e⟩:=SV.Wf.array hv hk;obtain⟨a,ha,h1,h2⟩:=mh m.heap id (SV.Wf.ref hv id e);exact⟨a,ha,by rw[h1];exact e,by rw[e];exact h2⟩
theorem gg(m:Mach)(n:Int):(m.cR n).frames=m.frames∧(m.cR n).heap=m.heap∧(m.cR n).out=m.out∧(m.cR n).fin=m.fin∧(m.cR n).val=m.val∧(m.cR n).sid=m.sid∧(m.cR n).next=m.next:=by
 unfold Mach.cR;split<;>simp
theorem AE{m:Mach}{n:Int}(h:0<=m.left)(hn:0<=n):0<=(m.cR n).left∧(m.cR n).left<=m.left:=by
 unfold Mach.cR;split<;>simp<;>omega
theorem tP{u:bR}{m:Mach}(hm:bG u m){x y:SV}(hy:fW u m y):dS u m (m.bt x y):=by
 obtain⟨p1,p2,p3,p4,p5,p6,p7⟩:=gg m x.n;unfold Mach.bt;split
 ·exact dS.same hm fW.zero (by omega)
 split
 ·exact dS.same hm fW.zero (by omega)
 rename_i hx hr;have wC:0<=x.n∧x.n<=1024:=by omega
 obtain⟨q1,q2⟩:=AE hm.left wC.1;split
 ·rename_i hs;exact⟨p1,fun a ha=>⟨a,by rw[p2];exact ha,rfl⟩,fW.zero,by simp,fun a ha=>by
   have yT:a∈m.heap:=p2 ▸ ha;exact⟨(hm.gk a yT).1,fun v hv=>((hm.gk a yT).2 v hv).of_heap p2⟩,⟨q1,q2⟩,by rw[p3];exact hm.out,by rw[p3];exact hm.words,⟨p4,p5⟩,fun h=>by
   exfalso;unfold Mach.cR at hs h;split at hs
   ·rename_i aZ;rw[if_pos aZ]at h;cases h
   rename_i aZ;rw[if_neg aZ]at h;have:=(hm.over h).2;simp only at hs;rw[this]at hs;cases hs⟩
 rename_i hs;refine⟨p1,fun a ha=>⟨a,by simp[ha],rfl⟩,?_,by simp,fun a ha=>?_,⟨q1,q2⟩,by simp only[p3];exact hm.out,by simp only[p3];exact hm.words,⟨p4,p5⟩,fun h=>⟨?_,by simpa using hs⟩⟩
 ·exact .mk (by omega) (by omega) (by omega) (fun _=>⟨_,rfl⟩) (by omega) (by simp) (fun id e=>by
   simp only[Option.some.injEq]at e;exact⟨_,List.mem_append_right _ (List.mem_singleton.2 rfl),e⟩) (by simp)
 ·have hk:∀v,fW u m v->fW u ({ m.cR x.n with heap:=m.heap++[⟨m.next+8,m.next+7,List.replicate x.n.toNat y⟩],next:=m.next+9 }:Mach) v:=fun v hv=>hv.mono fun b hb=>⟨b,by simp[hb],rfl⟩
  simp only[List.mem_append,List.mem_singleton]at ha;rcases ha with ha|rfl
  ·exact⟨(hm.gk a ha).1,fun v hv=>hk v ((hm.gk a ha).2 v hv)⟩
  refine⟨by simp;omega,fun v hv=>?_⟩;rw[(List.mem_replicate.1 hv).2];exact hk y hy
 simp only at h;unfold Mach.cR at h;split at h
 ·cases h
 exact h
theorem rR{u:bR}{m:Mach}(hm:bG u m){i:bE}{args:List SV}(h:∀v∈args,fW u m v):dS u m (m.effect i args):=by
 have w0:fp 0:=by unfold fp;omega
 have h0:=gH h 0;have h1:=gH h 1;have h2:=gH h 2;unfold Mach.effect;split
 ·split
  ·exact dS.same hm fW.zero (by omega)
  split
  ·exact dS.same hm fW.zero (by omega)
  rename_i hk hl;refine⟨rfl,fun a ha=>⟨a,ha,rfl⟩,fW.word w0,by simp,fun a ha=>⟨(hm.gk a ha).1,fun v hv=>((hm.gk a ha).2 v hv).of_heap rfl⟩,⟨hm.left,Int.le_refl _⟩,?_,fun n hn=>?_,⟨rfl,rfl⟩,fun h=>⟨h,(hm.over h).2⟩⟩
  ·have:=hm.out;simp;omega
  simp only[List.mem_append,List.mem_singleton]at hn;rcases hn with hn|rfl
  ·exact hm.words n hn
  exact SV.Wf.num h0 (.inl (by omega))
 split
 ·exact tP hm h1
 split
 ·split
  ·exact dS.same hm fW.zero (by omega)
  split
  ·exact dS.same hm fW.zero (by omega)
  exact dS.same hm (fW.word w0) (by omega)
 split
 ·exact dS.same hm fW.zero (by omega)
 rename_i hk;obtain⟨a,ha,e1,e2⟩:=y7 hm h0 (by omega);rw[e2];have km:=(hm.gk a ha).1;split
 ·exact dS.same hm (fW.word (by unfold fp;omega)) (by omega)
 split
 ·exact dS.same hm fW.zero (by omega)
 split
 ·exact dS.same hm (gH (hm.gk a ha).2 _) (by omega)
 obtain⟨s1,s2⟩:=pc m.heap (ca args 0).arr (a.l.set (ca args 1).n.toNat (ca args 2));have wm:∀v,fW u m v->fW u ({ m with heap:=Mach.jf m.heap (ca args 0).arr (a.l.set (ca args 1).n.toNat (ca args 2)) }:Mach) v:=fun v hv=>hv.mono s1;refine⟨rfl,s1,fW.word w0,by simp,fun b hb=>?_,⟨hm.left,Int.le_refl _⟩,hm.out,hm.words,⟨rfl,rfl⟩,fun h=>⟨h,(hm.over h).2⟩⟩;obtain⟨c,hc,_,_,e⟩:=s2 b hb;rcases e with e|e
 ·rw[e];exact⟨(hm.gk c hc).1,fun v hv=>wm v ((hm.gk c hc).2 v hv)⟩
 rw[e];refine⟨by simpa using km,fun v hv=>wm v ?_⟩;rcases List.mem_or_eq_of_mem_set hv with q|q
 ·exact(hm.gk a ha).2 v q
 rw[q];exact h2
theorem nG{u:bR}{m:Mach}(hm:bG u m){i:bE}(hi:y2 u i){args:List SV}(hl:args.length=i.args.length)(h:∀v∈args,fW u m v):dS u m (m.exec i args):=by
 have h0:=gH h 0;unfold Mach.exec;split
 ·exact dS.same hm (fW.word (hi.c0 (by assumption))) (by omega)
 split
 ·split
  ·exact dS.same hm fW.zero (by omega)
  rename_i ho hk;have cM:jw args 0=true:=by simpa using hk
  have uE:=hi.c2 (.inl ho);have IC:ca args 1∈args:=by
   unfold ca;rw[List.getElem?_eq_getElem (by omega)];exact List.getElem_mem _
  simp only[jw,List.all_eq_true,decide_eq_true_eq]at cM;obtain⟨⟨n,q1,q2⟩,q3⟩:=nt i.op (ca args 0).n (ca args 1).n (SV.Wf.num (h _ IC) (.inl (cM _ IC)));have:dk i.op (ca args 0).n (ca args 1).n=(.word n,(dk i.op (ca args 0).n (ca args 1).n).2):=by rw[<-q2]
  rw[this];exact dS.same hm (fW.word q1) q3
 split
 ·rename_i ho;exact dS.same hm (.mk (by omega) (fun _=>(hi.F' ho).1) (by omega) (by omega) (by omega) (by have:=(hi.F' ho).2;omega) (by simp) h) (by omega)
 split
 ·rename_i ho;obtain⟨c1,c2,c3⟩:=hi.Hz ho;exact dS.same hm (.mk (by omega) (by omega) (fun _=>⟨c1,c2⟩) (by omega) (by omega) (by omega) (by simp) h) (by omega)
 split
 ·obtain⟨q1,q2⟩:=qC (i:=i) h;exact dS.same hm q1 q2
 split
 ·rename_i ho;obtain⟨q1,q2⟩:=qW (i:=i) h (fun e=>by have:=hi.pack e;omega) (fun e1 e2=>by
   have:=hi.c2 (by omega)
   match args,hl with
   | [x,y],_=>exact⟨x,y,rfl⟩
   | [],hl=>simp at hl;omega
   | [x],hl=>simp at hl;omega
   | x::y::z::r,hl=>simp at hl;omega)
  exact dS.same hm q1 q2
 split
 ·exact dS.same hm h0 (by omega)
 exact rR hm h
theorem kf.mono{u:bR}{m m':Mach}(h:∀a∈m.heap,∃b∈m'.heap,b.kd=a.kd){f:Fr}(k:kf u m f):kf u m' f :=
 ⟨k.fn,k.blk,k.pos,fun e he=>(k.vals e he).mono h⟩
theorem kf.of_heap{u:bR}{m m':Mach}(h:m'.heap=m.heap){f:Fr}(k:kf u m f):kf u m' f:=k.mono fun a ha=>⟨a,by rw[h];exact ha,rfl⟩
theorem fN{u:bR}{k:Int}(h0:0<=k)(h1:k<u.fns.length):aL u k∈u.fns:=List.mem_of_getElem? (jm h0 h1)
theorem fh{f:Func}{k:Int}(h0:0<=k)(h1:k<f.blocks.length):aD f k∈f.blocks:=List.mem_of_getElem? (dy h0 h1)
theorem F9{u:bR}(hu:ep u){k:Int}(h0:0<=k)(h1:k<u.fns.length):(0:Int)<=0∧(0:Int)<(aL u k).blocks.length:=by
 have:=List.length_pos_iff.2 (hu.ne _ (fN h0 h1)).1;omega
theorem bG.stop{u:bR}{m:Mach}(hm:bG u m){e n:Int}(he:0<=e∧e<=6)(hn:fp n)(hz:e≠0->n=0):bG u (m.stop e n) where
 frames:=fun f hf=>(hm.frames f hf).of_heap (by rfl)
 gk:=fun a ha=>⟨(hm.gk a ha).1,fun v hv=>((hm.gk a ha).2 v hv).of_heap (by rfl)⟩
 left:=hm.left
 depth:=hm.depth
 out:=hm.out
 words:=hm.words
 fin:=he
 val:=hn
 done:=hz
 over:=fun h=>by cases h
theorem bG.bf{u:bR}{m:Mach}(hm:bG u m){f:Fr}(cj:m.frames≠[])(hf:kf u m f):bG u (m.bf f) where
 frames:=fun g hg=>by
  rcases List.mem_cons.1 hg with rfl|hg
  ·exact hf.of_heap (by rfl)
  exact(hm.frames g (List.mem_of_mem_tail hg)).of_heap (by rfl)
 gk:=fun a ha=>⟨(hm.gk a ha).1,fun v hv=>((hm.gk a ha).2 v hv).of_heap (by rfl)⟩
 left:=hm.left
 depth:=by
  have h1:=hm.depth;have h2:=List.length_pos_iff.2 cj;have h3:(m.bf f).frames.length=m.frames.length:=by
   simp only[Mach.bf,List.length_cons,List.length_tail];omega
  rw[h3];exact h1
 out:=hm.out
 words:=hm.words
 fin:=hm.fin
 val:=hm.val
 done:=hm.done
 over:=fun h=>⟨by simp[Mach.bf],(hm.over h).2⟩
theorem bG.enter{u:bR}{m:Mach}(hu:ep u)(hm:bG u m)(hs:m.over=false->m.short=false)(hd:m.frames.length+m.left+1<=2 ^ 40){fn:Int}(jr:0<=fn∧fn<u.fns.length){args:List SV}(ha:∀v∈args,fW u m v)(to:Int) :
  bG u (m.enter u fn args to) where
 frames:=fun g hg=>by
  rcases List.mem_cons.1 hg with rfl|hg
  ·exact⟨jr,F9 hu jr.1 jr.2,Nat.zero_le _,tQ (by simp) (fun v hv=>(ha v hv).of_heap (by rfl))⟩
  exact(hm.frames g hg).of_heap (by rfl)
 gk:=fun a ha=>⟨(hm.gk a ha).1,fun v hv=>((hm.gk a ha).2 v hv).of_heap (by rfl)⟩
 left:=hm.left
 depth:=by
  simp only[Mach.enter,List.length_cons];omega
 out:=hm.out
 words:=hm.words
 fin:=hm.fin
 val:=hm.val
 done:=hm.done
 over:=fun h=>⟨by simp[Mach.enter],hs h⟩
theorem bG.follow{u:bR}{m:Mach}(hm:bG u m)(cj:m.frames≠[]){f:Fr}(hf:kf u m f){e:Edge}(he:sg (aL u f.fn) e):bG u (m.follow u f e) :=
 hm.bf cj ⟨hf.fn,⟨he.lo,he.hi⟩,Nat.zero_le _,tQ hf.vals (kI hf.vals _)⟩
theorem bG.leave{u:bR}{m:Mach}(hm:bG u m)(cj:m.frames≠[]){f:Fr}{v:SV}(hv:fW u m v)(ho:m.over=false):bG u (m.leave f v):=by
 have hz:fp 0:=by unfold fp;omega
 unfold Mach.leave;cases ht:m.frames.tail with
 | nil =>
  simp only;have h0:bG u ({ m with frames:=[],over:=true }:Mach) :=
   ⟨by simp,fun a ha=>⟨(hm.gk a ha).1,fun v hv=>((hm.gk a ha).2 v hv).of_heap (by rfl)⟩,hm.left,by have:=hm.depth;simp;omega,hm.out,hm.words,hm.fin,hm.val,hm.done,fun h=>by cases h⟩
  refine h0.stop (e:=0) (by omega) ?_ (by simp);split
  ·exact SV.Wf.num hv (by assumption)
  exact hz
 | cons g r =>
  simp only;have hg:g∈m.frames:=List.mem_of_mem_tail (by rw[ht];simp);have hr:∀x∈r,x∈m.frames:=fun x hx=>List.mem_of_mem_tail (by rw[ht];simp[hx]);have hl:r.length+1<=m.frames.length:=by
   have h1:m.frames.tail.length=r.length+1:=by rw[ht];rfl
   simp at h1;omega
  have Hn:=hm.frames g hg;exact⟨fun x hx=>by
   rcases List.mem_cons.1 hx with rfl|hx
   ·exact⟨Hn.fn,Hn.blk,Hn.pos,fun e he=>(tc Hn.vals hv e he).of_heap (by rfl)⟩
   exact(hm.frames x (hr x hx)).of_heap (by rfl),fun a ha=>⟨(hm.gk a ha).1,fun v hv=>((hm.gk a ha).2 v hv).of_heap (by rfl)⟩,hm.left,by have:=hm.depth;simp only[List.length_cons];omega,hm.out,hm.words,hm.fin,hm.val,hm.done,fun h=>⟨by simp,(hm.over h).2⟩⟩
theorem mi{f:Func}{t:Term}(ht:sj f t)(h0:t.kind≠0)(h1:t.kind≠1)(h4:t.kind≠4)(n:Int):∃e,t.to[dP t n]?=some e:=by
 have hk:=ht.kind;have aZ:dP t n<t.to.length:=by
  unfold dP;by_cases h2:t.kind=2
  ·rw[if_pos h2,ht.cond h2];split<;>omega
  rw[if_neg h2,ht.switch (by omega)];have:=List.findIdx_le_length (xs:=t.cases) (p:=(· == n));omega
 exact⟨_,List.getElem?_eq_getElem aZ⟩
theorem bG.finish{u:bR}{m:Mach}(hm:bG u m)(ho:m.over=false){f:Fr}(hf:kf u m f){t:Term}(ht:sj (aL u f.fn) t):bG u (m.finish u f t):=by
 have hz:fp 0:=by unfold fp;omega
 have cj:=(hm.over ho).1;unfold Mach.finish;split
 ·exact hm.stop ht.n hz (fun _=>rfl)
 rename_i h4;split
 ·rename_i h1;have hl:=ht.rE h1;have he:t.to[0]?=some (t.to[0]'(by omega)):=List.getElem?_eq_getElem _;rw[he];exact hm.follow cj hf (ht.db _ (List.getElem_mem _))
 rename_i h1;split
 ·exact hm.leave cj (sI hf.vals _) ho
 rename_i h0;split
 ·exact hm.stop (by omega) hz (fun _=>rfl)
 obtain⟨e,he⟩:=mi ht h0 h1 h4 (cZ f.vals t.arg).n;rw[he];exact hm.follow cj hf (ht.db _ (List.mem_of_getElem? he))
theorem bG.settle{u:bR}{m:Mach}(hm:bG u m)(cj:m.frames≠[]){f:Fr}(hf:kf u m f){r:Mach×SV×Int}(hr:dS u m r)(to:Int):bG u (Mach.settle f to r):=by
 have hz:fp 0:=by unfold fp;omega
 have h1:bG u r.1:=⟨fun g hg=>(hm.frames g (hr.frames ▸ hg)).mono hr.je,hr.gk,hr.left.1,by
  have:=hm.depth;have:=hr.left.2;rw[hr.frames];omega,hr.out,hr.words,by rw[hr.fin.1];exact hm.fin,by rw[hr.fin.2];exact hm.val,by rw[hr.fin.1,hr.fin.2];exact hm.done,fun h=>⟨by rw[hr.frames];exact cj,(hr.over h).2⟩⟩
 have dh:kf u r.1 f:=hf.mono hr.je;have wx:r.1.frames≠[]:=by rw[hr.frames];exact cj
 unfold Mach.settle;split
 ·refine(h1.stop hr.ve hz (fun _=>rfl)).bf wx ?_;have Cg:kf u (r.1.stop r.2.2 0) f:=dh.of_heap (by rfl);exact⟨Cg.fn,Cg.blk,Cg.pos,tc Cg.vals (hr.val.of_heap (by rfl))⟩
 exact h1.bf wx ⟨dh.fn,dh.blk,dh.pos,tc dh.vals hr.val⟩
theorem bG.step{u:bR}{m:Mach}(hu:ep u)(hm:bG u m)(ho:m.over=false)(hd:m.frames.length+m.left+1<=2 ^ 40):bG u (m.step u):=by
 have hz:fp 0:=by unfold fp;omega
 obtain⟨cj,iy⟩:=hm.over ho;unfold Mach.step;cases dh:m.frames with
 | nil=>exact absurd dh cj
 | cons f r =>
  have hf:=hm.frames f (by rw[dh];simp);have hF:=fN hf.fn.1 hf.fn.2;have hB:=fh hf.blk.1 hf.blk.2;have hb:=hu.blocks _ hF _ hB;simp only;cases hi:(aD (aL u f.fn) f.blk).ins[f.pos]? with
  | none=>exact hm.finish ho hf hb.term
  | some i =>
   simp only;have rz:=hb.ins i (List.mem_of_getElem? hi);have aZ:=I hi;have kr:kf u m { f with pos:=f.pos+1 }:=⟨hf.fn,hf.blk,aZ,hf.vals⟩
   have h1:=hm.bf cj kr;have wi:kf u (m.bf { f with pos:=f.pos+1 }) { f with pos:=f.pos+1 }:=kr.of_heap (by rfl);have DN:(m.bf { f with pos:=f.pos+1 }).frames.length=m.frames.length:=by
    simp[Mach.bf,dh]
   have ha:=kI wi.vals i.args;have km:=kH f.vals i.args;unfold Mach.act;split
   ·rename_i nj;obtain⟨c1,c2,c3⟩:=rz.call nj;exact h1.enter hu (fun _=>iy) (by rw[DN];exact hd) ⟨c1,c2⟩ ha _
   split
   ·split
    ·rename_i hk;exact h1.enter hu (fun _=>iy) (by rw[DN];exact hd) (SV.Wf.fn (gH ha 0) hk.1) ha _
    exact h1.stop (by omega) hz (fun _=>rfl)
   exact h1.settle (by simp[Mach.bf]) wi (nG h1 rz km ha) _
theorem oP(u:bR)(m:Mach)(hm:bG u m)(hu:ep u)(ho:m.over=false):(m.step u).left<=m.left:=by
 obtain⟨cj,iy⟩:=hm.over ho;have EO:∀(m:Mach) f v,(m.leave f v).left=m.left:=fun m f v=>by
  unfold Mach.leave;split<;>rfl
 unfold Mach.step;cases dh:m.frames with
 | nil=>exact absurd dh cj
 | cons f r =>
  have hf:=hm.frames f (by rw[dh];simp);have hb:=hu.blocks _ (fN hf.fn.1 hf.fn.2) _ (fh hf.blk.1 hf.blk.2);simp only;cases hi:(aD (aL u f.fn) f.blk).ins[f.pos]? with
  | none =>
   simp only;unfold Mach.finish
   repeat' split
   all_goals first
    | exact Int.le_refl _
    | exact Int.le_of_eq (EO _ _ _)
  | some i =>
   simp only;have rz:=hb.ins i (List.mem_of_getElem? hi);have aZ:=I hi;have kr:kf u m { f with pos:=f.pos+1 }:=⟨hf.fn,hf.blk,aZ,hf.vals⟩
   have h1:=hm.bf cj kr;unfold Mach.act;split
   ·exact Int.le_refl _
   split
   ·split<;>exact Int.le_refl _
   have hx:=nG h1 rz (kH f.vals i.args) (kI (fun e he=>(hf.vals e he).of_heap (by rfl)) i.args);have hl:=hx.left.2;unfold Mach.settle;split<;>exact hl
def kF(cs:List ae)(n:Nat)(id:Nat):List ae:=cs.take n++[.mp id 0]
theorem ky(a b c:Nat):(ae.os a b c).cells=[.os a b c]:=rfl
theorem oV(a b:Nat):ao [.mp a b]=[.mp a b]:=rfl
theorem vX{u:bR}{m:Mach}{O:List ak}(bC:∀o∈O,o.upto O.length)(h0:O[2]?=some (.cells (aC u m))){cs:List ae}(dD:O[m.sid]?=some (.cells cs))(eZ:m.frames.length<=cs.length)(cj:m.sid≠2)(hN:O.length=m.next)
  (hd:m.frames.length<=2 ^ 41) (fn:Int) (jr:0<=fn∧fn<u.fns.length) (hb:(aL u fn).blocks≠[]) (args:List SV) (hl:∀v∈args,SV.bh O.length v) (hp:(aD (aL u fn) 0).params.length=args.length) (to:Int) :
  bc Try.prog 59 O [.mp 2 0,aI fn,.aE 4 (args.map SV.enc) .sh,aI to] (fun r O'=>r=.df []∧O'=((O.set m.sid .gone).set 2 (.cells (aC u (m.enter u fn args to)))) ++
   [.map (.int .i64) ((cH [] (aD (aL u fn) 0).params args).map gi),.cells [aI fn,aI 0,aI 0,aI to,.mm O.length],.cells (kF cs m.frames.length (O.length+1))]):=by
 have hF:=jm jr.1 jr.2;have hB:=dy (f:=aL u fn) (k:=0) (by omega) (by
  have:=List.length_pos_iff.2 hb;omega)
 generalize FK:aD (aL u fn) 0=B at *;generalize Jk:aL u fn=F at *;have hB:F.blocks[0]?=some B:=hB;have xv:∀X,(O++X)[2]?=some (.cells (aC u m)):=fun X=>bJ h0;unfold aC at xv;have eK:=I h0;have H':∀X,(O++X)[m.sid]?=some (.cells cs):=fun X=>bJ dD;have EI:(O.set m.sid .gone)[2]?=some (.cells (aC u m)):=bx h0 cj;have e1:∀X,(O++X).set m.sid .gone=O.set m.sid .gone++X:=fun X=>jN dD;have e2:∀X,(O.set m.sid .gone++X)[2]?=some (.cells (aC u m)):=fun X=>bJ EI;have e3:∀X y,(O.set m.sid .gone++X).set 2 y=(O.set m.sid .gone).set 2 y++X:=fun X y=>jN EI;unfold aC at e2;have DN:m.frames.length*1<=cs.length:=by omega
 have dL:((m.frames.length:Nat):Int)+1=((m.frames.length+1:Nat):Int):=by omega
 have FP:[a9 u.fns,aI u.main,.os (O.length+2) (m.frames.length+1) 1,aI m.left,.v (.bool m.short),.v (.bool m.over),.aE 1 (m.out.map aI) (.tok 3),aI m.fin,aI m.val]=aC u (m.enter u fn args to):=by
  simp[aC,Mach.enter,hN]
 have fY:=bq (n:=O.length+3) (ds:=aC u (m.enter u fn args to)) (bF (k:=m.sid) (x:=.gone) (fun o ho=>ak.cu (by omega) (bC o ho)) trivial) EI (fun h=>by
  simp only[aC,aw,ae.upto,az,Func.ai,true_and,and_true,Mach.enter]at h ⊢;omega)
 obtain⟨O2,rY⟩:∃O2,O2=(O.set m.sid .gone).set 2 (.cells (aC u (m.enter u fn args to))):=⟨_,rfl⟩
 have hlen:O.length=O2.length:=by rw[rY];simp
 simp only[<-rY]at fY ⊢;rw[hlen]at fY;refine zf true (O.length+3) Try.func59 Try.ntmps59 ?_;dsimp only[Tmp,TypeId,ax];refine aA (ah ?_);refine dd ?_;simp -dsimp only[simprocAttr,↓aa,zp,xv,hF,hB]
 repeat(refine⟨by omega,?_⟩)
 refine ah ?_;refine ff 2 rfl (fun km=>?_);simp only[List.length_map]at km;refine aj (aU (ι:={j:Nat // j<=B.params.length}) (fun j=>⟨54,[(0,.mp 2 0),(2,.aE 4 (args.map SV.enc) .sh),(8,.mp (O.length+1) 0),(27,a6 B.params),(28,aI B.params.length),(29,aI j.1)],O++[.map (.int .i64) ((cH [] (B.params.take j.1) (args.take j.1)).map gi),.cells [aI fn,aI 0,aI 0,aI to,.mm O.length]]⟩) (fun j=>B.params.length-j.1) ⟨0,by omega⟩ ?_ ?_)
 ·refine zq rfl ?_ ?_;simp -dsimp only[simprocAttr,↓aa,zp,zc];rw[pP];rfl
 rintro⟨j,hj⟩;refine aA (ah ?_);apply gW rfl<;>intro h
 ·refine cA ?_;have aZ:j<B.params.length:=by simpa using h
  obtain⟨p,hp⟩:∃p,B.params[j]?=some p:=⟨B.params[j],by simp[aZ]⟩
  obtain⟨a,ha⟩:∃a,args[j]?=some a:=⟨args[j]'(by omega),List.getElem?_eq_getElem _⟩
  refine aK (aj ?_);refine aX ?_;simp -dsimp only[simprocAttr,↓aa,zp,hp];refine ah ?_;refine j1 ?_;simp -dsimp only[simprocAttr,↓aa,zp,ha,nY,<-mU hp ha]
  repeat(refine⟨by omega,?_⟩)
  refine⟨ob (by kernel_rfl),?_⟩;refine ah ?_;refine dc ?_
  repeat(refine⟨by omega,?_⟩)
  refine fV ?_;refine⟨⟨j+1,aZ⟩,by simp;omega,?_⟩;refine zq rfl ?_ ?_;simp -dsimp only[simprocAttr,↓aa,zp,zc]
  ·exact Sub.int (by simp)
  rfl
 refine aR ?_;simp -dsimp only[bX,ne_eq,Nat.reduceEqDiff,reduceCtorEq];have oH:j=B.params.length:=by simp at h;omega
 subst oH;have v8:args.take B.params.length=args:=List.take_of_length_le (by omega);refine FW ?_;simp -dsimp only[simprocAttr,↓aa,zp,xv,v8,List.take_length,H',e1,e2,e3,DN,List.length_set,ky,FP,<-rY];refine⟨by omega,by omega,trivial,?_⟩;refine bd ?_;simp -dsimp only[simprocAttr,↓aa,zp,zr,Try.results59,mE,hlen,oV];refine⟨fun o ho=>?_,trivial,by simp[kF]⟩;rcases List.mem_append.1 ho with ho|ho
 ·exact fY o ho
 have ry:=bC _ (List.mem_of_getElem? dD);simp only[ak.upto,aY]at ry;simp only[List.mem_cons,List.mem_nil_iff,or_false]at ho;rcases ho with rfl|rfl|rfl
 ·refine uh fun x hx=>?_;rcases jt hx with q|q
  ·simp at q
  exact(hl _ q).mono (by omega)
 ·simp[ak.upto,aw,ae.upto]
 simp only[ak.upto,aY];intro x hx;rcases List.mem_append.1 hx with q|q
 ·exact ae.cu (by omega) _ (ry x (List.mem_of_mem_take q))
 simp only[List.mem_singleton]at q;subst q;simp[ae.upto]
def sZ(u:bR)(fuel:Int):List ae:=[a9 u.fns,aI u.main,.aE 1 [] .ex,aI fuel,.v (.bool false),.v (.bool false),.aE 1 [] (.tok 3),aI 0,aI 0]
theorem ui{u:bR}{fuel:Int}(r8:0<=u.main∧u.main<u.fns.length)(hb:(aL u u.main).blocks≠[])(hp:(aD (aL u u.main) 0).params=[])(sz:Nat)(ow:kP) :
  bc Try.prog 59 [.gone,.cells [.aE 1 [] .ex,aI 0,aI 0],.cells (sZ u fuel),.spare 0] [.mp 2 0,aI u.main,.aE sz [] ow,aI 0] (fun r O'=>r=.df []∧O'=[.gone,.cells [.aE 1 [] .ex,aI 0,aI 0],.cells (aC u ((Mach.start fuel).enter u u.main [] 0)),.spare 0,.map (.int .i64) [],.cells [aI u.main,aI 0,aI 0,aI 0,.mm 4],.cells [.mp 5 0]]):=by
 have hF:=jm r8.1 r8.2;have hB:=dy (f:=aL u u.main) (k:=0) (by omega) (by
  have:=List.length_pos_iff.2 hb;omega)
 have FP:aC u ((Mach.start fuel).enter u u.main [] 0)=[a9 u.fns,aI u.main,.os 6 1 1,aI fuel,.v (.bool false),.v (.bool false),.aE 1 [] (.tok 3),aI 0,aI 0]:=by
  simp[aC,Mach.enter,Mach.start]
 rw[FP];unfold sZ;generalize FK:aD (aL u u.main) 0=B at *;generalize Jk:aL u u.main=F at *;have hB:F.blocks[0]?=some B:=hB;have qx:B.params.length=0:=by rw[hp];rfl
 refine zf true 7 Try.func59 Try.ntmps59 ?_;dsimp only[Tmp,TypeId,ax];refine aA (ah ?_);refine dd ?_;simp -dsimp only[simprocAttr,↓aa,zp,hF,hB]
 repeat(refine⟨by omega,?_⟩)
 refine ah ?_;refine aj (aU (ι:=Unit) (fun _=>⟨54,[(0,.mp 2 0),(8,.mp 5 0),(27,a6 B.params),(28,aI 0),(29,aI 0)],[.gone,.cells [.aE 1 [] .ex,aI 0,aI 0],.cells [a9 u.fns,aI u.main,.aE 1 [] .ex,aI fuel,.v (.bool false),.v (.bool false),.aE 1 [] (.tok 3),aI 0,aI 0],.spare 0,.map (.int .i64) [],.cells [aI u.main,aI 0,aI 0,aI 0,.mm 4]]⟩) (fun _=>0) () ?_ ?_)
 ·refine zq rfl ?_ ?_;simp -dsimp only[simprocAttr,↓aa,zp,zc]
  ·exact Sub.int (by simp[qx])
  rfl
 rintro⟨⟩;refine aA (ah ?_);apply gW rfl<;>intro h
 ·simp at h
 refine aR ?_;simp -dsimp only[bX,ne_eq,Nat.reduceEqDiff,reduceCtorEq];refine FW ?_;simp -dsimp only[simprocAttr,↓aa,zp,ky,oV];refine⟨trivial,?_⟩;refine bd ?_;simp -dsimp only[simprocAttr,↓aa,zp,zr,Try.results59];refine⟨?_,trivial⟩;simp[ak.upto,aw,kc,ae.upto,Func.ai]
theorem wJ{u:bR}{m:Mach}{O:List ak}(bC:∀o∈O,o.upto O.length)(h0:O[2]?=some (.cells (aC u m)))(f:Fr)(dh:m.frames=[f])(gK:f.bP<O.length)(v:SV)(hv:SV.bh O.length v) :
  bc Try.prog 93 O [.mp 2 0,.mp f.bP 0,v.enc] (fun r O'=>r=.df []∧O'=O.set 2 (.cells (aC u (m.leave f v)))):=by
 have m8:=hv.aN;rw[SV.fI]at m8;have eK:=I h0;have FQ:[a9 u.fns,aI u.main,.os m.sid 0 1,aI m.left,.v (.bool m.short),.v (.bool m.over),.aE 1 (m.out.map aI) (.tok 3),aI m.fin,aI m.val]=aC u { m with frames:=[] }:=rfl;have Aj:=dA h0;have kB:O[2]?=some (.cells [a9 u.fns,aI u.main,.os m.sid 1 1,aI m.left,.v (.bool m.short),.v (.bool m.over),.aE 1 (m.out.map aI) (.tok 3),aI m.fin,aI m.val]):=by
  rw[h0];unfold aC;rw[dh];rfl
 obtain⟨O1,dW⟩:∃O1,O1=O.set 2 (.cells (aC u { m with frames:=[] })):=⟨_,rfl⟩
 have hlen:O.length=O1.length:=by rw[dW];simp
 have ya:O1[2]?=some (.cells (aC u { m with frames:=[] })):=by rw[dW];exact Aj _
 have eL:∀o∈O1,o.upto O1.length:=by
  rw[<-hlen,dW];exact bq bC h0 (fun h=>b9 h rfl)
 have iV:=fun e n=>ju eL ya e n;have EG:∀n:Int,O1.set 2 (.cells (aC u (({ m with frames:=[] }:Mach).stop 0 n)))=O.set 2 (.cells (aC u (({ m with frames:=[] }:Mach).stop 0 n))):=fun n=>by
  rw[dW,List.set_set]
 have fY:∀n:Int,∀o∈O.set 2 (.cells (aC u (({ m with frames:=[] }:Mach).stop 0 n))),o.upto O.length:=fun n=>bq bC h0 (fun h=>b9 h rfl);have lL:O1[2]?=some (.cells [a9 u.fns,aI u.main,.os m.sid 0 1,aI m.left,.v (.bool m.short),.v (.bool m.over),.aE 1 (m.out.map aI) (.tok 3),aI m.fin,aI m.val]):=ya;have eg:m.leave f v=({ m with frames:=[] }:Mach).stop 0 (if v.kind=0∨v.kind=1 then v.n else 0):=by
  unfold Mach.leave;rw[dh];rfl
 rw[eg];have iz:∀x,(O.set 2 x).take O1.length=O.set 2 x:=fun x=>by rw[<-hlen];exact cG
 by_cases hk:v.kind=0∨v.kind=1
 ·rw[if_pos hk];rcases(show v.kind=0∨(v.kind≠0∧v.kind=1) by omega)with e|⟨e,e1⟩
  ·have hd:decide (v.kind=0)=true:=decide_eq_true e;refine zf true O.length Try.func93 Try.ntmps93 ?_;dsimp only[Tmp,TypeId,ax];refine aA (ah ?_);refine aO 5 ([aI v.kind,aI v.n,.aE 4 (v.list.map SV.enc) .sh,eP v.arr]) [(0,.mp 2 0),(1,.mp f.bP 0),(5,.ip none [aI v.kind,aI v.n,.aE 4 (v.list.map SV.enc) .sh,eP v.arr])] rfl (by simp only[List.map_cons,List.map_nil,cT,cg,dJ,dK,dI,dG,dH,cx]) (by omega) (by simp[bu,a7,Go.Av.look]) ?_ ?_ ?_
   ·exact bC
   ·simp only[ae.upto]at m8;simp[ae.upto,gK,eK,m8]
   refine aX ?_;simp -dsimp only[simprocAttr,↓aa,zp,kB,ky,FQ,<-dW];refine⟨trivial,?_⟩;refine⟨ob (by kernel_rfl),?_⟩;refine ah ?_;refine dd ?_;simp -dsimp only[simprocAttr,↓aa,zp,lL];refine ah ?_;refine cE rfl ?_;refine cA ?_;refine aA (ah ?_);refine dd ?_;simp -dsimp only[simprocAttr,↓aa,zp,hd];refine ah ?_;refine cS rfl ?_;refine dc (ah ?_);refine dc ?_;refine .inr (.inl ⟨_,_,iV 0 v.n,.inl (au ?_)⟩);simp -dsimp only[simprocAttr,↓aa,zp,hlen,EG];refine bd ?_;simp -dsimp only[simprocAttr,↓aa,zp,zr,Try.results93,hlen,List.take_length,List.length_set,iz];exact⟨by rw[<-hlen];exact fY v.n,trivial⟩
  have hd:decide (v.kind=0)=false:=decide_eq_false e;have nN:decide (v.kind=1)=true:=decide_eq_true e1;refine zf true O.length Try.func93 Try.ntmps93 ?_;dsimp only[Tmp,TypeId,ax];refine aA (ah ?_);refine aO 5 ([aI v.kind,aI v.n,.aE 4 (v.list.map SV.enc) .sh,eP v.arr]) [(0,.mp 2 0),(1,.mp f.bP 0),(5,.ip none [aI v.kind,aI v.n,.aE 4 (v.list.map SV.enc) .sh,eP v.arr])] rfl (by simp only[List.map_cons,List.map_nil,cT,cg,dJ,dK,dI,dG,dH,cx]) (by omega) (by simp[bu,a7,Go.Av.look]) ?_ ?_ ?_
  ·exact bC
  ·simp only[ae.upto]at m8;simp[ae.upto,gK,eK,m8]
  refine aX ?_;simp -dsimp only[simprocAttr,↓aa,zp,kB,ky,FQ,<-dW];refine⟨trivial,?_⟩;refine⟨ob (by kernel_rfl),?_⟩;refine ah ?_;refine dd ?_;simp -dsimp only[simprocAttr,↓aa,zp,lL];refine ah ?_;refine cE rfl ?_;refine cA ?_;refine aA (ah ?_);refine dd ?_;simp -dsimp only[simprocAttr,↓aa,zp,hd,nN];refine ah ?_;refine cS rfl ?_;refine dc (ah ?_);refine dc ?_;refine .inr (.inl ⟨_,_,iV 0 v.n,.inl (au ?_)⟩);simp -dsimp only[simprocAttr,↓aa,zp,hlen,EG];refine bd ?_;simp -dsimp only[simprocAttr,↓aa,zp,zr,Try.results93,hlen,List.take_length,List.length_set,iz];exact⟨by rw[<-hlen];exact fY v.n,trivial⟩
 rw[if_neg hk];have hd:decide (v.kind=0)=false:=decide_eq_false (by omega);have nN:decide (v.kind=1)=false:=decide_eq_false (by omega);refine zf true O.length Try.func93 Try.ntmps93 ?_;dsimp only[Tmp,TypeId,ax];refine aA (ah ?_);refine aO 5 ([aI v.kind,aI v.n,.aE 4 (v.list.map SV.enc) .sh,eP v.arr]) [(0,.mp 2 0),(1,.mp f.bP 0),(5,.ip none [aI v.kind,aI v.n,.aE 4 (v.list.map SV.enc) .sh,eP v.arr])] rfl (by simp only[List.map_cons,List.map_nil,cT,cg,dJ,dK,dI,dG,dH,cx]) (by omega) (by simp[bu,a7,Go.Av.look]) ?_ ?_ ?_
 ·exact bC
 ·simp only[ae.upto]at m8;simp[ae.upto,gK,eK,m8]
 refine aX ?_;simp -dsimp only[simprocAttr,↓aa,zp,kB,ky,FQ,<-dW];refine⟨trivial,?_⟩;refine⟨ob (by kernel_rfl),?_⟩;refine ah ?_;refine dd ?_;simp -dsimp only[simprocAttr,↓aa,zp,lL];refine ah ?_;refine cE rfl ?_;refine cA ?_;refine aA (ah ?_);refine dd ?_;simp -dsimp only[simprocAttr,↓aa,zp,hd,nN];refine ah ?_;refine cE rfl ?_;refine cA ?_;refine dc ?_;refine .inr (.inl ⟨_,_,iV 0 0,.inl (au ?_)⟩);simp -dsimp only[simprocAttr,↓aa,zp,hlen,EG];refine bd ?_;simp -dsimp only[simprocAttr,↓aa,zp,zr,Try.results93,hlen,List.take_length,List.length_set,iz];exact⟨by rw[<-hlen];exact fY 0,trivial⟩
theorem wK{u:bR}{m:Mach}{O:List ak}(bC:∀o∈O,o.upto O.length)(h0:O[2]?=some (.cells (aC u m)))(f g:Fr)(r:List Fr)(dh:m.frames=f::g::r)(hf:O[f.bP]?=some (.cells (aV f)))
  (hg:O[g.bP]?=some (.cells (aV g))) (Jy:O[g.di]?=some (.map (.int .i64) (g.vals.map gi))) (Ho:∀e∈g.vals,SV.bh O.length e.2) {cs:List ae} (dD:O[m.sid]?=some (.cells cs)) (eZ:cs[r.length]?=some (.mp g.bP 0))
  (Aj:m.sid≠2) (uH:r.length<=2 ^ 40) (GH:f.bP≠2) (EI:g.bP≠2) (kB:g.di≠2) (v:SV) (hv:SV.bh O.length v) :
  bc Try.prog 93 O [.mp 2 0,.mp f.bP 0,v.enc] (fun r O'=>r=.df []∧O'=(O.set 2 (.cells (aC u (m.leave f v)))).set g.di (.map (.int .i64) ((cK g.vals f.to v).map gi))):=by
 have m8:=hv.aN;rw[SV.fI]at m8;have eK:=I h0;have gK:=I hf;have eg:aC u (m.leave f v)=[a9 u.fns,aI u.main,.os m.sid (r.length+1) 1,aI m.left,.v (.bool m.short),.v (.bool m.over),.aE 1 (m.out.map aI) (.tok 3),aI m.fin,aI m.val]:=by
  simp[Mach.leave,dh,aC]
 have hm:O[2]?=some (.cells [a9 u.fns,aI u.main,.os m.sid (r.length+1+1) 1,aI m.left,.v (.bool m.short),.v (.bool m.over),.aE 1 (m.out.map aI) (.tok 3),aI m.fin,aI m.val]):=by
  rw[h0];unfold aC;rw[dh];rfl
 obtain⟨O1,dW⟩:∃O1,O1=O.set 2 (.cells (aC u (m.leave f v))):=⟨_,rfl⟩
 have hlen:O.length=O1.length:=by rw[dW];simp
 have hs:=dA h0;have ya:O1[2]?=some (.cells (aC u (m.leave f v))):=by rw[dW];exact hs _
 have EY:O1[m.sid]?=some (.cells cs):=by rw[dW];exact bx dD Aj.symm
 have kr:O1[f.bP]?=some (.cells (aV f)):=by rw[dW];exact bx hf GH.symm
 have gP:O1[g.bP]?=some (.cells (aV g)):=by rw[dW];exact bx hg EI.symm
 have HS:O1[g.di]?=some (.map (.int .i64) (g.vals.map gi)):=by rw[dW];exact bx Jy kB.symm
 have eL:∀o∈O1,o.upto O1.length:=by
  rw[<-hlen,dW];refine bq bC h0 (fun h=>b9 h ?_);simp[Mach.leave,dh]
 rw[<-dW];have fY:∀o∈O1.set g.di (.map (.int .i64) ((cK g.vals f.to v).map gi)),o.upto O1.length:=by
  refine bF eL (uh fun x hx=>?_);rw[<-hlen];rcases iD hx with q|q
  ·exact Ho x q
  rw[q];exact hv
 have iz:∀x,(O1.set g.di x).take O1.length=O1.set g.di x:=fun x=>cG;have mZ:[a9 u.fns,aI u.main,.os m.sid (r.length+1) 1,aI m.left,.v (.bool m.short),.v (.bool m.over),.aE 1 (m.out.map aI) (.tok 3),aI m.fin,aI m.val]=aC u (m.leave f v):=eg.symm;rw[eg]at ya;unfold aV at kr gP;have oZ:((r.length+1+1:Nat):Int)-1=((r.length+1:Nat):Int):=by omega
 have Cr:((r.length+1:Nat):Int)-1=(r.length:Nat):=by omega
 have EV:decide ((0:Int)<((r.length+1:Nat):Int))=true:=decide_eq_true (by omega);refine zf true O.length Try.func93 Try.ntmps93 ?_;dsimp only[Tmp,TypeId,ax];refine aA (ah ?_);refine aO 5 ([aI v.kind,aI v.n,.aE 4 (v.list.map SV.enc) .sh,eP v.arr]) [(0,.mp 2 0),(1,.mp f.bP 0),(5,.ip none [aI v.kind,aI v.n,.aE 4 (v.list.map SV.enc) .sh,eP v.arr])] rfl (by simp only[List.map_cons,List.map_nil,cT,cg,dJ,dK,dI,dG,dH,cx]) (by omega) (by simp[bu,a7,Go.Av.look]) ?_ ?_ ?_
 ·exact bC
 ·simp only[ae.upto]at m8;simp[ae.upto,gK,eK,m8]
 refine aX ?_;simp -dsimp only[simprocAttr,↓aa,zp,hm,ky,oZ,Int.toNat_natCast,mZ,<-dW]
 repeat(refine⟨by omega,?_⟩)
 refine⟨trivial,?_⟩;refine⟨ob (by kernel_rfl),?_⟩;refine ah ?_;refine dd ?_;simp -dsimp only[simprocAttr,↓aa,zp,ya,EV];refine ah ?_;refine cS rfl ?_;refine aX ?_;simp -dsimp only[simprocAttr,↓aa,zp,ya,EY,Cr,Nat.mul_one,eZ,kr,gP,HS,nY]
 repeat(refine⟨by omega,?_⟩)
 refine⟨ob (by kernel_rfl),?_⟩;refine ah ?_;refine aq ?_;simp -dsimp only[simprocAttr,↓aa,zp,zr,Try.results93,hlen,iz,List.length_set];exact⟨fY,trivial⟩
end Go.Proofs.Ytkhnjeblbiocaaa
