/-
  Texts bound together by a program of mine: YtjdnhamngpafmaaGreatT18, YtjdnhamngpafmaaGreatT19, YtjdnhamngpafmaaGreatT20, YtjdnhamngpafmaaGreatT21, YtjdnhamngpafmaaGreatT22, YtjdnhamngpafmaaGreatPu, YtjdnhamngpafmaaGreatPv, YtjdnhamngpafmaaGreatPw, YtjdnhamngpafmaaGreatPx, YtjdnhamngpafmaaGreatT23, YtjdnhamngpafmaaGreatT37, YtjdnhamngpafmaaGreatPf, YtjdnhamngpafmaaGreatT48, YtjdnhamngpafmaaGreatPg, YtjdnhamngpafmaaGreatT49, YtjdnhamngpafmaaGreatT50, YtjdnhamngpafmaaGreatPi, YtjdnhamngpafmaaGreatPzw, YtjdnhamngpafmaaGreatT180, YtjdnhamngpafmaaGreatPum, YtjdnhamngpafmaaGreatPh, YtjdnhamngpafmaaGreatT51, YtjdnhamngpafmaaGreatPc, YtjdnhamngpafmaaGreatPj, YtjdnhamngpafmaaGreatT52, YtjdnhamngpafmaaGreatT181, YtjdnhamngpafmaaGreatT41, YtjdnhamngpafmaaGreatT43, YtjdnhamngpafmaaGreatPk, YtjdnhamngpafmaaGreatPun, YtjdnhamngpafmaaGreatPuo.
-/
import Derived.Test.YtjdnhamngpafmaaGreatE3
set_option linter.all false
set_option maxRecDepth 100000
set_option maxHeartbeats 4000000

namespace Go.Proofs.YtjdnhamngpafmaaGreat
open Go.Av
def l7(cs:List ae)(n:Nat)(id:Nat):List ae:=cs.take n++[.mp id 0]
theorem lR(a b c:Nat):(ae.os a b c).cells=[.os a b c]:=rfl
theorem sq(a b:Nat):an [.mp a b]=[.mp a b]:=rfl
theorem CO{u:cd}{m:Mach}{O:List ak}(bB:∀o∈O,o.upto O.length)(h0:O[2]?=some (.cells (aB u m))){cs:List ae}(fo:O[m.sid]?=some (.cells cs))(fA:m.frames.length<=cs.length)(cq:m.sid≠2)(hN:O.length=m.next)
  (hd:m.frames.length<=2 ^ 41) (fn:Int) (qM:0<=fn∧fn<u.fns.length) (hb:(cx u fn).blocks≠[]) (args:List SV) (hl:∀v∈args,SV.bj O.length v) (hp:(aF (cx u fn) 0).params.length=args.length) (to:Int) :
  bd Tryz.prog 81 O [.mp 2 0,aI fn,.aA 4 (args.map SV.enc) .sh,aI to] (fun r O'=>r=.cw []∧O'=((O.set m.sid .gone).set 2 (.cells (aB u (m.enter u fn args to)))) ++
   [.map (.int .i64) ((gl [] (aF (cx u fn) 0).params args).map gz),.cells [aI fn,aI 0,aI 0,aI to,.mm O.length],.cells (l7 cs m.frames.length (O.length+1))]):=by
 have hF:=kh qM.1 qM.2;have hB:=dP (f:=cx u fn) (k:=0) (by omega) (by
  have:=List.length_pos_iff.2 hb;omega)
 generalize RS:aF (cx u fn) 0=B at *;generalize Yb:cx u fn=F at *;have hB:F.blocks[0]?=some B:=hB;have Ep:∀X,(O++X)[2]?=some (.cells (aB u m)):=fun X=>cm h0;unfold aB at Ep;have eK:=I h0;have VY:∀X,(O++X)[m.sid]?=some (.cells cs):=fun X=>cm fo;have L7:(O.set m.sid .gone)[2]?=some (.cells (aB u m)):=br h0 cq;have e1:∀X,(O++X).set m.sid .gone=O.set m.sid .gone++X:=fun X=>kS fo;have e2:∀X,(O.set m.sid .gone++X)[2]?=some (.cells (aB u m)):=fun X=>cm L7;have e3:∀X y,(O.set m.sid .gone++X).set 2 y=(O.set m.sid .gone).set 2 y++X:=fun X y=>kS L7;unfold aB at e2;have AI:m.frames.length*1<=cs.length:=by omega
 have dY:((m.frames.length:Nat):Int)+1=((m.frames.length+1:Nat):Int):=by omega
 have Oy:[bc u.fns,aI u.main,.os (O.length+2) (m.frames.length+1) 1,aI m.left,.v (.bool m.short),.v (.bool m.over),.aA 1 (m.out.map aI) (.tok 3),aI m.fin,aI m.val]=aB u (m.enter u fn args to):=by
  simp[aB,Mach.enter,hN]
 have fb:=bq (n:=O.length+3) (ds:=aB u (m.enter u fn args to)) (bt (k:=m.sid) (x:=.gone) (fun o ho=>ak.b8 (by omega) (bB o ho)) trivial) L7 (fun h=>by
  simp only[aB,av,ae.upto,ax,Func.ag,true_and,and_true,Mach.enter]at h ⊢;omega)
 obtain⟨O2,tu⟩:∃O2,O2=(O.set m.sid .gone).set 2 (.cells (aB u (m.enter u fn args to))):=⟨_,rfl⟩
 have hlen:O.length=O2.length:=by rw[tu];simp
 simp only[<-tu]at fb ⊢;rw[hlen]at fb;refine zf true (O.length+3) Tryz.func81 Tryz.ntmps81 ?_;dsimp only[Tmp,TypeId,slotsOf];refine ay (ai ?_);refine c7 ?_;simp -dsimp only[simprocAttr,↓aa,zp,Ep,hF,hB]
 repeat(refine⟨by omega,?_⟩)
 refine ai ?_;refine fD 2 rfl (fun mG=>?_);simp only[List.length_map]at mG;refine ah (aL (ι:={j:Nat // j<=B.params.length}) (fun j=>⟨54,[(0,.mp 2 0),(2,.aA 4 (args.map SV.enc) .sh),(8,.mp (O.length+1) 0),(27,aJ B.params),(28,aI B.params.length),(29,aI j.1)],O++[.map (.int .i64) ((gl [] (B.params.take j.1) (args.take j.1)).map gz),.cells [aI fn,aI 0,aI 0,aI to,.mm O.length]]⟩) (fun j=>B.params.length-j.1) ⟨0,by omega⟩ ?_ ?_)
 ·refine zq rfl ?_ ?_;simp -dsimp only[simprocAttr,↓aa,zp,zc];rw[tX];rfl
 rintro⟨j,hj⟩;refine ay (ai ?_);apply gJ rfl<;>intro h
 ·refine cj ?_;have bf:j<B.params.length:=by simpa using h
  obtain⟨p,hp⟩:∃p,B.params[j]?=some p:=⟨B.params[j],by simp[bf]⟩
  obtain⟨a,ha⟩:∃a,args[j]?=some a:=⟨args[j]'(by omega),List.getElem?_eq_getElem _⟩
  refine aH (ah ?_);refine aQ ?_;simp -dsimp only[simprocAttr,↓aa,zp,hp];refine ai ?_;refine jX ?_;simp -dsimp only[simprocAttr,↓aa,zp,ha,qU,<-pD hp ha]
  repeat(refine⟨by omega,?_⟩)
  refine⟨ob (by kernel_rfl),?_⟩;refine ai ?_;refine cM ?_
  repeat(refine⟨by omega,?_⟩)
  refine eZ ?_;refine⟨⟨j+1,bf⟩,by simp;omega,?_⟩;refine zq rfl ?_ ?_;simp -dsimp only[simprocAttr,↓aa,zp,zc]
  ·exact Sub.int (by simp)
  rfl
 refine aK ?_;simp -dsimp only[bI,ne_eq,Nat.reduceEqDiff,reduceCtorEq];have rL:j=B.params.length:=by simp at h;omega
 subst rL;have yA:args.take B.params.length=args:=List.take_of_length_le (by omega);refine N1 ?_;simp -dsimp only[simprocAttr,↓aa,zp,Ep,yA,List.take_length,VY,e1,e2,e3,AI,List.length_set,lR,Oy,<-tu];refine⟨by omega,by omega,trivial,?_⟩;refine a6 ?_;simp -dsimp only[simprocAttr,↓aa,zp,zr,Tryz.results81,oZ,hlen,sq];refine⟨fun o ho=>?_,trivial,by simp[l7]⟩;rcases List.mem_append.1 ho with ho|ho
 ·exact fb o ho
 have tv:=bB _ (List.mem_of_getElem? fo);simp only[ak.upto,aT]at tv;simp only[List.mem_cons,List.mem_nil_iff,or_false]at ho;rcases ho with rfl|rfl|rfl
 ·refine Al fun x hx=>?_;rcases kv hx with q|q
  ·simp at q
  exact(hl _ q).mono (by omega)
 ·simp[ak.upto,av,ae.upto]
 simp only[ak.upto,aT];intro x hx;rcases List.mem_append.1 hx with q|q
 ·exact ae.b8 (by omega) _ (tv x (List.mem_of_mem_take q))
 simp only[List.mem_singleton]at q;subst q;simp[ae.upto]
def yO(u:cd)(fuel:Int):List ae:=[bc u.fns,aI u.main,.aA 1 [] .ex,aI fuel,.v (.bool false),.v (.bool false),.aA 1 [] (.tok 3),aI 0,aI 0]
theorem An{u:cd}{fuel:Int}(xt:0<=u.main∧u.main<u.fns.length)(hb:(cx u u.main).blocks≠[])(hp:(aF (cx u u.main) 0).params=[])(sz:Nat)(ow:m9) :
  bd Tryz.prog 81 [.gone,.cells [.aA 1 [] .ex,aI 0,aI 0],.cells (yO u fuel),.spare 0] [.mp 2 0,aI u.main,.aA sz [] ow,aI 0] (fun r O'=>r=.cw []∧O'=[.gone,.cells [.aA 1 [] .ex,aI 0,aI 0],.cells (aB u ((Mach.start fuel).enter u u.main [] 0)),.spare 0,.map (.int .i64) [],.cells [aI u.main,aI 0,aI 0,aI 0,.mm 4],.cells [.mp 5 0]]):=by
 have hF:=kh xt.1 xt.2;have hB:=dP (f:=cx u u.main) (k:=0) (by omega) (by
  have:=List.length_pos_iff.2 hb;omega)
 have Oy:aB u ((Mach.start fuel).enter u u.main [] 0)=[bc u.fns,aI u.main,.os 6 1 1,aI fuel,.v (.bool false),.v (.bool false),.aA 1 [] (.tok 3),aI 0,aI 0]:=by
  simp[aB,Mach.enter,Mach.start]
 rw[Oy];unfold yO;generalize RS:aF (cx u u.main) 0=B at *;generalize Yb:cx u u.main=F at *;have hB:F.blocks[0]?=some B:=hB;have wz:B.params.length=0:=by rw[hp];rfl
 refine zf true 7 Tryz.func81 Tryz.ntmps81 ?_;dsimp only[Tmp,TypeId,slotsOf];refine ay (ai ?_);refine c7 ?_;simp -dsimp only[simprocAttr,↓aa,zp,hF,hB]
 repeat(refine⟨by omega,?_⟩)
 refine ai ?_;refine ah (aL (ι:=Unit) (fun _=>⟨54,[(0,.mp 2 0),(8,.mp 5 0),(27,aJ B.params),(28,aI 0),(29,aI 0)],[.gone,.cells [.aA 1 [] .ex,aI 0,aI 0],.cells [bc u.fns,aI u.main,.aA 1 [] .ex,aI fuel,.v (.bool false),.v (.bool false),.aA 1 [] (.tok 3),aI 0,aI 0],.spare 0,.map (.int .i64) [],.cells [aI u.main,aI 0,aI 0,aI 0,.mm 4]]⟩) (fun _=>0) () ?_ ?_)
 ·refine zq rfl ?_ ?_;simp -dsimp only[simprocAttr,↓aa,zp,zc]
  ·exact Sub.int (by simp[wz])
  rfl
 rintro⟨⟩;refine ay (ai ?_);apply gJ rfl<;>intro h
 ·simp at h
 refine aK ?_;simp -dsimp only[bI,ne_eq,Nat.reduceEqDiff,reduceCtorEq];refine N1 ?_;simp -dsimp only[simprocAttr,↓aa,zp,lR,sq];refine⟨trivial,?_⟩;refine a6 ?_;simp -dsimp only[simprocAttr,↓aa,zp,zr,Tryz.results81];refine⟨?_,trivial⟩;simp[ak.upto,av,kW,ae.upto,Func.ag]
theorem Di{u:cd}{m:Mach}{O:List ak}(bB:∀o∈O,o.upto O.length)(h0:O[2]?=some (.cells (aB u m)))(f:Fr)(dG:m.frames=[f])(ga:f.bR<O.length)(v:SV)(hv:SV.bj O.length v) :
  bd Tryz.prog 130 O [.mp 2 0,.mp f.bR 0,v.enc] (fun r O'=>r=.cw []∧O'=O.set 2 (.cells (aB u (m.leave f v)))):=by
 have pQ:=hv.aO;rw[SV.fF]at pQ;have eK:=I h0;have C9:[bc u.fns,aI u.main,.os m.sid 0 1,aI m.left,.v (.bool m.short),.v (.bool m.over),.aA 1 (m.out.map aI) (.tok 3),aI m.fin,aI m.val]=aB u { m with frames:=[] }:=rfl;have Ml:=dk h0;have lL:O[2]?=some (.cells [bc u.fns,aI u.main,.os m.sid 1 1,aI m.left,.v (.bool m.short),.v (.bool m.over),.aA 1 (m.out.map aI) (.tok 3),aI m.fin,aI m.val]):=by
  rw[h0];unfold aB;rw[dG];rfl
 obtain⟨O1,dH⟩:∃O1,O1=O.set 2 (.cells (aB u { m with frames:=[] })):=⟨_,rfl⟩
 have hlen:O.length=O1.length:=by rw[dH];simp
 have FL:O1[2]?=some (.cells (aB u { m with frames:=[] })):=by rw[dH];exact Ml _
 have dT:∀o∈O1,o.upto O1.length:=by
  rw[<-hlen,dH];exact bq bB h0 (fun h=>bS h rfl)
 have jR:=fun e n=>ky dT FL e n;have PR:∀n:Int,O1.set 2 (.cells (aB u (({ m with frames:=[] }:Mach).stop 0 n)))=O.set 2 (.cells (aB u (({ m with frames:=[] }:Mach).stop 0 n))):=fun n=>by
  rw[dH,List.set_set]
 have fb:∀n:Int,∀o∈O.set 2 (.cells (aB u (({ m with frames:=[] }:Mach).stop 0 n))),o.upto O.length:=fun n=>bq bB h0 (fun h=>bS h rfl);have rp:O1[2]?=some (.cells [bc u.fns,aI u.main,.os m.sid 0 1,aI m.left,.v (.bool m.short),.v (.bool m.over),.aA 1 (m.out.map aI) (.tok 3),aI m.fin,aI m.val]):=FL;have eh:m.leave f v=({ m with frames:=[] }:Mach).stop 0 (if v.kind=0∨v.kind=1 then v.n else 0):=by
  unfold Mach.leave;rw[dG];rfl
 rw[eh];have eo:∀x,(O.set 2 x).take O1.length=O.set 2 x:=fun x=>by rw[<-hlen];exact ct
 by_cases hk:v.kind=0∨v.kind=1
 ·rw[if_pos hk];rcases(show v.kind=0∨(v.kind≠0∧v.kind=1) by omega)with e|⟨e,e1⟩
  ·have hd:decide (v.kind=0)=true:=decide_eq_true e;refine zf true O.length Tryz.func130 Tryz.ntmps130 ?_;dsimp only[Tmp,TypeId,slotsOf];refine ay (ai ?_);refine aV 5 ([aI v.kind,aI v.n,.aA 4 (v.list.map SV.enc) .sh,eP v.arr]) [(0,.mp 2 0),(1,.mp f.bR 0),(5,.ip none [aI v.kind,aI v.n,.aA 4 (v.list.map SV.enc) .sh,eP v.arr])] rfl (by simp only[List.map_cons,List.map_nil,cD,bW,dA,dB,dz,dx,dy,cf]) (by omega) (by simp[bw,a8,Go.Av.look]) ?_ ?_ ?_
   ·exact bB
   ·simp only[ae.upto]at pQ;simp[ae.upto,ga,eK,pQ]
   refine aQ ?_;simp -dsimp only[simprocAttr,↓aa,zp,lL,lR,C9,<-dH];refine⟨trivial,?_⟩;refine⟨ob (by kernel_rfl),?_⟩;refine ai ?_;refine c7 ?_;simp -dsimp only[simprocAttr,↓aa,zp,rp];refine ai ?_;refine cv rfl ?_;refine cj ?_;refine ay (ai ?_);refine c7 ?_;simp -dsimp only[simprocAttr,↓aa,zp,hd];refine ai ?_;refine cB rfl ?_;refine cM (ai ?_);refine cM ?_;refine .inr (.inl ⟨_,_,jR 0 v.n,.inl (ao ?_)⟩);simp -dsimp only[simprocAttr,↓aa,zp,hlen,PR];refine a6 ?_;simp -dsimp only[simprocAttr,↓aa,zp,zr,Tryz.results130,hlen,List.take_length,List.length_set,eo];exact⟨by rw[<-hlen];exact fb v.n,trivial⟩
  have hd:decide (v.kind=0)=false:=decide_eq_false e;have wu:decide (v.kind=1)=true:=decide_eq_true e1;refine zf true O.length Tryz.func130 Tryz.ntmps130 ?_;dsimp only[Tmp,TypeId,slotsOf];refine ay (ai ?_);refine aV 5 ([aI v.kind,aI v.n,.aA 4 (v.list.map SV.enc) .sh,eP v.arr]) [(0,.mp 2 0),(1,.mp f.bR 0),(5,.ip none [aI v.kind,aI v.n,.aA 4 (v.list.map SV.enc) .sh,eP v.arr])] rfl (by simp only[List.map_cons,List.map_nil,cD,bW,dA,dB,dz,dx,dy,cf]) (by omega) (by simp[bw,a8,Go.Av.look]) ?_ ?_ ?_
  ·exact bB
  ·simp only[ae.upto]at pQ;simp[ae.upto,ga,eK,pQ]
  refine aQ ?_;simp -dsimp only[simprocAttr,↓aa,zp,lL,lR,C9,<-dH];refine⟨trivial,?_⟩;refine⟨ob (by kernel_rfl),?_⟩;refine ai ?_;refine c7 ?_;simp -dsimp only[simprocAttr,↓aa,zp,rp];refine ai ?_;refine cv rfl ?_;refine cj ?_;refine ay (ai ?_);refine c7 ?_;simp -dsimp only[simprocAttr,↓aa,zp,hd,wu];refine ai ?_;refine cB rfl ?_;refine cM (ai ?_);refine cM ?_;refine .inr (.inl ⟨_,_,jR 0 v.n,.inl (ao ?_)⟩);simp -dsimp only[simprocAttr,↓aa,zp,hlen,PR];refine a6 ?_;simp -dsimp only[simprocAttr,↓aa,zp,zr,Tryz.results130,hlen,List.take_length,List.length_set,eo];exact⟨by rw[<-hlen];exact fb v.n,trivial⟩
 rw[if_neg hk];have hd:decide (v.kind=0)=false:=decide_eq_false (by omega);have wu:decide (v.kind=1)=false:=decide_eq_false (by omega);refine zf true O.length Tryz.func130 Tryz.ntmps130 ?_;dsimp only[Tmp,TypeId,slotsOf];refine ay (ai ?_);refine aV 5 ([aI v.kind,aI v.n,.aA 4 (v.list.map SV.enc) .sh,eP v.arr]) [(0,.mp 2 0),(1,.mp f.bR 0),(5,.ip none [aI v.kind,aI v.n,.aA 4 (v.list.map SV.enc) .sh,eP v.arr])] rfl (by simp only[List.map_cons,List.map_nil,cD,bW,dA,dB,dz,dx,dy,cf]) (by omega) (by simp[bw,a8,Go.Av.look]) ?_ ?_ ?_
 ·exact bB
 ·simp only[ae.upto]at pQ;simp[ae.upto,ga,eK,pQ]
 refine aQ ?_;simp -dsimp only[simprocAttr,↓aa,zp,lL,lR,C9,<-dH];refine⟨trivial,?_⟩;refine⟨ob (by kernel_rfl),?_⟩;refine ai ?_;refine c7 ?_;simp -dsimp only[simprocAttr,↓aa,zp,rp];refine ai ?_;refine cv rfl ?_;refine cj ?_;refine ay (ai ?_);refine c7 ?_;simp -dsimp only[simprocAttr,↓aa,zp,hd,wu];refine ai ?_;refine cv rfl ?_;refine cj ?_;refine cM ?_;refine .inr (.inl ⟨_,_,jR 0 0,.inl (ao ?_)⟩);simp -dsimp only[simprocAttr,↓aa,zp,hlen,PR];refine a6 ?_;simp -dsimp only[simprocAttr,↓aa,zp,zr,Tryz.results130,hlen,List.take_length,List.length_set,eo];exact⟨by rw[<-hlen];exact fb 0,trivial⟩
theorem Dj{u:cd}{m:Mach}{O:List ak}(bB:∀o∈O,o.upto O.length)(h0:O[2]?=some (.cells (aB u m)))(f g:Fr)(r:List Fr)(dG:m.frames=f::g::r)(hf:O[f.bR]?=some (.cells (aW f)))
  (hg:O[g.bR]?=some (.cells (aW g))) (YT:O[g.dn]?=some (.map (.int .i64) (g.vals.map gz))) (Uj:∀e∈g.vals,SV.bj O.length e.2) {cs:List ae} (fo:O[m.sid]?=some (.cells cs)) (fA:cs[r.length]?=some (.mp g.bR 0))
  (Ml:m.sid≠2) (xu:r.length<=2 ^ 40) (Sw:f.bR≠2) (L7:g.bR≠2) (lL:g.dn≠2) (v:SV) (hv:SV.bj O.length v) :
  bd Tryz.prog 130 O [.mp 2 0,.mp f.bR 0,v.enc] (fun r O'=>r=.cw []∧O'=(O.set 2 (.cells (aB u (m.leave f v)))).set g.dn (.map (.int .i64) ((eT g.vals f.to v).map gz))):=by
 have pQ:=hv.aO;rw[SV.fF]at pQ;have eK:=I h0;have ga:=I hf;have eh:aB u (m.leave f v)=[bc u.fns,aI u.main,.os m.sid (r.length+1) 1,aI m.left,.v (.bool m.short),.v (.bool m.over),.aA 1 (m.out.map aI) (.tok 3),aI m.fin,aI m.val]:=by
  simp[Mach.leave,dG,aB]
 have hm:O[2]?=some (.cells [bc u.fns,aI u.main,.os m.sid (r.length+1+1) 1,aI m.left,.v (.bool m.short),.v (.bool m.over),.aA 1 (m.out.map aI) (.tok 3),aI m.fin,aI m.val]):=by
  rw[h0];unfold aB;rw[dG];rfl
 obtain⟨O1,dH⟩:∃O1,O1=O.set 2 (.cells (aB u (m.leave f v))):=⟨_,rfl⟩
 have hlen:O.length=O1.length:=by rw[dH];simp
 have hs:=dk h0;have FL:O1[2]?=some (.cells (aB u (m.leave f v))):=by rw[dH];exact hs _
 have Qg:O1[m.sid]?=some (.cells cs):=by rw[dH];exact br fo Ml.symm
 have nC:O1[f.bR]?=some (.cells (aW f)):=by rw[dH];exact br hf Sw.symm
 have kY:O1[g.bR]?=some (.cells (aW g)):=by rw[dH];exact br hg L7.symm
 have Vq:O1[g.dn]?=some (.map (.int .i64) (g.vals.map gz)):=by rw[dH];exact br YT lL.symm
 have dT:∀o∈O1,o.upto O1.length:=by
  rw[<-hlen,dH];refine bq bB h0 (fun h=>bS h ?_);simp[Mach.leave,dG]
 rw[<-dH];have fb:∀o∈O1.set g.dn (.map (.int .i64) ((eT g.vals f.to v).map gz)),o.upto O1.length:=by
  refine bt dT (Al fun x hx=>?_);rw[<-hlen];rcases js hx with q|q
  ·exact Uj x q
  rw[q];exact hv
 have eo:∀x,(O1.set g.dn x).take O1.length=O1.set g.dn x:=fun x=>ct;have lj:[bc u.fns,aI u.main,.os m.sid (r.length+1) 1,aI m.left,.v (.bool m.short),.v (.bool m.over),.aA 1 (m.out.map aI) (.tok 3),aI m.fin,aI m.val]=aB u (m.leave f v):=eh.symm;rw[eh]at FL;unfold aW at nC kY;have tg:((r.length+1+1:Nat):Int)-1=((r.length+1:Nat):Int):=by omega
 have OC:((r.length+1:Nat):Int)-1=(r.length:Nat):=by omega
 have Uv:decide ((0:Int)<((r.length+1:Nat):Int))=true:=decide_eq_true (by omega);refine zf true O.length Tryz.func130 Tryz.ntmps130 ?_;dsimp only[Tmp,TypeId,slotsOf];refine ay (ai ?_);refine aV 5 ([aI v.kind,aI v.n,.aA 4 (v.list.map SV.enc) .sh,eP v.arr]) [(0,.mp 2 0),(1,.mp f.bR 0),(5,.ip none [aI v.kind,aI v.n,.aA 4 (v.list.map SV.enc) .sh,eP v.arr])] rfl (by simp only[List.map_cons,List.map_nil,cD,bW,dA,dB,dz,dx,dy,cf]) (by omega) (by simp[bw,a8,Go.Av.look]) ?_ ?_ ?_
 ·exact bB
 ·simp only[ae.upto]at pQ;simp[ae.upto,ga,eK,pQ]
 refine aQ ?_;simp -dsimp only[simprocAttr,↓aa,zp,hm,lR,tg,Int.toNat_natCast,lj,<-dH]
 repeat(refine⟨by omega,?_⟩)
 refine⟨trivial,?_⟩;refine⟨ob (by kernel_rfl),?_⟩;refine ai ?_;refine c7 ?_;simp -dsimp only[simprocAttr,↓aa,zp,FL,Uv];refine ai ?_;refine cB rfl ?_;refine aQ ?_;simp -dsimp only[simprocAttr,↓aa,zp,FL,Qg,OC,Nat.mul_one,fA,nC,kY,Vq,qU]
 repeat(refine⟨by omega,?_⟩)
 refine⟨ob (by kernel_rfl),?_⟩;refine ai ?_;refine aq ?_;simp -dsimp only[simprocAttr,↓aa,zp,zr,Tryz.results130,hlen,eo,List.length_set];exact⟨fb,trivial⟩
theorem jT{cs xs:List ae}{n:Nat}(h:xs.length=n)(hc:cs.length=n):bh cs 0 xs=xs:=by
 simp[bh];omega
theorem sT{x:ae}(h:x.flat):x.cells.map ae.bg=x.share.cells:=by
 cases x<;>rfl
theorem fO(es:List (Int×SV))(k:Int):(jS es k).cells.map ae.bg=(iO es k).enc.cells:=by
 rw[sT (ju es k),vr]
theorem H9{u:cd}{m:Mach}{O:List ak}(bB:∀o∈O,o.upto O.length)(h0:O[2]?=some (.cells (aB u m)))(f:Fr)(hf:O[f.bR]?=some (.cells (aW f)))(hv:O[f.dn]?=some (.map (.int .i64) (f.vals.map gz)))
  (hu:∀e∈f.vals,SV.bj O.length e.2) (tF:f.bR≠f.dn) (t:Term) (hk:t.kind=4):bd Tryz.prog 112 O [.mp 2 0,.mp f.bR 0,t.enc] (fun r O'=>r=.cw []∧O'=O.set 2 (.cells (aB u (m.stop t.n 0)))):=by
 have ga:=I hf;have Rk:=I hv;have eK:=I h0;have eE:=hf;unfold aW at eE;have uT:(Option.map SV.enc (iP f.vals t.arg)).getD (.agg [aI 0,aI 0,.aA 4 [] .ex,.v (.pointer none)])=jS f.vals t.arg:=rfl;have rO:bh [ae.v (.int .i64 0),.v (.int .i64 0),.aA 4 [] .ex,.v (.pointer none)] 0 (jS f.vals t.arg).cells=(jS f.vals t.arg).cells:=jT (fq _ _) rfl;have lD:=fO f.vals t.arg;have yB:=(jl hu t.arg).aO;generalize iO f.vals t.arg=V at *;rw[SV.fF]at yB;rw[SV.aj]at lD;have jR:=ky bB h0 t.n 0;have fb:=bq bB h0 (ds:=aB u (m.stop t.n 0)) (fun h=>bS h rfl);have eo:=ct (O:=O) (k:=2) (x:=.cells (aB u (m.stop t.n 0)));refine zf true O.length Tryz.func112 Tryz.ntmps112 ?_;dsimp only[Tmp,TypeId,slotsOf];refine ay (ai ?_);refine aV 5 ([aI t.kind,aI t.arg,aI t.n,aJ t.cases,aG t.to]) [(0,.mp 2 0),(1,.mp f.bR 0),(5,.ip none [aI t.kind,aI t.arg,aI t.n,aJ t.cases,aG t.to])] rfl (by rfl) (by omega) (by simp[bw,a8,Go.Av.look]) ?_ ?_ ?_
 ·exact bB
 ·simp[ae.upto,av,ga,eK,ax,Edge.ag]
 refine aQ ?_;simp -dsimp only[simprocAttr,↓aa,zp,eE,hv,lX,uT,ju,fq,rO];refine⟨b7 [f.bR,f.dn] O.length [.pure,.pure,.pure,.rd 0,.pure,.pure,.rd 1,.wr 2 [],.wr 3 [2]] (by simp[tF]) (by simp;omega) rfl rfl (by kernel_rfl),a6 ?_⟩;simp -dsimp only[bI,ne_eq,Nat.reduceEqDiff,reduceCtorEq];refine aV 6 [aI V.kind,aI V.n,.aA 4 (V.list.map SV.enc) .sh,eP V.arr] [(0,.mp 2 0),(1,.mp f.bR 0),(5,.ip none [aI t.kind,aI t.arg,aI t.n,aJ t.cases,aG t.to]),(6,.ip none [aI V.kind,aI V.n,.aA 4 (V.list.map SV.enc) .sh,eP V.arr])] rfl lD (by omega) (by simp[bw,a8,Go.Av.look]) bB ?_ ?_
 ·simp only[av,ae.upto,true_and,and_true]at yB;simp[ae.upto,av,ga,eK,ax,Edge.ag,yB]
 refine ay (ai ?_);refine ah ?_;refine ay (ai ?_);apply aN rfl<;>intro h
 ·refine cM ?_;refine .inr (.inl ⟨_,_,jR,.inl (ao (zj ?_))⟩)
  (refine a6 ?_;simp -dsimp only[bI,ne_eq,Nat.reduceEqDiff,reduceCtorEq])
  skip
  simp -dsimp only[simprocAttr,↓aa,zp,zr,Tryz.results112,eo,List.length_set];exact⟨fb,trivial⟩
 exact af h (by omega)
theorem H8{u:cd}{m:Mach}{O:List ak}(bB:∀o∈O,o.upto O.length)(h0:O[2]?=some (.cells (aB u m)))(f:Fr)(hf:O[f.bR]?=some (.cells (aW f)))(hv:O[f.dn]?=some (.map (.int .i64) (f.vals.map gz)))
  (hu:∀e∈f.vals,SV.bj O.length e.2) (tF:f.bR≠f.dn) (t:Term) (hk:t.kind=1) (e:Edge) (he:t.to[0]?=some e) {O':List ak} (hC:bd Tryz.prog 129 O [.mp 2 0,.mp f.bR 0,e.enc] (fun r O1=>r=.cw []∧O1=O')) (hlen:O.length=O'.length) (nu:∀o∈O',o.upto O'.length):bd Tryz.prog 112 O [.mp 2 0,.mp f.bR 0,t.enc] (fun r O1=>r=.cw []∧O1=O'):=by
 have ga:=I hf;have Rk:=I hv;have eK:=I h0;have eE:=hf;unfold aW at eE;have uT:(Option.map SV.enc (iP f.vals t.arg)).getD (.agg [aI 0,aI 0,.aA 4 [] .ex,.v (.pointer none)])=jS f.vals t.arg:=rfl;have rO:bh [ae.v (.int .i64 0),.v (.int .i64 0),.aA 4 [] .ex,.v (.pointer none)] 0 (jS f.vals t.arg).cells=(jS f.vals t.arg).cells:=jT (fq _ _) rfl;have lD:=fO f.vals t.arg;have yB:=(jl hu t.arg).aO;generalize iO f.vals t.arg=V at *;rw[SV.fF]at yB;rw[SV.aj]at lD;refine zf true O.length Tryz.func112 Tryz.ntmps112 ?_;dsimp only[Tmp,TypeId,slotsOf];refine ay (ai ?_);refine aV 5 ([aI t.kind,aI t.arg,aI t.n,aJ t.cases,aG t.to]) [(0,.mp 2 0),(1,.mp f.bR 0),(5,.ip none [aI t.kind,aI t.arg,aI t.n,aJ t.cases,aG t.to])] rfl (by rfl) (by omega) (by simp[bw,a8,Go.Av.look]) ?_ ?_ ?_
 ·exact bB
 ·simp[ae.upto,av,ga,eK,ax,Edge.ag]
 refine aQ ?_;simp -dsimp only[simprocAttr,↓aa,zp,eE,hv,lX,uT,ju,fq,rO];refine⟨b7 [f.bR,f.dn] O.length [.pure,.pure,.pure,.rd 0,.pure,.pure,.rd 1,.wr 2 [],.wr 3 [2]] (by simp[tF]) (by simp;omega) rfl rfl (by kernel_rfl),a6 ?_⟩;simp -dsimp only[bI,ne_eq,Nat.reduceEqDiff,reduceCtorEq];refine aV 6 [aI V.kind,aI V.n,.aA 4 (V.list.map SV.enc) .sh,eP V.arr] [(0,.mp 2 0),(1,.mp f.bR 0),(5,.ip none [aI t.kind,aI t.arg,aI t.n,aJ t.cases,aG t.to]),(6,.ip none [aI V.kind,aI V.n,.aA 4 (V.list.map SV.enc) .sh,eP V.arr])] rfl lD (by omega) (by simp[bw,a8,Go.Av.look]) bB ?_ ?_
 ·simp only[av,ae.upto,true_and,and_true]at yB;simp[ae.upto,av,ga,eK,ax,Edge.ag,yB]
 refine ay (ai ?_);refine ah ?_;refine ay (ai ?_);apply aN rfl<;>intro h
 ·exact ab h (by omega)
 refine ay (ai ?_);apply aN rfl<;>intro h
 ·refine jX ?_;simp -dsimp only[simprocAttr,↓aa,zp,he];refine .inr (.inl ⟨_,_,hC,.inl (ao (zj ?_))⟩)
  (refine a6 ?_;simp -dsimp only[bI,ne_eq,Nat.reduceEqDiff,reduceCtorEq])
  skip
  simp -dsimp only[simprocAttr,↓aa,zp,zr,Tryz.results112,hlen,List.take_length];exact⟨nu,trivial⟩
 exact af h (by omega)
theorem En{u:cd}{m:Mach}{O:List ak}(bB:∀o∈O,o.upto O.length)(h0:O[2]?=some (.cells (aB u m)))(f:Fr)(hf:O[f.bR]?=some (.cells (aW f)))(hv:O[f.dn]?=some (.map (.int .i64) (f.vals.map gz)))
  (hu:∀e∈f.vals,SV.bj O.length e.2) (tF:f.bR≠f.dn) (t:Term) (hk:t.kind=0) {O':List ak} (hC:bd Tryz.prog 130 O [.mp 2 0,.mp f.bR 0,(iO f.vals t.arg).enc] (fun r O1=>r=.cw []∧O1=O')) (hlen:O.length=O'.length) (nu:∀o∈O',o.upto O'.length):bd Tryz.prog 112 O [.mp 2 0,.mp f.bR 0,t.enc] (fun r O1=>r=.cw []∧O1=O'):=by
 have ga:=I hf;have Rk:=I hv;have eK:=I h0;have eE:=hf;unfold aW at eE;have uT:(Option.map SV.enc (iP f.vals t.arg)).getD (.agg [aI 0,aI 0,.aA 4 [] .ex,.v (.pointer none)])=jS f.vals t.arg:=rfl;have rO:bh [ae.v (.int .i64 0),.v (.int .i64 0),.aA 4 [] .ex,.v (.pointer none)] 0 (jS f.vals t.arg).cells=(jS f.vals t.arg).cells:=jT (fq _ _) rfl;have lD:=fO f.vals t.arg;have yB:=(jl hu t.arg).aO;generalize iO f.vals t.arg=V at *;rw[SV.fF]at yB;rw[SV.aj]at lD;refine zf true O.length Tryz.func112 Tryz.ntmps112 ?_;dsimp only[Tmp,TypeId,slotsOf];refine ay (ai ?_);refine aV 5 ([aI t.kind,aI t.arg,aI t.n,aJ t.cases,aG t.to]) [(0,.mp 2 0),(1,.mp f.bR 0),(5,.ip none [aI t.kind,aI t.arg,aI t.n,aJ t.cases,aG t.to])] rfl (by rfl) (by omega) (by simp[bw,a8,Go.Av.look]) ?_ ?_ ?_
 ·exact bB
 ·simp[ae.upto,av,ga,eK,ax,Edge.ag]
 refine aQ ?_;simp -dsimp only[simprocAttr,↓aa,zp,eE,hv,lX,uT,ju,fq,rO];refine⟨b7 [f.bR,f.dn] O.length [.pure,.pure,.pure,.rd 0,.pure,.pure,.rd 1,.wr 2 [],.wr 3 [2]] (by simp[tF]) (by simp;omega) rfl rfl (by kernel_rfl),a6 ?_⟩;simp -dsimp only[bI,ne_eq,Nat.reduceEqDiff,reduceCtorEq];refine aV 6 [aI V.kind,aI V.n,.aA 4 (V.list.map SV.enc) .sh,eP V.arr] [(0,.mp 2 0),(1,.mp f.bR 0),(5,.ip none [aI t.kind,aI t.arg,aI t.n,aJ t.cases,aG t.to]),(6,.ip none [aI V.kind,aI V.n,.aA 4 (V.list.map SV.enc) .sh,eP V.arr])] rfl lD (by omega) (by simp[bw,a8,Go.Av.look]) bB ?_ ?_
 ·simp only[av,ae.upto,true_and,and_true]at yB;simp[ae.upto,av,ga,eK,ax,Edge.ag,yB]
 refine ay (ai ?_);refine ah ?_;refine ay (ai ?_);apply aN rfl<;>intro h
 ·exact ab h (by omega)
 refine ay (ai ?_);apply aN rfl<;>intro h
 ·exact ab h (by omega)
 refine ay (ai ?_);apply aN rfl<;>intro h
 ·refine cM ?_;refine .inr (.inl ⟨_,_,hC,.inl (ao (zj ?_))⟩)
  (refine a6 ?_;simp -dsimp only[bI,ne_eq,Nat.reduceEqDiff,reduceCtorEq])
  skip
  simp -dsimp only[simprocAttr,↓aa,zp,zr,Tryz.results112,hlen,List.take_length];exact⟨nu,trivial⟩
 exact af h (by omega)
theorem H'{u:cd}{m:Mach}{O:List ak}(bB:∀o∈O,o.upto O.length)(h0:O[2]?=some (.cells (aB u m)))(f:Fr)(hf:O[f.bR]?=some (.cells (aW f)))(hv:O[f.dn]?=some (.map (.int .i64) (f.vals.map gz)))
  (hu:∀e∈f.vals,SV.bj O.length e.2) (tF:f.bR≠f.dn) (t:Term) (hk:t.kind≠0∧t.kind≠1∧t.kind≠4) (hV:(iO f.vals t.arg).kind≠0):bd Tryz.prog 112 O [.mp 2 0,.mp f.bR 0,t.enc] (fun r O'=>r=.cw []∧O'=O.set 2 (.cells (aB u (m.stop 5 0)))):=by
 have ga:=I hf;have Rk:=I hv;have eK:=I h0;have eE:=hf;unfold aW at eE;have uT:(Option.map SV.enc (iP f.vals t.arg)).getD (.agg [aI 0,aI 0,.aA 4 [] .ex,.v (.pointer none)])=jS f.vals t.arg:=rfl;have rO:bh [ae.v (.int .i64 0),.v (.int .i64 0),.aA 4 [] .ex,.v (.pointer none)] 0 (jS f.vals t.arg).cells=(jS f.vals t.arg).cells:=jT (fq _ _) rfl;have lD:=fO f.vals t.arg;have yB:=(jl hu t.arg).aO;generalize iO f.vals t.arg=V at *;rw[SV.fF]at yB;rw[SV.aj]at lD;have jR:=ky bB h0 5 0;have fb:=bq bB h0 (ds:=aB u (m.stop 5 0)) (fun h=>bS h rfl);have eo:=ct (O:=O) (k:=2) (x:=.cells (aB u (m.stop 5 0)));have hd:decide (V.kind=0)=false:=decide_eq_false hV;refine zf true O.length Tryz.func112 Tryz.ntmps112 ?_;dsimp only[Tmp,TypeId,slotsOf];refine ay (ai ?_);refine aV 5 ([aI t.kind,aI t.arg,aI t.n,aJ t.cases,aG t.to]) [(0,.mp 2 0),(1,.mp f.bR 0),(5,.ip none [aI t.kind,aI t.arg,aI t.n,aJ t.cases,aG t.to])] rfl (by rfl) (by omega) (by simp[bw,a8,Go.Av.look]) ?_ ?_ ?_
 ·exact bB
 ·simp[ae.upto,av,ga,eK,ax,Edge.ag]
 refine aQ ?_;simp -dsimp only[simprocAttr,↓aa,zp,eE,hv,lX,uT,ju,fq,rO];refine⟨b7 [f.bR,f.dn] O.length [.pure,.pure,.pure,.rd 0,.pure,.pure,.rd 1,.wr 2 [],.wr 3 [2]] (by simp[tF]) (by simp;omega) rfl rfl (by kernel_rfl),a6 ?_⟩;simp -dsimp only[bI,ne_eq,Nat.reduceEqDiff,reduceCtorEq];refine aV 6 [aI V.kind,aI V.n,.aA 4 (V.list.map SV.enc) .sh,eP V.arr] [(0,.mp 2 0),(1,.mp f.bR 0),(5,.ip none [aI t.kind,aI t.arg,aI t.n,aJ t.cases,aG t.to]),(6,.ip none [aI V.kind,aI V.n,.aA 4 (V.list.map SV.enc) .sh,eP V.arr])] rfl lD (by omega) (by simp[bw,a8,Go.Av.look]) bB ?_ ?_
 ·simp only[av,ae.upto,true_and,and_true]at yB;simp[ae.upto,av,ga,eK,ax,Edge.ag,yB]
 refine ay (ai ?_);refine ah ?_;refine ay (ai ?_);apply aN rfl<;>intro h
 ·exact ab h (by omega)
 refine ay (ai ?_);apply aN rfl<;>intro h
 ·exact ab h (by omega)
 refine ay (ai ?_);apply aN rfl<;>intro h
 ·exact ab h (by omega)
 refine c7 ?_;simp -dsimp only[simprocAttr,↓aa,zp,hd];refine ai ?_;refine cB rfl ?_;refine ay ?_;refine .inr (.inl ⟨_,_,jR,.inl (ao (zj ?_))⟩);refine ai ?_;refine aq ?_;simp -dsimp only[simprocAttr,↓aa,zp,zr,Tryz.results112,eo,List.length_set];exact⟨fb,trivial⟩
theorem CL{u:cd}{m:Mach}{O:List ak}(bB:∀o∈O,o.upto O.length)(h0:O[2]?=some (.cells (aB u m)))(f:Fr)(hf:O[f.bR]?=some (.cells (aW f)))(hv:O[f.dn]?=some (.map (.int .i64) (f.vals.map gz)))
  (hu:∀e∈f.vals,SV.bj O.length e.2) (tF:f.bR≠f.dn) (t:Term) (hk:t.kind≠0∧t.kind≠1∧t.kind≠4) (hV:(iO f.vals t.arg).kind=0) (gg:t.cases.length<=2 ^ 60) (e:Edge) (he:t.to[iK t (iO f.vals t.arg).n]?=some e) {O':List ak} (hC:bd Tryz.prog 129 O [.mp 2 0,.mp f.bR 0,e.enc] (fun r O1=>r=.cw []∧O1=O')) (hlen:O.length=O'.length) (nu:∀o∈O',o.upto O'.length):bd Tryz.prog 112 O [.mp 2 0,.mp f.bR 0,t.enc] (fun r O1=>r=.cw []∧O1=O'):=by
 have ga:=I hf;have Rk:=I hv;have eK:=I h0;have eE:=hf;unfold aW at eE;have uT:(Option.map SV.enc (iP f.vals t.arg)).getD (.agg [aI 0,aI 0,.aA 4 [] .ex,.v (.pointer none)])=jS f.vals t.arg:=rfl;have rO:bh [ae.v (.int .i64 0),.v (.int .i64 0),.aA 4 [] .ex,.v (.pointer none)] 0 (jS f.vals t.arg).cells=(jS f.vals t.arg).cells:=jT (fq _ _) rfl;have lD:=fO f.vals t.arg;have yB:=(jl hu t.arg).aO;generalize iO f.vals t.arg=V at *;rw[SV.fF]at yB;rw[SV.aj]at lD;have pn:=Ab t V.n gg;generalize iK t V.n=q at *;have hd:decide (V.kind=0)=true:=decide_eq_true hV;refine zf true O.length Tryz.func112 Tryz.ntmps112 ?_;dsimp only[Tmp,TypeId,slotsOf];refine ay (ai ?_);refine aV 5 ([aI t.kind,aI t.arg,aI t.n,aJ t.cases,aG t.to]) [(0,.mp 2 0),(1,.mp f.bR 0),(5,.ip none [aI t.kind,aI t.arg,aI t.n,aJ t.cases,aG t.to])] rfl (by rfl) (by omega) (by simp[bw,a8,Go.Av.look]) ?_ ?_ ?_
 ·exact bB
 ·simp[ae.upto,av,ga,eK,ax,Edge.ag]
 refine aQ ?_;simp -dsimp only[simprocAttr,↓aa,zp,eE,hv,lX,uT,ju,fq,rO];refine⟨b7 [f.bR,f.dn] O.length [.pure,.pure,.pure,.rd 0,.pure,.pure,.rd 1,.wr 2 [],.wr 3 [2]] (by simp[tF]) (by simp;omega) rfl rfl (by kernel_rfl),a6 ?_⟩;simp -dsimp only[bI,ne_eq,Nat.reduceEqDiff,reduceCtorEq];refine aV 6 [aI V.kind,aI V.n,.aA 4 (V.list.map SV.enc) .sh,eP V.arr] [(0,.mp 2 0),(1,.mp f.bR 0),(5,.ip none [aI t.kind,aI t.arg,aI t.n,aJ t.cases,aG t.to]),(6,.ip none [aI V.kind,aI V.n,.aA 4 (V.list.map SV.enc) .sh,eP V.arr])] rfl lD (by omega) (by simp[bw,a8,Go.Av.look]) bB ?_ ?_
 ·simp only[av,ae.upto,true_and,and_true]at yB;simp[ae.upto,av,ga,eK,ax,Edge.ag,yB]
 refine ay (ai ?_);refine ah ?_;refine ay (ai ?_);apply aN rfl<;>intro h
 ·exact ab h (by omega)
 refine ay (ai ?_);apply aN rfl<;>intro h
 ·exact ab h (by omega)
 refine ay (ai ?_);apply aN rfl<;>intro h
 ·exact ab h (by omega)
 refine c7 ?_;simp -dsimp only[simprocAttr,↓aa,zp,hd];refine ai ?_;refine cv rfl ?_;refine cj ?_;refine cM ?_;refine .inl ⟨_,pn,by simp only[av,ae.upto,zt,zu,ax],ao ?_⟩;simp -dsimp only[simprocAttr,↓aa,zp,he];refine .inr (.inl ⟨_,_,hC,.inl (ao (zj ?_))⟩);refine⟨ob (by kernel_rfl),?_⟩
 (refine a6 ?_;simp -dsimp only[bI,ne_eq,Nat.reduceEqDiff,reduceCtorEq])
 skip
 simp -dsimp only[simprocAttr,↓aa,zp,zr,Tryz.results112,hlen,List.take_length];exact⟨nu,trivial⟩
theorem pG(B:Block):ae.agg [aJ B.params,a7 B.ins,aI B.term.kind,aI B.term.arg,aI B.term.n,aJ B.term.cases,aG B.term.to]=B.enc:=rfl
theorem step_end{u:cd}{m:Mach}{O:List ak}(bB:∀o∈O,o.upto O.length)(h0:O[2]?=some (.cells (aB u m)))(f:Fr)(r:List Fr)(dG:m.frames=f::r)(hf:O[f.bR]?=some (.cells (aW f)))(uO:f.bR≠2)
  {cs:List ae} (fo:O[m.sid]?=some (.cells cs)) (fA:cs[r.length]?=some (.mp f.bR 0)) (xu:r.length<=2 ^ 40) (F:Func) (hF:u.fns[f.fn.toNat]?=some F) (qM:0<=f.fn) (B:Block) (hB:F.blocks[f.blk.toNat]?=some B) (pN:0<=f.blk) (pP:f.pos=B.ins.length) {O':List ak} (hC:bd Tryz.prog 112 O [.mp 2 0,.mp f.bR 0,B.term.enc] (fun r O1=>r=.cw []∧O1=O')) (hlen:O.length<=O'.length) (nu:∀o∈O',o.upto O'.length) :
  bd Tryz.prog 83 O [.mp 2 0] (fun r O1=>r=.cw []∧O1=O'):=by
 have ga:=I hf;have eK:=I h0;have eE:=hf;unfold aW at eE;have lL:O[2]?=some (.cells [bc u.fns,aI u.main,.os m.sid (r.length+1) 1,aI m.left,.v (.bool m.short),.v (.bool m.over),.aA 1 (m.out.map aI) (.tok 3),aI m.fin,aI m.val]):=by
  rw[h0];unfold aB;rw[dG];rfl
 have tg:((r.length+1:Nat):Int)-1=(r.length:Nat):=by omega
 refine dj hT true (O'.length) Tryz.func83 rfl (by kernel_rfl) (by simp[Tryz.ntmps83]) (by assumption) ?_;show bX Tryz.prog _ _ _ ⟨137,_,_⟩;dsimp only[Tmp,TypeId,slotsOf];refine aQ ?_;simp -dsimp only[simprocAttr,↓aa,zp,lL,tg,Nat.mul_one,fo,fA]
 repeat(refine⟨by omega,?_⟩)
 refine⟨ob (by kernel_rfl),?_⟩;refine ai ?_;refine aQ ?_;simp -dsimp only[simprocAttr,↓aa,zp,lL,eE,hF,hB,pG]
 repeat(refine⟨by omega,?_⟩)
 refine⟨b7 [2,f.bR] O.length [.pure,.pure,.pure,.pure,.rd 0,.pure,.pure,.pure,.rd 1,.pure,.pure,.pure,.pure,.pure,.pure,.rd 1,.pure,.pure,.wr 2 [],.wr 3 [2]] (by simp;omega) (by simp;omega) rfl rfl (by kernel_rfl),a6 ?_⟩;simp -dsimp only[bI,ne_eq,Nat.reduceEqDiff,reduceCtorEq];refine aV 3 ([aJ B.params,a7 B.ins,aI B.term.kind,aI B.term.arg,aI B.term.n,aJ B.term.cases,aG B.term.to]) [(0,.mp 2 0),(2,.mp f.bR 0),(3,.ip none [aJ B.params,a7 B.ins,aI B.term.kind,aI B.term.arg,aI B.term.n,aJ B.term.cases,aG B.term.to])] rfl (by rfl) (by omega) (by simp[bw,a8,Go.Av.look]) ?_ ?_ ?_
 ·exact bB
 ·simp[ae.upto,av,ga,eK,ax,Edge.ag,Ins.ag]
 refine c7 ?_;simp -dsimp only[simprocAttr,↓aa,zp,eE];refine⟨ob (by kernel_rfl),?_⟩;refine ai ?_;apply aN rfl<;>intro h
 ·refine ay ?_;refine .inr (.inl ⟨_,_,hC,.inl (ao (zj ?_))⟩);refine ai ?_;refine aq ?_;simp -dsimp only[simprocAttr,↓aa,zp,zr,Tryz.results83,List.take_length];exact⟨nu,trivial⟩
 exact af h (by omega)
theorem GR{u:cd}{m:Mach}{O:List ak}(bB:∀o∈O,o.upto O.length)(h0:O[2]?=some (.cells (aB u m)))(f:Fr)(r:List Fr)(dG:m.frames=f::r)(hf:O[f.bR]?=some (.cells (aW f)))(uO:f.bR≠2)
  {cs:List ae} (fo:O[m.sid]?=some (.cells cs)) (fA:cs[r.length]?=some (.mp f.bR 0)) (xu:r.length<=2 ^ 40) (F:Func) (hF:u.fns[f.fn.toNat]?=some F) (qM:0<=f.fn) (B:Block) (hB:F.blocks[f.blk.toNat]?=some B) (pN:0<=f.blk) (hv:O[f.dn]?=some (.map (.int .i64) (f.vals.map gz))) (tF:f.bR≠f.dn) (hu:∀e∈f.vals,SV.bj O.length e.2) (i:Ins) (hi:B.ins[f.pos]?=some i) (wz:f.pos<=2 ^ 41) (mG:i.args.length<=4096) (f':Fr) (ff:f' = { f with pos:=f.pos+1 }) (args:List SV) (eX:args=fZ f.vals i.args) (O1:List ak) (dH:O1=O.set f.bR (.cells (aW f'))) (jQ:i.op=13) {O':List ak} (hC:bd Tryz.prog 81 O1 [.mp 2 0,aI i.n,.aA 4 (args.map SV.enc) .sh,aI i.to] (fun r O2=>r=.cw []∧O2=O')) (hlen:O.length<=O'.length) (nu:∀o∈O',o.upto O'.length) :
  bd Tryz.prog 83 O [.mp 2 0] (fun r O1=>r=.cw []∧O1=O'):=by
 have ga:=I hf;have eK:=I h0;have eE:=hf;unfold aW at eE;have lL:O[2]?=some (.cells [bc u.fns,aI u.main,.os m.sid (r.length+1) 1,aI m.left,.v (.bool m.short),.v (.bool m.over),.aA 1 (m.out.map aI) (.tok 3),aI m.fin,aI m.val]):=by
  rw[h0];unfold aB;rw[dG];rfl
 have tg:((r.length+1:Nat):Int)-1=(r.length:Nat):=by omega
 have IH:=I hi;have hs:=dk hf;have dY:O.length=O1.length:=by rw[dH];simp
 have lj:[aI f.fn,aI f.blk,aI ((f.pos:Int)+1),aI f.to,.mm f.dn]=aW f':=by
  rw[ff];simp[aW]
 have nC:O1[f'.bR]?=some (.cells (aW f')):=by rw[dH,ff];exact hs _
 have AU:O1[f'.dn]?=some (.map (.int .i64) (f'.vals.map gz)):=by rw[dH,ff];exact br hv tF
 have dT:∀o∈O1,o.upto O1.length:=by
  rw[<-dY,dH];refine bq bB hf fun h=>?_;simp only[aW,av,ae.upto,true_and,and_true]at h ⊢;rw[ff];exact h
 have gH:=jw dT nC AU (by rw[ff,<-dY];exact hu) i.args mG;have jP:f'.bR=f.bR:=by rw[ff]
 have nV:f'.vals=f.vals:=by rw[ff]
 rw[jP,nV,<-eX]at gH;rw[jP]at nC;refine dj hT true (O'.length) Tryz.func83 rfl (by kernel_rfl) (by simp[Tryz.ntmps83]) (by assumption) ?_;show bX Tryz.prog _ _ _ ⟨137,_,_⟩;dsimp only[Tmp,TypeId,slotsOf];refine aQ ?_;simp -dsimp only[simprocAttr,↓aa,zp,lL,tg,Nat.mul_one,fo,fA]
 repeat(refine⟨by omega,?_⟩)
 refine⟨ob (by kernel_rfl),?_⟩;refine ai ?_;refine aQ ?_;simp -dsimp only[simprocAttr,↓aa,zp,lL,eE,hF,hB,pG]
 repeat(refine⟨by omega,?_⟩)
 refine⟨b7 [2,f.bR] O.length [.pure,.pure,.pure,.pure,.rd 0,.pure,.pure,.pure,.rd 1,.pure,.pure,.pure,.pure,.pure,.pure,.rd 1,.pure,.pure,.wr 2 [],.wr 3 [2]] (by simp;omega) (by simp;omega) rfl rfl (by kernel_rfl),a6 ?_⟩;simp -dsimp only[bI,ne_eq,Nat.reduceEqDiff,reduceCtorEq];refine aV 3 ([aJ B.params,a7 B.ins,aI B.term.kind,aI B.term.arg,aI B.term.n,aJ B.term.cases,aG B.term.to]) [(0,.mp 2 0),(2,.mp f.bR 0),(3,.ip none [aJ B.params,a7 B.ins,aI B.term.kind,aI B.term.arg,aI B.term.n,aJ B.term.cases,aG B.term.to])] rfl (by rfl) (by omega) (by simp[bw,a8,Go.Av.look]) ?_ ?_ ?_
 ·exact bB
 ·simp[ae.upto,av,ga,eK,ax,Edge.ag,Ins.ag]
 refine c7 ?_;simp -dsimp only[simprocAttr,↓aa,zp,eE];refine⟨ob (by kernel_rfl),?_⟩;refine ai ?_;apply aN rfl<;>intro h
 ·exact ab h (by omega)
 refine cj ?_;refine aQ ?_;simp -dsimp only[simprocAttr,↓aa,zp,eE,hi,Int.toNat_natCast]
 repeat(refine⟨by omega,?_⟩)
 refine⟨b7 [f.bR] O.length [.pure,.pure,.pure,.pure,.pure,.rd 0,.pure,.pure,.wr 1 [],.wr 2 [1]] (by simp) (by simp;omega) rfl rfl (by kernel_rfl),a6 ?_⟩;simp -dsimp only[bI,ne_eq,Nat.reduceEqDiff,reduceCtorEq];refine aV 4 ([aI i.to,aI i.op,aI i.n,aJ i.args]) [(0,.mp 2 0),(2,.mp f.bR 0),(4,.ip none [aI i.to,aI i.op,aI i.n,aJ i.args])] rfl (by rfl) (by omega) (by simp[bw,a8,Go.Av.look]) ?_ ?_ ?_
 ·exact bB
 ·simp[ae.upto,av,ga,eK,ax]
 refine aQ ?_;simp -dsimp only[simprocAttr,↓aa,zp,eE,hs,lj,<-dH]
 repeat(refine⟨by omega,?_⟩)
 refine ai ?_;refine ay ?_;refine .inr (.inr ⟨_,gH,ao (zj ?_)⟩);refine ai ?_;refine ay (ai ?_);refine ah ?_;refine ay (ai ?_);apply aN rfl<;>intro h
 ·refine cM ?_;refine .inr (.inl ⟨_,_,hC,.inl (ao (zj ?_))⟩)
  (refine a6 ?_;simp -dsimp only[bI,ne_eq,Nat.reduceEqDiff,reduceCtorEq])
  skip
  simp -dsimp only[simprocAttr,↓aa,zp,zr,Tryz.results83,List.take_length];exact⟨nu,trivial⟩
 exact af h (by omega)
theorem JU{u:cd}{m:Mach}{O:List ak}(bB:∀o∈O,o.upto O.length)(h0:O[2]?=some (.cells (aB u m)))(f:Fr)(r:List Fr)(dG:m.frames=f::r)(hf:O[f.bR]?=some (.cells (aW f)))(uO:f.bR≠2)
  {cs:List ae} (fo:O[m.sid]?=some (.cells cs)) (fA:cs[r.length]?=some (.mp f.bR 0)) (xu:r.length<=2 ^ 40) (F:Func) (hF:u.fns[f.fn.toNat]?=some F) (qM:0<=f.fn) (B:Block) (hB:F.blocks[f.blk.toNat]?=some B) (pN:0<=f.blk) (hv:O[f.dn]?=some (.map (.int .i64) (f.vals.map gz))) (tF:f.bR≠f.dn) (hu:∀e∈f.vals,SV.bj O.length e.2) (i:Ins) (hi:B.ins[f.pos]?=some i) (wz:f.pos<=2 ^ 41) (mG:i.args.length<=4096) (f':Fr) (ff:f' = { f with pos:=f.pos+1 }) (args:List SV) (eX:args=fZ f.vals i.args) (O1:List ak) (dH:O1=O.set f.bR (.cells (aW f'))) (jQ:i.op=14) (c:SV) (Ha:args[0]?=some c) (hk:c.kind=2) (LU:0<=c.n) (G:Func) (hG:u.fns[c.n.toNat]?=some G) (D:Block) (hD:G.blocks[0]?=some D) (Mk:D.params.length=args.length) (OG:∀v∈args,SV.bj O1.length v) {O':List ak} (hC:bd Tryz.prog 81 O1 [.mp 2 0,aI c.n,.aA 4 (args.map SV.enc) .sh,aI i.to] (fun r O2=>r=.cw []∧O2=O')) (hlen:O.length<=O'.length) (nu:∀o∈O',o.upto O'.length) (rp:O1[2]?=some (.cells (aB u m))) :
  bd Tryz.prog 83 O [.mp 2 0] (fun r O1=>r=.cw []∧O1=O'):=by
 have ga:=I hf;have eK:=I h0;have eE:=hf;unfold aW at eE;have lL:O[2]?=some (.cells [bc u.fns,aI u.main,.os m.sid (r.length+1) 1,aI m.left,.v (.bool m.short),.v (.bool m.over),.aA 1 (m.out.map aI) (.tok 3),aI m.fin,aI m.val]):=by
  rw[h0];unfold aB;rw[dG];rfl
 have tg:((r.length+1:Nat):Int)-1=(r.length:Nat):=by omega
 have IH:=I hi;have hs:=dk hf;have dY:O.length=O1.length:=by rw[dH];simp
 have lj:[aI f.fn,aI f.blk,aI ((f.pos:Int)+1),aI f.to,.mm f.dn]=aW f':=by
  rw[ff];simp[aW]
 have nC:O1[f'.bR]?=some (.cells (aW f')):=by rw[dH,ff];exact hs _
 have AU:O1[f'.dn]?=some (.map (.int .i64) (f'.vals.map gz)):=by rw[dH,ff];exact br hv tF
 have dT:∀o∈O1,o.upto O1.length:=by
  rw[<-dY,dH];refine bq bB hf fun h=>?_;simp only[aW,av,ae.upto,true_and,and_true]at h ⊢;rw[ff];exact h
 have gH:=jw dT nC AU (by rw[ff,<-dY];exact hu) i.args mG;have jP:f'.bR=f.bR:=by rw[ff]
 have nV:f'.vals=f.vals:=by rw[ff]
 rw[jP,nV,<-eX]at gH;rw[jP]at nC;unfold aB at rp;have hd:decide (c.kind=2)=true:=decide_eq_true hk;have oM:decide ((D.params.length:Int)=args.length)=true:=decide_eq_true (by omega);refine dj hT true (O'.length) Tryz.func83 rfl (by kernel_rfl) (by simp[Tryz.ntmps83]) (by assumption) ?_;show bX Tryz.prog _ _ _ ⟨137,_,_⟩;dsimp only[Tmp,TypeId,slotsOf];refine aQ ?_;simp -dsimp only[simprocAttr,↓aa,zp,lL,tg,Nat.mul_one,fo,fA]
 repeat(refine⟨by omega,?_⟩)
 refine⟨ob (by kernel_rfl),?_⟩;refine ai ?_;refine aQ ?_;simp -dsimp only[simprocAttr,↓aa,zp,lL,eE,hF,hB,pG]
 repeat(refine⟨by omega,?_⟩)
 refine⟨b7 [2,f.bR] O.length [.pure,.pure,.pure,.pure,.rd 0,.pure,.pure,.pure,.rd 1,.pure,.pure,.pure,.pure,.pure,.pure,.rd 1,.pure,.pure,.wr 2 [],.wr 3 [2]] (by simp;omega) (by simp;omega) rfl rfl (by kernel_rfl),a6 ?_⟩;simp -dsimp only[bI,ne_eq,Nat.reduceEqDiff,reduceCtorEq];refine aV 3 ([aJ B.params,a7 B.ins,aI B.term.kind,aI B.term.arg,aI B.term.n,aJ B.term.cases,aG B.term.to]) [(0,.mp 2 0),(2,.mp f.bR 0),(3,.ip none [aJ B.params,a7 B.ins,aI B.term.kind,aI B.term.arg,aI B.term.n,aJ B.term.cases,aG B.term.to])] rfl (by rfl) (by omega) (by simp[bw,a8,Go.Av.look]) ?_ ?_ ?_
 ·exact bB
 ·simp[ae.upto,av,ga,eK,ax,Edge.ag,Ins.ag]
 refine c7 ?_;simp -dsimp only[simprocAttr,↓aa,zp,eE];refine⟨ob (by kernel_rfl),?_⟩;refine ai ?_;apply aN rfl<;>intro h
 ·exact ab h (by omega)
 refine cj ?_;refine aQ ?_;simp -dsimp only[simprocAttr,↓aa,zp,eE,hi,Int.toNat_natCast]
 repeat(refine⟨by omega,?_⟩)
 refine⟨b7 [f.bR] O.length [.pure,.pure,.pure,.pure,.pure,.rd 0,.pure,.pure,.wr 1 [],.wr 2 [1]] (by simp) (by simp;omega) rfl rfl (by kernel_rfl),a6 ?_⟩;simp -dsimp only[bI,ne_eq,Nat.reduceEqDiff,reduceCtorEq];refine aV 4 ([aI i.to,aI i.op,aI i.n,aJ i.args]) [(0,.mp 2 0),(2,.mp f.bR 0),(4,.ip none [aI i.to,aI i.op,aI i.n,aJ i.args])] rfl (by rfl) (by omega) (by simp[bw,a8,Go.Av.look]) ?_ ?_ ?_
 ·exact bB
 ·simp[ae.upto,av,ga,eK,ax]
 refine aQ ?_;simp -dsimp only[simprocAttr,↓aa,zp,eE,hs,lj,<-dH]
 repeat(refine⟨by omega,?_⟩)
 refine ai ?_;refine ay ?_;refine .inr (.inr ⟨_,gH,ao (zj ?_)⟩);refine ai ?_;refine ay (ai ?_);refine ah ?_;refine ay (ai ?_);apply aN rfl<;>intro h
 ·exact ab h (by omega)
 refine ay (ai ?_);apply aN rfl<;>intro h
 ·refine aQ ?_;simp -dsimp only[simprocAttr,↓aa,zp,Ha];refine ai ?_;refine aV 6 [aI c.kind,aI c.n,.aA 4 (c.list.map SV.enc) .sh,eP c.arr] [(0,.mp 2 0),(2,.mp f.bR 0),(4,.ip none [aI i.to,aI i.op,aI i.n,aJ i.args]),(5,.aA 4 (args.map SV.enc) .sh),(6,.ip none [aI c.kind,aI c.n,.aA 4 (c.list.map SV.enc) .sh,eP c.arr])] rfl (by simp only[List.map_cons,List.map_nil,cD,bW,cf]) (by omega) (by simp[bw,a8,Go.Av.look]) dT ?_ ?_
  ·have tv:=(OG c (List.mem_of_getElem? Ha)).aO;rw[SV.fF]at tv;simp only[av,ae.upto,true_and,and_true]at tv;have Ou:=SV.ag OG;simp[ae.upto,av,<-dY,ga,eK,ax,tv,Ou];simp[dY,tv,Ou]
  refine aQ ?_;simp -dsimp only[simprocAttr,↓aa,zp,hd,rp,hG,hD,oM]
  repeat(refine⟨by omega,?_⟩)
  refine⟨ob (by kernel_rfl),?_⟩;refine ai ?_;refine cB rfl ?_;refine cM ?_;refine .inr (.inl ⟨_,_,hC,.inl (ao (zj ?_))⟩)
  (refine a6 ?_;simp -dsimp only[bI,ne_eq,Nat.reduceEqDiff,reduceCtorEq])
  skip
  simp -dsimp only[simprocAttr,↓aa,zp,zr,Tryz.results83,List.take_length];exact⟨nu,trivial⟩
 exact af h (by omega)
theorem wP{u:cd}{m:Mach}{O:List ak}(bB:∀o∈O,o.upto O.length)(h0:O[2]?=some (.cells (aB u m)))(f:Fr)(r:List Fr)(dG:m.frames=f::r)(hf:O[f.bR]?=some (.cells (aW f)))(uO:f.bR≠2)
  {cs:List ae} (fo:O[m.sid]?=some (.cells cs)) (fA:cs[r.length]?=some (.mp f.bR 0)) (xu:r.length<=2 ^ 40) (F:Func) (hF:u.fns[f.fn.toNat]?=some F) (qM:0<=f.fn) (B:Block) (hB:F.blocks[f.blk.toNat]?=some B) (pN:0<=f.blk) (hv:O[f.dn]?=some (.map (.int .i64) (f.vals.map gz))) (tF:f.bR≠f.dn) (hu:∀e∈f.vals,SV.bj O.length e.2) (i:Ins) (hi:B.ins[f.pos]?=some i) (wz:f.pos<=2 ^ 41) (mG:i.args.length<=4096) (f':Fr) (ff:f' = { f with pos:=f.pos+1 }) (args:List SV) (eX:args=fZ f.vals i.args) (O1:List ak) (dH:O1=O.set f.bR (.cells (aW f'))) (jQ:i.op=14) (c:SV) (Ha:args[0]?=some c) (hk:c.kind≠2) (OG:∀v∈args,SV.bj O1.length v) (rp:O1[2]?=some (.cells (aB u m))) :
  bd Tryz.prog 83 O [.mp 2 0] (fun r O2=>r=.cw []∧O2=O1.set 2 (.cells (aB u (m.stop 5 0)))):=by
 have ga:=I hf;have eK:=I h0;have eE:=hf;unfold aW at eE;have lL:O[2]?=some (.cells [bc u.fns,aI u.main,.os m.sid (r.length+1) 1,aI m.left,.v (.bool m.short),.v (.bool m.over),.aA 1 (m.out.map aI) (.tok 3),aI m.fin,aI m.val]):=by
  rw[h0];unfold aB;rw[dG];rfl
 have tg:((r.length+1:Nat):Int)-1=(r.length:Nat):=by omega
 have IH:=I hi;have hs:=dk hf;have dY:O.length=O1.length:=by rw[dH];simp
 have lj:[aI f.fn,aI f.blk,aI ((f.pos:Int)+1),aI f.to,.mm f.dn]=aW f':=by
  rw[ff];simp[aW]
 have nC:O1[f'.bR]?=some (.cells (aW f')):=by rw[dH,ff];exact hs _
 have AU:O1[f'.dn]?=some (.map (.int .i64) (f'.vals.map gz)):=by rw[dH,ff];exact br hv tF
 have dT:∀o∈O1,o.upto O1.length:=by
  rw[<-dY,dH];refine bq bB hf fun h=>?_;simp only[aW,av,ae.upto,true_and,and_true]at h ⊢;rw[ff];exact h
 have gH:=jw dT nC AU (by rw[ff,<-dY];exact hu) i.args mG;have jP:f'.bR=f.bR:=by rw[ff]
 have nV:f'.vals=f.vals:=by rw[ff]
 rw[jP,nV,<-eX]at gH;rw[jP]at nC;have gi:O.length<=O.length:=Nat.le_refl _;have jR:=ky dT rp 5 0;have fb:=bq dT rp (ds:=aB u (m.stop 5 0)) (fun h=>bS h rfl);have eo:=ct (O:=O1) (k:=2) (x:=.cells (aB u (m.stop 5 0)));unfold aB at rp;have hd:decide (c.kind=2)=false:=decide_eq_false hk;refine dj hT true (O.length) Tryz.func83 rfl (by kernel_rfl) (by simp[Tryz.ntmps83]) (by assumption) ?_;show bX Tryz.prog _ _ _ ⟨137,_,_⟩;dsimp only[Tmp,TypeId,slotsOf];refine aQ ?_;simp -dsimp only[simprocAttr,↓aa,zp,lL,tg,Nat.mul_one,fo,fA]
 repeat(refine⟨by omega,?_⟩)
 refine⟨ob (by kernel_rfl),?_⟩;refine ai ?_;refine aQ ?_;simp -dsimp only[simprocAttr,↓aa,zp,lL,eE,hF,hB,pG]
 repeat(refine⟨by omega,?_⟩)
 refine⟨b7 [2,f.bR] O.length [.pure,.pure,.pure,.pure,.rd 0,.pure,.pure,.pure,.rd 1,.pure,.pure,.pure,.pure,.pure,.pure,.rd 1,.pure,.pure,.wr 2 [],.wr 3 [2]] (by simp;omega) (by simp;omega) rfl rfl (by kernel_rfl),a6 ?_⟩;simp -dsimp only[bI,ne_eq,Nat.reduceEqDiff,reduceCtorEq];refine aV 3 ([aJ B.params,a7 B.ins,aI B.term.kind,aI B.term.arg,aI B.term.n,aJ B.term.cases,aG B.term.to]) [(0,.mp 2 0),(2,.mp f.bR 0),(3,.ip none [aJ B.params,a7 B.ins,aI B.term.kind,aI B.term.arg,aI B.term.n,aJ B.term.cases,aG B.term.to])] rfl (by rfl) (by omega) (by simp[bw,a8,Go.Av.look]) ?_ ?_ ?_
 ·exact bB
 ·simp[ae.upto,av,ga,eK,ax,Edge.ag,Ins.ag]
 refine c7 ?_;simp -dsimp only[simprocAttr,↓aa,zp,eE];refine⟨ob (by kernel_rfl),?_⟩;refine ai ?_;apply aN rfl<;>intro h
 ·exact ab h (by omega)
 refine cj ?_;refine aQ ?_;simp -dsimp only[simprocAttr,↓aa,zp,eE,hi,Int.toNat_natCast]
 repeat(refine⟨by omega,?_⟩)
 refine⟨b7 [f.bR] O.length [.pure,.pure,.pure,.pure,.pure,.rd 0,.pure,.pure,.wr 1 [],.wr 2 [1]] (by simp) (by simp;omega) rfl rfl (by kernel_rfl),a6 ?_⟩;simp -dsimp only[bI,ne_eq,Nat.reduceEqDiff,reduceCtorEq];refine aV 4 ([aI i.to,aI i.op,aI i.n,aJ i.args]) [(0,.mp 2 0),(2,.mp f.bR 0),(4,.ip none [aI i.to,aI i.op,aI i.n,aJ i.args])] rfl (by rfl) (by omega) (by simp[bw,a8,Go.Av.look]) ?_ ?_ ?_
 ·exact bB
 ·simp[ae.upto,av,ga,eK,ax]
 refine aQ ?_;simp -dsimp only[simprocAttr,↓aa,zp,eE,hs,lj,<-dH]
 repeat(refine⟨by omega,?_⟩)
 refine ai ?_;refine ay ?_;refine .inr (.inr ⟨_,gH,ao (zj ?_)⟩);refine ai ?_;refine ay (ai ?_);refine ah ?_;refine ay (ai ?_);apply aN rfl<;>intro h
 ·exact ab h (by omega)
 refine ay (ai ?_);apply aN rfl<;>intro h
 ·refine aQ ?_;simp -dsimp only[simprocAttr,↓aa,zp,Ha];refine ai ?_;refine aV 6 [aI c.kind,aI c.n,.aA 4 (c.list.map SV.enc) .sh,eP c.arr] [(0,.mp 2 0),(2,.mp f.bR 0),(4,.ip none [aI i.to,aI i.op,aI i.n,aJ i.args]),(5,.aA 4 (args.map SV.enc) .sh),(6,.ip none [aI c.kind,aI c.n,.aA 4 (c.list.map SV.enc) .sh,eP c.arr])] rfl (by simp only[List.map_cons,List.map_nil,cD,bW,cf]) (by omega) (by simp[bw,a8,Go.Av.look]) dT ?_ ?_
  ·have tv:=(OG c (List.mem_of_getElem? Ha)).aO;rw[SV.fF]at tv;simp only[av,ae.upto,true_and,and_true]at tv;have Ou:=SV.ag OG;simp[ae.upto,av,<-dY,ga,eK,ax,tv,Ou];simp[dY,tv,Ou]
  refine aQ ?_;simp -dsimp only[simprocAttr,↓aa,zp,hd]
  repeat(refine⟨by omega,?_⟩)
  refine⟨ob (by kernel_rfl),?_⟩;refine ai ?_;refine cv rfl ?_;refine cM ?_;refine .inr (.inl ⟨_,_,jR,.inl (ao ?_)⟩);simp -dsimp only[simprocAttr,↓aa,zp,dY]
  (refine a6 ?_;simp -dsimp only[bI,ne_eq,Nat.reduceEqDiff,reduceCtorEq])
  skip
  simp -dsimp only[simprocAttr,↓aa,zp,zr,Tryz.results83,eo,List.length_set,dY];exact⟨fb,trivial⟩
 exact af h (by omega)
theorem zg{u:cd}{m:Mach}{O:List ak}(bB:∀o∈O,o.upto O.length)(h0:O[2]?=some (.cells (aB u m)))(f:Fr)(r:List Fr)(dG:m.frames=f::r)(hf:O[f.bR]?=some (.cells (aW f)))(uO:f.bR≠2)
  {cs:List ae} (fo:O[m.sid]?=some (.cells cs)) (fA:cs[r.length]?=some (.mp f.bR 0)) (xu:r.length<=2 ^ 40) (F:Func) (hF:u.fns[f.fn.toNat]?=some F) (qM:0<=f.fn) (B:Block) (hB:F.blocks[f.blk.toNat]?=some B) (pN:0<=f.blk) (hv:O[f.dn]?=some (.map (.int .i64) (f.vals.map gz))) (tF:f.bR≠f.dn) (hu:∀e∈f.vals,SV.bj O.length e.2) (i:Ins) (hi:B.ins[f.pos]?=some i) (wz:f.pos<=2 ^ 41) (mG:i.args.length<=4096) (f':Fr) (ff:f' = { f with pos:=f.pos+1 }) (args:List SV) (eX:args=fZ f.vals i.args) (O1:List ak) (dH:O1=O.set f.bR (.cells (aW f'))) (jQ:i.op=14) (c:SV) (Ha:args[0]?=some c) (hk:c.kind=2) (LU:0<=c.n) (G:Func) (hG:u.fns[c.n.toNat]?=some G) (D:Block) (hD:G.blocks[0]?=some D) (Mk:D.params.length≠args.length) (OG:∀v∈args,SV.bj O1.length v) (rp:O1[2]?=some (.cells (aB u m))) :
  bd Tryz.prog 83 O [.mp 2 0] (fun r O2=>r=.cw []∧O2=O1.set 2 (.cells (aB u (m.stop 5 0)))):=by
 have ga:=I hf;have eK:=I h0;have eE:=hf;unfold aW at eE;have lL:O[2]?=some (.cells [bc u.fns,aI u.main,.os m.sid (r.length+1) 1,aI m.left,.v (.bool m.short),.v (.bool m.over),.aA 1 (m.out.map aI) (.tok 3),aI m.fin,aI m.val]):=by
  rw[h0];unfold aB;rw[dG];rfl
 have tg:((r.length+1:Nat):Int)-1=(r.length:Nat):=by omega
 have IH:=I hi;have hs:=dk hf;have dY:O.length=O1.length:=by rw[dH];simp
 have lj:[aI f.fn,aI f.blk,aI ((f.pos:Int)+1),aI f.to,.mm f.dn]=aW f':=by
  rw[ff];simp[aW]
 have nC:O1[f'.bR]?=some (.cells (aW f')):=by rw[dH,ff];exact hs _
 have AU:O1[f'.dn]?=some (.map (.int .i64) (f'.vals.map gz)):=by rw[dH,ff];exact br hv tF
 have dT:∀o∈O1,o.upto O1.length:=by
  rw[<-dY,dH];refine bq bB hf fun h=>?_;simp only[aW,av,ae.upto,true_and,and_true]at h ⊢;rw[ff];exact h
 have gH:=jw dT nC AU (by rw[ff,<-dY];exact hu) i.args mG;have jP:f'.bR=f.bR:=by rw[ff]
 have nV:f'.vals=f.vals:=by rw[ff]
 rw[jP,nV,<-eX]at gH;rw[jP]at nC;have gi:O.length<=O.length:=Nat.le_refl _;have jR:=ky dT rp 5 0;have fb:=bq dT rp (ds:=aB u (m.stop 5 0)) (fun h=>bS h rfl);have eo:=ct (O:=O1) (k:=2) (x:=.cells (aB u (m.stop 5 0)));unfold aB at rp;have hd:decide (c.kind=2)=true:=decide_eq_true hk;have oM:decide ((D.params.length:Int)=args.length)=false:=decide_eq_false (by omega);refine dj hT true (O.length) Tryz.func83 rfl (by kernel_rfl) (by simp[Tryz.ntmps83]) (by assumption) ?_;show bX Tryz.prog _ _ _ ⟨137,_,_⟩;dsimp only[Tmp,TypeId,slotsOf];refine aQ ?_;simp -dsimp only[simprocAttr,↓aa,zp,lL,tg,Nat.mul_one,fo,fA]
 repeat(refine⟨by omega,?_⟩)
 refine⟨ob (by kernel_rfl),?_⟩;refine ai ?_;refine aQ ?_;simp -dsimp only[simprocAttr,↓aa,zp,lL,eE,hF,hB,pG]
 repeat(refine⟨by omega,?_⟩)
 refine⟨b7 [2,f.bR] O.length [.pure,.pure,.pure,.pure,.rd 0,.pure,.pure,.pure,.rd 1,.pure,.pure,.pure,.pure,.pure,.pure,.rd 1,.pure,.pure,.wr 2 [],.wr 3 [2]] (by simp;omega) (by simp;omega) rfl rfl (by kernel_rfl),a6 ?_⟩;simp -dsimp only[bI,ne_eq,Nat.reduceEqDiff,reduceCtorEq];refine aV 3 ([aJ B.params,a7 B.ins,aI B.term.kind,aI B.term.arg,aI B.term.n,aJ B.term.cases,aG B.term.to]) [(0,.mp 2 0),(2,.mp f.bR 0),(3,.ip none [aJ B.params,a7 B.ins,aI B.term.kind,aI B.term.arg,aI B.term.n,aJ B.term.cases,aG B.term.to])] rfl (by rfl) (by omega) (by simp[bw,a8,Go.Av.look]) ?_ ?_ ?_
 ·exact bB
 ·simp[ae.upto,av,ga,eK,ax,Edge.ag,Ins.ag]
 refine c7 ?_;simp -dsimp only[simprocAttr,↓aa,zp,eE];refine⟨ob (by kernel_rfl),?_⟩;refine ai ?_;apply aN rfl<;>intro h
 ·exact ab h (by omega)
 refine cj ?_;refine aQ ?_;simp -dsimp only[simprocAttr,↓aa,zp,eE,hi,Int.toNat_natCast]
 repeat(refine⟨by omega,?_⟩)
 refine⟨b7 [f.bR] O.length [.pure,.pure,.pure,.pure,.pure,.rd 0,.pure,.pure,.wr 1 [],.wr 2 [1]] (by simp) (by simp;omega) rfl rfl (by kernel_rfl),a6 ?_⟩;simp -dsimp only[bI,ne_eq,Nat.reduceEqDiff,reduceCtorEq];refine aV 4 ([aI i.to,aI i.op,aI i.n,aJ i.args]) [(0,.mp 2 0),(2,.mp f.bR 0),(4,.ip none [aI i.to,aI i.op,aI i.n,aJ i.args])] rfl (by rfl) (by omega) (by simp[bw,a8,Go.Av.look]) ?_ ?_ ?_
 ·exact bB
 ·simp[ae.upto,av,ga,eK,ax]
 refine aQ ?_;simp -dsimp only[simprocAttr,↓aa,zp,eE,hs,lj,<-dH]
 repeat(refine⟨by omega,?_⟩)
 refine ai ?_;refine ay ?_;refine .inr (.inr ⟨_,gH,ao (zj ?_)⟩);refine ai ?_;refine ay (ai ?_);refine ah ?_;refine ay (ai ?_);apply aN rfl<;>intro h
 ·exact ab h (by omega)
 refine ay (ai ?_);apply aN rfl<;>intro h
 ·refine aQ ?_;simp -dsimp only[simprocAttr,↓aa,zp,Ha];refine ai ?_;refine aV 6 [aI c.kind,aI c.n,.aA 4 (c.list.map SV.enc) .sh,eP c.arr] [(0,.mp 2 0),(2,.mp f.bR 0),(4,.ip none [aI i.to,aI i.op,aI i.n,aJ i.args]),(5,.aA 4 (args.map SV.enc) .sh),(6,.ip none [aI c.kind,aI c.n,.aA 4 (c.list.map SV.enc) .sh,eP c.arr])] rfl (by simp only[List.map_cons,List.map_nil,cD,bW,cf]) (by omega) (by simp[bw,a8,Go.Av.look]) dT ?_ ?_
  ·have tv:=(OG c (List.mem_of_getElem? Ha)).aO;rw[SV.fF]at tv;simp only[av,ae.upto,true_and,and_true]at tv;have Ou:=SV.ag OG;simp[ae.upto,av,<-dY,ga,eK,ax,tv,Ou];simp[dY,tv,Ou]
  refine aQ ?_;simp -dsimp only[simprocAttr,↓aa,zp,hd,rp,hG,hD,oM]
  repeat(refine⟨by omega,?_⟩)
  refine⟨ob (by kernel_rfl),?_⟩;refine ai ?_;refine cv rfl ?_;refine cM ?_;refine .inr (.inl ⟨_,_,jR,.inl (ao ?_)⟩);simp -dsimp only[simprocAttr,↓aa,zp,dY]
  (refine a6 ?_;simp -dsimp only[bI,ne_eq,Nat.reduceEqDiff,reduceCtorEq])
  skip
  simp -dsimp only[simprocAttr,↓aa,zp,zr,Tryz.results83,eo,List.length_set,dY];exact⟨fb,trivial⟩
 exact af h (by omega)
theorem GS{u:cd}{m:Mach}{O:List ak}(bB:∀o∈O,o.upto O.length)(h0:O[2]?=some (.cells (aB u m)))(f:Fr)(r:List Fr)(dG:m.frames=f::r)(hf:O[f.bR]?=some (.cells (aW f)))(uO:f.bR≠2)
  {cs:List ae} (fo:O[m.sid]?=some (.cells cs)) (fA:cs[r.length]?=some (.mp f.bR 0)) (xu:r.length<=2 ^ 40) (F:Func) (hF:u.fns[f.fn.toNat]?=some F) (qM:0<=f.fn) (B:Block) (hB:F.blocks[f.blk.toNat]?=some B) (pN:0<=f.blk) (hv:O[f.dn]?=some (.map (.int .i64) (f.vals.map gz))) (tF:f.bR≠f.dn) (hu:∀e∈f.vals,SV.bj O.length e.2) (i:Ins) (hi:B.ins[f.pos]?=some i) (wz:f.pos<=2 ^ 41) (mG:i.args.length<=4096) (f':Fr) (ff:f' = { f with pos:=f.pos+1 }) (args:List SV) (eX:args=fZ f.vals i.args) (O1:List ak) (dH:O1=O.set f.bR (.cells (aW f'))) (jQ:i.op≠13∧i.op≠14) {O2:List ak} (v:SV) (t:Int) (hC:bd Tryz.prog 115 O1 [.mp 2 0,i.enc,.aA 4 (args.map SV.enc) .sh] (fun r O3=>r=.cw [v.enc,aI t]∧O3=O2)) (hlen:O.length<=O2.length) (fb:∀o∈O2,o.upto O2.length) (pQ:SV.bj O2.length v) (m2:Mach) (RP:O2[2]?=some (.cells (aB u m2)))
  (IC:O2[f.bR]?=some (.cells (aW f'))) (TC:O2[f.dn]?=some (.map (.int .i64) (f.vals.map gz))) (wD:∀e∈f.vals,SV.bj O2.length e.2) (XQ:f.dn≠2) (ht:t=0) :
  bd Tryz.prog 83 O [.mp 2 0] (fun r O3=>r=.cw []∧O3=O2.set f.dn (.map (.int .i64) ((eT f.vals i.to v).map gz))):=by
 have ga:=I hf;have eK:=I h0;have eE:=hf;unfold aW at eE;have lL:O[2]?=some (.cells [bc u.fns,aI u.main,.os m.sid (r.length+1) 1,aI m.left,.v (.bool m.short),.v (.bool m.over),.aA 1 (m.out.map aI) (.tok 3),aI m.fin,aI m.val]):=by
  rw[h0];unfold aB;rw[dG];rfl
 have tg:((r.length+1:Nat):Int)-1=(r.length:Nat):=by omega
 have IH:=I hi;have hs:=dk hf;have dY:O.length=O1.length:=by rw[dH];simp
 have lj:[aI f.fn,aI f.blk,aI ((f.pos:Int)+1),aI f.to,.mm f.dn]=aW f':=by
  rw[ff];simp[aW]
 have nC:O1[f'.bR]?=some (.cells (aW f')):=by rw[dH,ff];exact hs _
 have AU:O1[f'.dn]?=some (.map (.int .i64) (f'.vals.map gz)):=by rw[dH,ff];exact br hv tF
 have dT:∀o∈O1,o.upto O1.length:=by
  rw[<-dY,dH];refine bq bB hf fun h=>?_;simp only[aW,av,ae.upto,true_and,and_true]at h ⊢;rw[ff];exact h
 have gH:=jw dT nC AU (by rw[ff,<-dY];exact hu) i.args mG;have jP:f'.bR=f.bR:=by rw[ff]
 have nV:f'.vals=f.vals:=by rw[ff]
 rw[jP,nV,<-eX]at gH;rw[jP]at nC;have PS:=I IC;have P5:=I RP;have Mp:=pQ.aO;rw[SV.fF]at Mp;simp only[av,ae.upto,true_and,and_true]at Mp;have hd:decide (t=0)=true:=decide_eq_true ht;have SC:aW f'=[aI f.fn,aI f.blk,aI ((f.pos:Int)+1),aI f.to,.mm f.dn]:=lj.symm;have IM:kW O2.length ((eT f.vals i.to v).map gz):=Al fun x hx=>by
  rcases js hx with q|q
  ·exact wD x q
  rw[q];exact pQ
 rw[SC]at IC;have AS:=bt (k:=f.dn) (x:=.map (.int .i64) ((eT f.vals i.to v).map gz)) fb IM;have eo:=ct (O:=O2) (k:=f.dn) (x:=.map (.int .i64) ((eT f.vals i.to v).map gz));refine dj hT true (O2.length) Tryz.func83 rfl (by kernel_rfl) (by simp[Tryz.ntmps83]) (by assumption) ?_;show bX Tryz.prog _ _ _ ⟨137,_,_⟩;dsimp only[Tmp,TypeId,slotsOf];refine aQ ?_;simp -dsimp only[simprocAttr,↓aa,zp,lL,tg,Nat.mul_one,fo,fA]
 repeat(refine⟨by omega,?_⟩)
 refine⟨ob (by kernel_rfl),?_⟩;refine ai ?_;refine aQ ?_;simp -dsimp only[simprocAttr,↓aa,zp,lL,eE,hF,hB,pG]
 repeat(refine⟨by omega,?_⟩)
 refine⟨b7 [2,f.bR] O.length [.pure,.pure,.pure,.pure,.rd 0,.pure,.pure,.pure,.rd 1,.pure,.pure,.pure,.pure,.pure,.pure,.rd 1,.pure,.pure,.wr 2 [],.wr 3 [2]] (by simp;omega) (by simp;omega) rfl rfl (by kernel_rfl),a6 ?_⟩;simp -dsimp only[bI,ne_eq,Nat.reduceEqDiff,reduceCtorEq];refine aV 3 ([aJ B.params,a7 B.ins,aI B.term.kind,aI B.term.arg,aI B.term.n,aJ B.term.cases,aG B.term.to]) [(0,.mp 2 0),(2,.mp f.bR 0),(3,.ip none [aJ B.params,a7 B.ins,aI B.term.kind,aI B.term.arg,aI B.term.n,aJ B.term.cases,aG B.term.to])] rfl (by rfl) (by omega) (by simp[bw,a8,Go.Av.look]) ?_ ?_ ?_
 ·exact bB
 ·simp[ae.upto,av,ga,eK,ax,Edge.ag,Ins.ag]
 refine c7 ?_;simp -dsimp only[simprocAttr,↓aa,zp,eE];refine⟨ob (by kernel_rfl),?_⟩;refine ai ?_;apply aN rfl<;>intro h
 ·exact ab h (by omega)
 refine cj ?_;refine aQ ?_;simp -dsimp only[simprocAttr,↓aa,zp,eE,hi,Int.toNat_natCast]
 repeat(refine⟨by omega,?_⟩)
 refine⟨b7 [f.bR] O.length [.pure,.pure,.pure,.pure,.pure,.rd 0,.pure,.pure,.wr 1 [],.wr 2 [1]] (by simp) (by simp;omega) rfl rfl (by kernel_rfl),a6 ?_⟩;simp -dsimp only[bI,ne_eq,Nat.reduceEqDiff,reduceCtorEq];refine aV 4 ([aI i.to,aI i.op,aI i.n,aJ i.args]) [(0,.mp 2 0),(2,.mp f.bR 0),(4,.ip none [aI i.to,aI i.op,aI i.n,aJ i.args])] rfl (by rfl) (by omega) (by simp[bw,a8,Go.Av.look]) ?_ ?_ ?_
 ·exact bB
 ·simp[ae.upto,av,ga,eK,ax]
 refine aQ ?_;simp -dsimp only[simprocAttr,↓aa,zp,eE,hs,lj,<-dH]
 repeat(refine⟨by omega,?_⟩)
 refine ai ?_;refine ay ?_;refine .inr (.inr ⟨_,gH,ao (zj ?_)⟩);refine ai ?_;refine ay (ai ?_);refine ah ?_;refine ay (ai ?_);apply aN rfl<;>intro h
 ·exact ab h (by omega)
 refine ay (ai ?_);apply aN rfl<;>intro h
 ·exact ab h (by omega)
 refine ay ?_;refine .inr (.inl ⟨_,_,hC,.inl (ao (zj ?_))⟩);refine ai ?_;refine aV 7 [aI v.kind,aI v.n,.aA 4 (v.list.map SV.enc) .sh,eP v.arr] [(0,.mp 2 0),(2,.mp f.bR 0),(4,.ip none [aI i.to,aI i.op,aI i.n,aJ i.args]),(7,.ip none [aI v.kind,aI v.n,.aA 4 (v.list.map SV.enc) .sh,eP v.arr]),(8,aI t)] rfl (by simp only[List.map_cons,List.map_nil,cD,bW,cf]) (by omega) (by simp[bw,a8,Go.Av.look]) fb ?_ ?_
 ·simp[ae.upto,av,PS,P5,ax,Mp]
 refine c7 ?_;simp -dsimp only[simprocAttr,↓aa,zp,hd];refine ai ?_;refine cv rfl ?_;refine cj ?_;refine jX ?_;simp -dsimp only[simprocAttr,↓aa,zp,IC,TC,qU];refine⟨ob (by kernel_rfl),?_⟩
 (refine a6 ?_;simp -dsimp only[bI,ne_eq,Nat.reduceEqDiff,reduceCtorEq])
 skip
 simp -dsimp only[simprocAttr,↓aa,zp,zr,Tryz.results83,eo,List.length_set];exact⟨AS,trivial⟩
theorem GV{u:cd}{m:Mach}{O:List ak}(bB:∀o∈O,o.upto O.length)(h0:O[2]?=some (.cells (aB u m)))(f:Fr)(r:List Fr)(dG:m.frames=f::r)(hf:O[f.bR]?=some (.cells (aW f)))(uO:f.bR≠2)
  {cs:List ae} (fo:O[m.sid]?=some (.cells cs)) (fA:cs[r.length]?=some (.mp f.bR 0)) (xu:r.length<=2 ^ 40) (F:Func) (hF:u.fns[f.fn.toNat]?=some F) (qM:0<=f.fn) (B:Block) (hB:F.blocks[f.blk.toNat]?=some B) (pN:0<=f.blk) (hv:O[f.dn]?=some (.map (.int .i64) (f.vals.map gz))) (tF:f.bR≠f.dn) (hu:∀e∈f.vals,SV.bj O.length e.2) (i:Ins) (hi:B.ins[f.pos]?=some i) (wz:f.pos<=2 ^ 41) (mG:i.args.length<=4096) (f':Fr) (ff:f' = { f with pos:=f.pos+1 }) (args:List SV) (eX:args=fZ f.vals i.args) (O1:List ak) (dH:O1=O.set f.bR (.cells (aW f'))) (jQ:i.op≠13∧i.op≠14) {O2:List ak} (v:SV) (t:Int) (hC:bd Tryz.prog 115 O1 [.mp 2 0,i.enc,.aA 4 (args.map SV.enc) .sh] (fun r O3=>r=.cw [v.enc,aI t]∧O3=O2)) (hlen:O.length<=O2.length) (fb:∀o∈O2,o.upto O2.length) (pQ:SV.bj O2.length v) (m2:Mach) (RP:O2[2]?=some (.cells (aB u m2)))
  (IC:O2[f.bR]?=some (.cells (aW f'))) (TC:O2[f.dn]?=some (.map (.int .i64) (f.vals.map gz))) (wD:∀e∈f.vals,SV.bj O2.length e.2) (XQ:f.dn≠2) (ht:t≠0) :
  bd Tryz.prog 83 O [.mp 2 0] (fun r O3=>r=.cw []∧O3=(O2.set 2 (.cells (aB u (m2.stop t 0)))).set f.dn (.map (.int .i64) ((eT f.vals i.to v).map gz))):=by
 have ga:=I hf;have eK:=I h0;have eE:=hf;unfold aW at eE;have lL:O[2]?=some (.cells [bc u.fns,aI u.main,.os m.sid (r.length+1) 1,aI m.left,.v (.bool m.short),.v (.bool m.over),.aA 1 (m.out.map aI) (.tok 3),aI m.fin,aI m.val]):=by
  rw[h0];unfold aB;rw[dG];rfl
 have tg:((r.length+1:Nat):Int)-1=(r.length:Nat):=by omega
 have IH:=I hi;have hs:=dk hf;have dY:O.length=O1.length:=by rw[dH];simp
 have lj:[aI f.fn,aI f.blk,aI ((f.pos:Int)+1),aI f.to,.mm f.dn]=aW f':=by
  rw[ff];simp[aW]
 have nC:O1[f'.bR]?=some (.cells (aW f')):=by rw[dH,ff];exact hs _
 have AU:O1[f'.dn]?=some (.map (.int .i64) (f'.vals.map gz)):=by rw[dH,ff];exact br hv tF
 have dT:∀o∈O1,o.upto O1.length:=by
  rw[<-dY,dH];refine bq bB hf fun h=>?_;simp only[aW,av,ae.upto,true_and,and_true]at h ⊢;rw[ff];exact h
 have gH:=jw dT nC AU (by rw[ff,<-dY];exact hu) i.args mG;have jP:f'.bR=f.bR:=by rw[ff]
 have nV:f'.vals=f.vals:=by rw[ff]
 rw[jP,nV,<-eX]at gH;rw[jP]at nC;have PS:=I IC;have P5:=I RP;have Mp:=pQ.aO;rw[SV.fF]at Mp;simp only[av,ae.upto,true_and,and_true]at Mp;have hd:decide (t=0)=false:=decide_eq_false ht;have SC:aW f'=[aI f.fn,aI f.blk,aI ((f.pos:Int)+1),aI f.to,.mm f.dn]:=lj.symm;have IM:kW O2.length ((eT f.vals i.to v).map gz):=Al fun x hx=>by
  rcases js hx with q|q
  ·exact wD x q
  rw[q];exact pQ
 have jR:=ky fb RP t 0;obtain⟨O3,RX⟩:∃O3,O3=O2.set 2 (.cells (aB u (m2.stop t 0))):=⟨_,rfl⟩
 have On:O2.length=O3.length:=by rw[RX];simp
 rw[<-RX]at jR ⊢;have Xa:O3[f.bR]?=some (.cells (aW f')):=by rw[RX];exact br IC uO.symm
 have Zz:O3[f.dn]?=some (.map (.int .i64) (f.vals.map gz)):=by rw[RX];exact br TC XQ.symm
 rw[SC]at Xa;have AS:∀o∈O3.set f.dn (.map (.int .i64) ((eT f.vals i.to v).map gz)),o.upto O3.length:=by
  rw[<-On];refine bt ?_ IM;rw[RX];exact bq fb RP (fun h=>bS h rfl)
 have eo:=ct (O:=O3) (k:=f.dn) (x:=.map (.int .i64) ((eT f.vals i.to v).map gz));refine dj hT true (O2.length) Tryz.func83 rfl (by kernel_rfl) (by simp[Tryz.ntmps83]) (by assumption) ?_;show bX Tryz.prog _ _ _ ⟨137,_,_⟩;dsimp only[Tmp,TypeId,slotsOf];refine aQ ?_;simp -dsimp only[simprocAttr,↓aa,zp,lL,tg,Nat.mul_one,fo,fA]
 repeat(refine⟨by omega,?_⟩)
 refine⟨ob (by kernel_rfl),?_⟩;refine ai ?_;refine aQ ?_;simp -dsimp only[simprocAttr,↓aa,zp,lL,eE,hF,hB,pG]
 repeat(refine⟨by omega,?_⟩)
 refine⟨b7 [2,f.bR] O.length [.pure,.pure,.pure,.pure,.rd 0,.pure,.pure,.pure,.rd 1,.pure,.pure,.pure,.pure,.pure,.pure,.rd 1,.pure,.pure,.wr 2 [],.wr 3 [2]] (by simp;omega) (by simp;omega) rfl rfl (by kernel_rfl),a6 ?_⟩;simp -dsimp only[bI,ne_eq,Nat.reduceEqDiff,reduceCtorEq];refine aV 3 ([aJ B.params,a7 B.ins,aI B.term.kind,aI B.term.arg,aI B.term.n,aJ B.term.cases,aG B.term.to]) [(0,.mp 2 0),(2,.mp f.bR 0),(3,.ip none [aJ B.params,a7 B.ins,aI B.term.kind,aI B.term.arg,aI B.term.n,aJ B.term.cases,aG B.term.to])] rfl (by rfl) (by omega) (by simp[bw,a8,Go.Av.look]) ?_ ?_ ?_
 ·exact bB
 ·simp[ae.upto,av,ga,eK,ax,Edge.ag,Ins.ag]
 refine c7 ?_;simp -dsimp only[simprocAttr,↓aa,zp,eE];refine⟨ob (by kernel_rfl),?_⟩;refine ai ?_;apply aN rfl<;>intro h
 ·exact ab h (by omega)
 refine cj ?_;refine aQ ?_;simp -dsimp only[simprocAttr,↓aa,zp,eE,hi,Int.toNat_natCast]
 repeat(refine⟨by omega,?_⟩)
 refine⟨b7 [f.bR] O.length [.pure,.pure,.pure,.pure,.pure,.rd 0,.pure,.pure,.wr 1 [],.wr 2 [1]] (by simp) (by simp;omega) rfl rfl (by kernel_rfl),a6 ?_⟩;simp -dsimp only[bI,ne_eq,Nat.reduceEqDiff,reduceCtorEq];refine aV 4 ([aI i.to,aI i.op,aI i.n,aJ i.args]) [(0,.mp 2 0),(2,.mp f.bR 0),(4,.ip none [aI i.to,aI i.op,aI i.n,aJ i.args])] rfl (by rfl) (by omega) (by simp[bw,a8,Go.Av.look]) ?_ ?_ ?_
 ·exact bB
 ·simp[ae.upto,av,ga,eK,ax]
 refine aQ ?_;simp -dsimp only[simprocAttr,↓aa,zp,eE,hs,lj,<-dH]
 repeat(refine⟨by omega,?_⟩)
 refine ai ?_;refine ay ?_;refine .inr (.inr ⟨_,gH,ao (zj ?_)⟩);refine ai ?_;refine ay (ai ?_);refine ah ?_;refine ay (ai ?_);apply aN rfl<;>intro h
 ·exact ab h (by omega)
 refine ay (ai ?_);apply aN rfl<;>intro h
 ·exact ab h (by omega)
 refine ay ?_;refine .inr (.inl ⟨_,_,hC,.inl (ao (zj ?_))⟩);refine ai ?_;refine aV 7 [aI v.kind,aI v.n,.aA 4 (v.list.map SV.enc) .sh,eP v.arr] [(0,.mp 2 0),(2,.mp f.bR 0),(4,.ip none [aI i.to,aI i.op,aI i.n,aJ i.args]),(7,.ip none [aI v.kind,aI v.n,.aA 4 (v.list.map SV.enc) .sh,eP v.arr]),(8,aI t)] rfl (by simp only[List.map_cons,List.map_nil,cD,bW,cf]) (by omega) (by simp[bw,a8,Go.Av.look]) fb ?_ ?_
 ·simp[ae.upto,av,PS,P5,ax,Mp]
 refine c7 ?_;simp -dsimp only[simprocAttr,↓aa,zp,hd];refine ai ?_;refine cB rfl ?_;refine cM ?_;refine .inr (.inl ⟨_,_,jR,.inl (ao (zj ?_))⟩);refine ai ?_;refine jX ?_;simp -dsimp only[simprocAttr,↓aa,zp,Xa,Zz,qU];refine⟨ob (by kernel_rfl),?_⟩
 (refine a6 ?_;simp -dsimp only[bI,ne_eq,Nat.reduceEqDiff,reduceCtorEq])
 skip
 simp -dsimp only[simprocAttr,↓aa,zp,zr,Tryz.results83,On,eo,List.length_set];exact⟨AS,trivial⟩
end Go.Proofs.YtjdnhamngpafmaaGreat
namespace Go.Proofs.YtjdnhamngpafmaaGreat
open Go.Av
def Holds(L:List (Nat×ak))(O:List ak):Prop:=∀p∈L,O[p.1]?=some p.2
def ed(L:List (Nat×ak)):List Nat:=L.map Prod.fst
theorem dU(A B:List (Nat×ak)):ed (A++B)=ed A++ed B:=by simp[ed]
theorem jo(p:Nat×ak)(B:List (Nat×ak)):ed (p::B)=p.1::ed B:=rfl
theorem gD{L:List (Nat×ak)}{p:Nat×ak}(h:p∈L):p.1∈ed L:=List.mem_map.2 ⟨p,h,rfl⟩
theorem gB{A B:List (Nat×ak)}{id:Nat}{y x:ak}{O:List ak}(h:Holds (A++(id,y)::B) O)(hn:(ed (A++(id,y)::B)).Nodup):Holds (A++(id,x)::B) (O.set id x):=by
 rw[dU,jo,List.nodup_append]at hn;obtain⟨_,hB,X6⟩:=hn;rw[List.nodup_cons]at hB;intro p hp;rcases List.mem_append.1 hp with q|q
 ·have cq:id≠p.1:=fun e=>X6 p.1 (gD q) id List.mem_cons_self e.symm;exact br (h p (by simp[q])) cq
 rcases List.mem_cons.1 q with rfl|q
 ·exact nF (h (id,y) (by simp))
 have cq:id≠p.1:=fun e=>hB.1 (by
  show id∈ed B;rw[e];exact gD q)
 exact br (h p (by simp[q])) cq
theorem jq(A B:List (Nat×ak))(id:Nat)(y x:ak):ed (A++(id,y)::B)=ed (A++(id,x)::B):=by simp[ed]
theorem Holds.sub{L M:List (Nat×ak)}{O:List ak}(h:Holds L O)(hs:∀p∈M,p∈L):Holds M O:=fun p hp=>h p (hs p hp)
theorem Holds.lt{L:List (Nat×ak)}{O:List ak}(h:Holds L O):∀k∈ed L,k<O.length:=fun k hk=>by
 obtain⟨p,hp,rfl⟩:=List.mem_map.1 hk;exact I (h p hp)
def me:List Fr->List (Nat×ak)
 | []=>[]
 | f::r=>(f.bR,.cells (aW f))::(f.dn,.map (.int .i64) (f.vals.map gz))::me r
def dC:List B2->List (Nat×ak)
 | []=>[]
 | a::r=>(a.lr,.cells [.ms a.dO 0 a.l.length a.l.length])::(a.dO,.cells (an (a.l.map SV.enc)))::dC r
theorem pB(A B:List B2):dC (A++B)=dC A++dC B:=by
 induction A with
 | nil=>rfl
 | cons a r ih=>simp[dC,ih]
def bY(u:cd)(m:Mach)(rest:List ae):List (Nat×ak) :=
 (1,.cells [.aA 1 [] .ex,aI 0,aI 0])::(2,.cells (aB u m))::(3,.spare m.out.length)::(m.sid,.cells (eL m.frames++rest))::(me m.frames++dC m.heap)
structure Tl(u:cd)(m:Mach)(rest:List ae)(O:List ak):Prop where
 len:O.length=m.next
 upto:∀o∈O,o.upto O.length
 holds:Holds (bY u m rest) O
 nodup:(ed (bY u m rest)).Nodup
namespace Tl
variable {u:cd} {m:Mach} {rest:List ae} {O:List ak}
theorem gd(h:Tl u m rest O):O[2]?=some (.cells (aB u m)):=h.holds (2,_) (by simp[bY])
theorem outs(h:Tl u m rest O):O[3]?=some (.spare m.out.length):=h.holds (3,_) (by simp[bY])
theorem stack(h:Tl u m rest O):O[m.sid]?=some (.cells (eL m.frames++rest)):=h.holds (m.sid,_) (by simp[bY])
theorem oK{l:List Fr}{f:Fr}(hf:f∈l):(f.bR,ak.cells (aW f))∈me l∧(f.dn,ak.map (.int .i64) (f.vals.map gz))∈me l:=by
 induction l with
 | nil=>simp at hf
 | cons g r ih =>
  rcases List.mem_cons.1 hf with rfl|hf
  ·simp[me]
  simp[me,ih hf]
theorem yc{l:List B2}{a:B2}(ha:a∈l):(a.lr,ak.cells [.ms a.dO 0 a.l.length a.l.length])∈dC l∧(a.dO,ak.cells (an (a.l.map SV.enc)))∈dC l:=by
 induction l with
 | nil=>simp at ha
 | cons g r ih =>
  rcases List.mem_cons.1 ha with rfl|ha
  ·simp[dC]
  simp[dC,ih ha]
theorem frame(h:Tl u m rest O){f:Fr}(hf:f∈m.frames):O[f.bR]?=some (.cells (aW f))∧O[f.dn]?=some (.map (.int .i64) (f.vals.map gz)) :=
 ⟨h.holds (f.bR,_) (by simp[bY,oK hf]),h.holds (f.dn,_) (by simp[bY,oK hf])⟩
theorem arr(h:Tl u m rest O){a:B2}(ha:a∈m.heap):O[a.lr]?=some (.cells [.ms a.dO 0 a.l.length a.l.length])∧O[a.dO]?=some (.cells (an (a.l.map SV.enc))) :=
 ⟨h.holds (a.lr,_) (by simp[bY,yc ha]),h.holds (a.dO,_) (by simp[bY,yc ha])⟩
theorem under(h:Tl u m rest O){v:SV}(hv:fX u m v):SV.bj O.length v :=
 SV.Wf.under (fun id ⟨a,ha,e⟩=>by
  rw[<-e];exact I (h.arr ha).1) hv
theorem oX(h:Tl u m rest O)(m':Mach)(h1:m'.sid=m.sid)(h2:m'.frames=m.frames)(h3:m'.heap=m.heap)(h4:m'.out.length=m.out.length)(h5:m'.next=m.next):Tl u m' rest (O.set 2 (.cells (aB u m'))):=by
 have e:bY u m' rest=[(1,.cells [.aA 1 [] .ex,aI 0,aI 0])]++(2,.cells (aB u m'))::((3,.spare m.out.length)::(m.sid,.cells (eL m.frames++rest))::(me m.frames++dC m.heap)):=by
  simp[bY,h1,h2,h3,h4]
 refine⟨by simp[h.len,h5],?_,?_,?_⟩
 ·rw[List.length_set];exact bq h.upto h.gd (fun q=>bS q h1)
 ·rw[e];exact gB (A:=[_]) (y:=.cells (aB u m)) h.holds h.nodup
 rw[e,<-jq _ _ _ (.cells (aB u m))];exact h.nodup
theorem Qr(h:Tl u m rest O)(m':Mach)(h1:m'.sid=m.sid)(h2:m'.frames=m.frames)(h3:m'.heap=m.heap)(h5:m'.next=m.next):Tl u m' rest ((O.set 3 (.spare m'.out.length)).set 2 (.cells (aB u m'))):=by
 have e:bY u m' rest=[(1,.cells [.aA 1 [] .ex,aI 0,aI 0])]++(2,.cells (aB u m'))::((3,.spare m'.out.length)::(m.sid,.cells (eL m.frames++rest))::(me m.frames++dC m.heap)):=by
  simp[bY,h1,h2,h3]
 have hs:=gB (A:=[(1,.cells [.aA 1 [] .ex,aI 0,aI 0]),(2,.cells (aB u m))]) (x:=.spare m'.out.length) (y:=.spare m.out.length) h.holds h.nodup;have hk:=jq [(1,.cells [.aA 1 [] .ex,aI 0,aI 0]),(2,.cells (aB u m))] ((m.sid,.cells (eL m.frames++rest))::(me m.frames++dC m.heap)) 3 (.spare m.out.length) (.spare m'.out.length);have hn:(ed ([(1,.cells [.aA 1 [] .ex,aI 0,aI 0]),(2,.cells (aB u m))]++(3,.spare m'.out.length)::((m.sid,.cells (eL m.frames++rest))::(me m.frames++dC m.heap)))).Nodup:=by
  rw[<-hk];exact h.nodup
 refine⟨by simp[h.len,h5],?_,?_,?_⟩
 ·rw[List.length_set,List.length_set];exact bq (bt h.upto trivial) (br h.gd (by omega)) (fun q=>bS q h1)
 ·rw[e];exact gB (A:=[_]) (y:=.cells (aB u m)) hs hn
 rw[e,<-jq _ _ _ (.cells (aB u m))];exact hn
theorem bP(h:Tl u m rest O){f f':Fr}{r:List Fr}(dG:m.frames=f::r)(h1:f'.bR=f.bR)(h2:f'.dn=f.dn)(h3:f'.vals=f.vals):Tl u (m.bP f') rest (O.set f.bR (.cells (aW f'))):=by
 have hm:aB u (m.bP f')=aB u m:=by simp[aB,Mach.bP,dG]
 have hp:eL (f'::r)=eL (f::r):=by simp[eL,h1]
 have e:bY u (m.bP f') rest=[(1,.cells [.aA 1 [] .ex,aI 0,aI 0]),(2,.cells (aB u m)),(3,.spare m.out.length),(m.sid,.cells (eL m.frames++rest))]++(f.bR,.cells (aW f'))::((f.dn,.map (.int .i64) (f.vals.map gz))::(me r++dC m.heap)):=by
  unfold bY;rw[hm];simp[Mach.bP,dG,me,h1,h2,h3,hp]
 have e0:bY u m rest=[(1,.cells [.aA 1 [] .ex,aI 0,aI 0]),(2,.cells (aB u m)),(3,.spare m.out.length),(m.sid,.cells (eL m.frames++rest))]++(f.bR,.cells (aW f))::((f.dn,.map (.int .i64) (f.vals.map gz))::(me r++dC m.heap)):=by
  simp[bY,dG,me]
 have hh:=h.holds;have hn:=h.nodup;rw[e0]at hh hn;refine⟨by simp[h.len,Mach.bP],?_,?_,?_⟩
 ·rw[List.length_set];refine bq h.upto (h.frame (f:=f) (by rw[dG];simp)).1 (fun q=>?_);simp only[aW,av,ae.upto,true_and,and_true,h2]at q ⊢;exact q
 ·rw[e];exact gB hh hn
 rw[e,<-jq _ _ _ (.cells (aW f))];exact hn
theorem y8(h:Tl u m rest O){f f':Fr}{r:List Fr}(dG:m.frames=f::r)(h1:f' = { f with vals:=f'.vals })(hu:∀e∈f'.vals,SV.bj O.length e.2):Tl u (m.bP f') rest (O.set f.dn (.map (.int .i64) (f'.vals.map gz))):=by
 have hm:aB u (m.bP f')=aB u m:=by simp[aB,Mach.bP,dG]
 have jP:f'.bR=f.bR:=by rw[h1]
 have wx:f'.dn=f.dn:=by rw[h1]
 have Ew:aW f'=aW f:=by rw[h1];rfl
 have hp:eL (f'::r)=eL (f::r):=by simp[eL,jP]
 have e:bY u (m.bP f') rest=[(1,.cells [.aA 1 [] .ex,aI 0,aI 0]),(2,.cells (aB u m)),(3,.spare m.out.length),(m.sid,.cells (eL m.frames++rest)),(f.bR,.cells (aW f))]++(f.dn,.map (.int .i64) (f'.vals.map gz))::(me r++dC m.heap):=by
  unfold bY;rw[hm];simp[Mach.bP,dG,me,jP,wx,Ew,hp]
 have e0:bY u m rest=[(1,.cells [.aA 1 [] .ex,aI 0,aI 0]),(2,.cells (aB u m)),(3,.spare m.out.length),(m.sid,.cells (eL m.frames++rest)),(f.bR,.cells (aW f))]++(f.dn,.map (.int .i64) (f.vals.map gz))::(me r++dC m.heap):=by
  simp[bY,dG,me]
 have hh:=h.holds;have hn:=h.nodup;rw[e0]at hh hn;refine⟨by simp[h.len,Mach.bP],?_,?_,?_⟩
 ·rw[List.length_set];exact bt h.upto (Al hu)
 ·rw[e];exact gB hh hn
 rw[e,<-jq _ _ _ (.map (.int .i64) (f.vals.map gz))];exact hn
theorem pop(h:Tl u m rest O){f g g':Fr}{r:List Fr}(dG:m.frames=f::g::r)(h1:g' = { g with vals:=g'.vals })(hu:∀e∈g'.vals,SV.bj O.length e.2)(m':Mach)(dS:m' = { m with frames:=g'::r }) :
  Tl u m' (.mp f.bR 0::rest) ((O.set 2 (.cells (aB u m'))).set g.dn (.map (.int .i64) (g'.vals.map gz))):=by
 have jP:g'.bR=g.bR:=by rw[h1]
 have wx:g'.dn=g.dn:=by rw[h1]
 have Ew:aW g'=aW g:=by rw[h1];rfl
 have hp:eL (f::g::r)++rest=eL (g'::r)++.mp f.bR 0::rest:=by simp[eL,jP]
 have e0:bY u m rest=[(1,.cells [.aA 1 [] .ex,aI 0,aI 0])]++(2,.cells (aB u m))::((3,.spare m.out.length)::(m.sid,.cells (eL (g'::r)++.mp f.bR 0::rest))::(f.bR,.cells (aW f))::(f.dn,.map (.int .i64) (f.vals.map gz))::(g.bR,.cells (aW g))::(g.dn,.map (.int .i64) (g.vals.map gz))::(me r++dC m.heap)):=by
  simp[bY,dG,me,<-hp]
 have e1:bY u m' (.mp f.bR 0::rest)=[(1,.cells [.aA 1 [] .ex,aI 0,aI 0]),(2,.cells (aB u m')),(3,.spare m.out.length),(m.sid,.cells (eL (g'::r)++.mp f.bR 0::rest)),(g.bR,.cells (aW g))]++(g.dn,.map (.int .i64) (g'.vals.map gz))::(me r++dC m.heap):=by
  rw[dS];simp[bY,me,jP,wx,Ew]
 have hh:=h.holds;have hn:=h.nodup;rw[e0]at hh hn;have h2:=gB (x:=.cells (aB u m')) hh hn;have uZ:∀p∈[(1,ak.cells [.aA 1 [] .ex,aI 0,aI 0]),(2,.cells (aB u m')),(3,.spare m.out.length),(m.sid,.cells (eL (g'::r)++.mp f.bR 0::rest)),(g.bR,.cells (aW g))]++(g.dn,.map (.int .i64) (g.vals.map gz))::(me r++dC m.heap),p∈[(1,.cells [.aA 1 [] .ex,aI 0,aI 0])]++(2,.cells (aB u m'))::((3,.spare m.out.length)::(m.sid,.cells (eL (g'::r)++.mp f.bR 0::rest))::(f.bR,.cells (aW f))::(f.dn,.map (.int .i64) (f.vals.map gz))::(g.bR,.cells (aW g))::(g.dn,.map (.int .i64) (g.vals.map gz))::(me r++dC m.heap)):=by
  intro p hp;simp only[List.cons_append,List.nil_append,List.mem_cons]at hp ⊢;rcases hp with q|q|q|q|q|q|q
  all_goals simp[q]
 have Xs:(ed ([(1,ak.cells [.aA 1 [] .ex,aI 0,aI 0]),(2,.cells (aB u m')),(3,.spare m.out.length),(m.sid,.cells (eL (g'::r)++.mp f.bR 0::rest)),(g.bR,.cells (aW g))]++(g.dn,.map (.int .i64) (g.vals.map gz))::(me r++dC m.heap))).Nodup:=by
  refine List.Nodup.sublist ?_ hn;simp only[ed,List.map_cons,List.map_append,List.map_nil,List.cons_append,List.nil_append];exact((((List.Sublist.refl _).cons _).cons _).cons₂ _ |>.cons₂ _ |>.cons₂ _ |>.cons₂ _)
 have hg:=h2.sub uZ;refine⟨by rw[dS];simp[h.len],?_,?_,?_⟩
 ·rw[List.length_set,List.length_set];refine bt (bq h.upto h.gd (fun q=>bS q (by rw[dS]))) (Al hu)
 ·rw[e1];exact gB hg Xs
 rw[e1,<-jq _ _ _ (.map (.int .i64) (g.vals.map gz))];exact Xs
theorem last(h:Tl u m rest O){f:Fr}(dG:m.frames=[f])(m':Mach)(h1:m'.sid=m.sid)(h2:m'.frames=[])(h3:m'.heap=m.heap)(h4:m'.out.length=m.out.length)(h5:m'.next=m.next):Tl u m' (.mp f.bR 0::rest) (O.set 2 (.cells (aB u m'))):=by
 have e0:bY u m rest=[(1,.cells [.aA 1 [] .ex,aI 0,aI 0])]++(2,.cells (aB u m))::((3,.spare m.out.length)::(m.sid,.cells (.mp f.bR 0::rest))::(f.bR,.cells (aW f))::(f.dn,.map (.int .i64) (f.vals.map gz))::dC m.heap):=by
  simp[bY,dG,me,eL]
 have e1:bY u m' (.mp f.bR 0::rest)=[(1,.cells [.aA 1 [] .ex,aI 0,aI 0]),(2,.cells (aB u m')),(3,.spare m.out.length),(m.sid,.cells (.mp f.bR 0::rest))]++dC m.heap:=by
  simp[bY,h1,h2,h3,h4,me,eL]
 have hh:=h.holds;have hn:=h.nodup;rw[e0]at hh hn;refine⟨by simp[h.len,h5],?_,?_,?_⟩
 ·rw[List.length_set];exact bq h.upto h.gd (fun q=>bS q h1)
 ·rw[e1];refine(gB (x:=.cells (aB u m')) hh hn).sub fun p hp=>?_;simp only[List.cons_append,List.nil_append,List.mem_cons]at hp ⊢;rcases hp with q|q|q|q|q
  all_goals simp[q]
 rw[e1];refine List.Nodup.sublist ?_ hn;simp only[ed,List.map_cons,List.map_append,List.map_nil,List.cons_append,List.nil_append];exact((((List.Sublist.refl _).cons _).cons _).cons₂ _ |>.cons₂ _ |>.cons₂ _ |>.cons₂ _)
end Tl
end Go.Proofs.YtjdnhamngpafmaaGreat
namespace Go.Proofs.YtjdnhamngpafmaaGreat
open Go.Av
namespace Tl
variable {u:cd} {m:Mach} {rest:List ae} {O:List ak}
theorem keys(u:cd)(m:Mach)(rest:List ae):ed (bY u m rest)=1::2::3::m.sid::ed (me m.frames++dC m.heap):=rfl
theorem others(h:Tl u m rest O):Holds (me m.frames++dC m.heap) O∧(∀k∈ed (me m.frames++dC m.heap),k≠1∧k≠2∧k≠3∧k≠m.sid∧k<O.length)∧(ed (me m.frames++dC m.heap)).Nodup∧m.sid≠1∧m.sid≠2∧m.sid≠3∧m.sid<O.length∧3<O.length:=by
 have hn:=h.nodup;have bf:=h.holds.lt;rw[keys]at hn bf;simp only[List.nodup_cons,List.mem_cons,not_or]at hn;obtain⟨⟨a1,a2,a3,a4⟩,⟨b1,b2,b3⟩,⟨c1,c2⟩,d,e⟩:=hn;refine⟨fun p hp=>h.holds p (by simp only[bY,List.mem_cons];exact .inr (.inr (.inr (.inr hp)))),fun k hk=>⟨?_,?_,?_,?_,bf k (by simp[hk])⟩,e,fun q=>a3 q.symm,fun q=>b2 q.symm,fun q=>c1 q.symm,bf _ (by simp),bf 3 (by simp)⟩
 ·rintro rfl;exact a4 hk
 ·rintro rfl;exact b3 hk
 ·rintro rfl;exact c2 hk
 rintro rfl;exact d hk
theorem push(h:Tl u m rest O)(fn to:Int)(args:List SV)(m':Mach)(dS:m'=m.enter u fn args to)(hu:∀v∈args,SV.bj O.length v) :
  Tl u m' [] (((O.set m.sid .gone).set 2 (.cells (aB u m'))) ++
   [.map (.int .i64) ((gl [] (aF (cx u fn) 0).params args).map gz),.cells [aI fn,aI 0,aI 0,aI to,.mm O.length],.cells (l7 (eL m.frames++rest) m.frames.length (O.length+1))]):=by
 obtain⟨ho,hk,tz,s1,s2,s3,s4,s5⟩:=h.others;have hN:=h.len;have wz:(eL m.frames).length=m.frames.length:=by simp[eL]
 obtain⟨O2,tu⟩:∃O2,O2=(O.set m.sid .gone).set 2 (.cells (aB u m')):=⟨_,rfl⟩
 have zG:O2.length=O.length:=by rw[tu];simp
 have Rc:l7 (eL m.frames++rest) m.frames.length (O.length+1)=eL m'.frames++[]:=by
  rw[dS];unfold l7;rw[List.take_append_of_le_length (by omega),List.take_of_length_le (by omega)];simp[eL,Mach.enter,hN]
 rw[Rc,<-tu];have e1:bY u m' []=(1,.cells [.aA 1 [] .ex,aI 0,aI 0])::(2,.cells (aB u m'))::(3,.spare m.out.length)::(O.length+2,.cells (eL m'.frames++[]))::(O.length+1,.cells [aI fn,aI 0,aI 0,aI to,.mm O.length])::(O.length,.map (.int .i64) ((gl [] (aF (cx u fn) 0).params args).map gz))::(me m.frames++dC m.heap):=by
  rw[dS];simp[bY,Mach.enter,me,hN,aW]
 have hold:∀k o,O[k]?=some o->k≠m.sid->k≠2->∀X,(O2++X)[k]?=some o:=fun k o hk h1 h2 X=>by
  refine cm ?_;rw[tu];exact br (br hk (Ne.symm h1)) (Ne.symm h2)
 refine⟨by rw[dS];simp[zG,Mach.enter,hN],?_,?_,?_⟩
 ·have hlen:(O2++[ak.map (.int .i64) ((gl [] (aF (cx u fn) 0).params args).map gz),.cells [aI fn,aI 0,aI 0,aI to,.mm O.length],.cells (eL m'.frames++[])]).length=O.length+3:=by simp[zG]
  rw[hlen];intro o iD;rcases List.mem_append.1 iD with q|q
  ·rw[tu]at q;refine bq (n:=O.length+3) (ds:=aB u m') (bt (k:=m.sid) (x:=.gone) (fun o ho=>ak.b8 (by omega) (h.upto o ho)) trivial) (br h.gd s2) (fun q=>?_) o q;simp only[aB,av,ae.upto,ax,Func.ag,true_and,and_true,dS,Mach.enter]at q ⊢;omega
  simp only[List.mem_cons,List.mem_nil_iff,or_false]at q;rcases q with rfl|rfl|rfl
  ·refine Al fun x hx=>?_;rcases kv hx with q|q
   ·simp at q
   exact(hu _ q).mono (by omega)
  ·simp[ak.upto,av,ae.upto]
  simp only[ak.upto,List.append_nil,aT];intro x hx;simp only[eL,List.mem_map,List.mem_reverse]at hx;obtain⟨f,hf,rfl⟩:=hx;rw[dS]at hf;simp only[Mach.enter,List.mem_cons]at hf;rcases hf with rfl|hf
  ·simp[ae.upto,hN]
  have:=I (h.frame hf).1;simp only[ae.upto];omega
 ·rw[e1];intro p hp;simp only[List.mem_cons]at hp;rcases hp with rfl|rfl|rfl|rfl|rfl|rfl|hp
  ·exact hold 1 _ (h.holds (1,_) (by simp[bY])) (fun e=>s1 e.symm) (by omega) _
  ·refine cm ?_;rw[tu];exact nF (br h.gd s2)
  ·exact hold 3 _ h.outs (fun e=>s3 e.symm) (by omega) _
  ·show(O2++_)[O.length+2]?=_;rw[<-zG,ld];rfl
  ·show(O2++_)[O.length+1]?=_;rw[<-zG,ld];rfl
  ·show(O2++_)[O.length]?=_;rw[<-zG,Ef];rfl
  have:=hk p.1 (gD hp);exact hold p.1 _ (ho p hp) this.2.2.2.1 this.2.1 _
 rw[e1];simp only[jo,List.nodup_cons,List.mem_cons,not_or];refine⟨⟨by omega,by omega,by omega,by omega,by omega,fun q=>(hk 1 q).1 rfl⟩,⟨by omega,by omega,by omega,by omega,fun q=>(hk 2 q).2.1 rfl⟩,⟨by omega,by omega,by omega,fun q=>(hk 3 q).2.2.1 rfl⟩,⟨by omega,by omega,fun q=>?_⟩,⟨by omega,fun q=>?_⟩,fun q=>?_,tz⟩
 ·have:=(hk _ q).2.2.2.2;omega
 ·have:=(hk _ q).2.2.2.2;omega
 have:=(hk _ q).2.2.2.2;omega
theorem q9:∀(l:List B2) (a:B2) (x:List SV),a∈l->(ed (dC l)).Nodup->∃X Y,l=X++a::Y∧Mach.j9 l (some a.lr) x=X++⟨a.lr,a.dO,x⟩::Y
 | [],_,_,h,_=>by simp at h
 | b::r,a,x,h,hn=>by
  unfold Mach.j9;rcases List.mem_cons.1 h with rfl|h
  ·exact⟨[],r,rfl,by simp⟩
  have cq:some a.lr≠some b.lr:=fun e=>by
   simp only[Option.some.injEq]at e;simp only[dC,jo,List.nodup_cons,List.mem_cons,not_or]at hn;exact hn.1.2 (by
    rw[<-e];exact gD (yc h).1)
  rw[if_neg cq];simp only[dC,jo,List.nodup_cons]at hn;obtain⟨X,Y,h1,h2⟩:=q9 r a x h hn.2.2;exact⟨b::X,Y,by simp[h1],by simp[h2]⟩
theorem ML(h:Tl u m rest O){a:B2}(ha:a∈m.heap)(l:List SV)(hl:l.length=a.l.length)(hu:∀v∈l,SV.bj O.length v)(m':Mach)(dS:m' = { m with heap:=Mach.j9 m.heap (some a.lr) l }):Tl u m' rest (O.set a.dO (.cells (an (l.map SV.enc)))):=by
 obtain⟨ho,hk,tz,s1,s2,s3,s4,s5⟩:=h.others;obtain⟨X,Y,e1,e2⟩:=q9 m.heap a l ha (by
  rw[dU,List.nodup_append]at tz;exact tz.2.1)
 have Oq:aB u m'=aB u m:=by rw[dS];rfl
 have e0:bY u m rest=((1,.cells [.aA 1 [] .ex,aI 0,aI 0])::(2,.cells (aB u m))::(3,.spare m.out.length)::(m.sid,.cells (eL m.frames++rest))::(me m.frames++(dC X++[(a.lr,.cells [.ms a.dO 0 a.l.length a.l.length])])))++(a.dO,.cells (an (a.l.map SV.enc)))::dC Y:=by
  unfold bY;rw[e1,pB];simp[dC]
 have e3:bY u m' rest=((1,.cells [.aA 1 [] .ex,aI 0,aI 0])::(2,.cells (aB u m))::(3,.spare m.out.length)::(m.sid,.cells (eL m.frames++rest))::(me m.frames++(dC X++[(a.lr,.cells [.ms a.dO 0 a.l.length a.l.length])])))++(a.dO,.cells (an (l.map SV.enc)))::dC Y:=by
  unfold bY;rw[Oq,dS];simp only[e2,pB];simp[dC,hl]
 have hh:=h.holds;have hn:=h.nodup;rw[e0]at hh hn;refine⟨by rw[dS];simp[h.len],?_,?_,?_⟩
 ·rw[List.length_set];exact bt h.upto (SV.jj hu)
 ·rw[e3];exact gB hh hn
 rw[e3,<-jq _ _ _ (.cells (an (a.l.map SV.enc)))];exact hn
theorem K9(h:Tl u m rest O)(l:List SV)(m':Mach)(J:List ak)(hJ:J.length=7)(Yg:∀o∈J,o.upto (O.length+9))(hu:∀v∈l,SV.bj O.length v)(h1:m'.sid=m.sid)(h2:m'.frames=m.frames)(h3:m'.heap=m.heap++[⟨m.next+8,m.next+7,l⟩])(h4:m'.out=m.out)(h5:m'.next=m.next+9) :
  Tl u m' rest (O.set 2 (.cells (aB u m'))++(J++[.cells (an (l.map SV.enc)),.cells [.ms (O.length+7) 0 l.length l.length]])):=by
 obtain⟨ho,hk,tz,s1,s2,s3,s4,s5⟩:=h.others;have hN:=h.len;obtain⟨O2,tu⟩:∃O2,O2=O.set 2 (.cells (aB u m')):=⟨_,rfl⟩
 have zG:O2.length=O.length:=by rw[tu];simp
 rw[<-tu];have e1:bY u m' rest=(1,.cells [.aA 1 [] .ex,aI 0,aI 0])::(2,.cells (aB u m'))::(3,.spare m.out.length)::(m.sid,.cells (eL m.frames++rest))::((me m.frames++dC m.heap)++[(O.length+8,.cells [.ms (O.length+7) 0 l.length l.length]),(O.length+7,.cells (an (l.map SV.enc)))]):=by
  simp[bY,h1,h2,h3,h4,pB,dC,hN]
 have hold:∀k o,O[k]?=some o->k≠2->∀X,(O2++X)[k]?=some o:=fun k o hk h2 X=>by
  refine cm ?_;rw[tu];exact br hk (Ne.symm h2)
 refine⟨by simp[zG,h5,hN,hJ],?_,?_,?_⟩
 ·have hlen:(O2++(J++[ak.cells (an (l.map SV.enc)),.cells [.ms (O.length+7) 0 l.length l.length]])).length=O.length+9:=by simp[zG,hJ]
  rw[hlen];intro o iD;rcases List.mem_append.1 iD with q|q
  ·rw[tu]at q;exact bq (fun o ho=>ak.b8 (by omega) (h.upto o ho)) h.gd (fun q=>bS q h1) o q
  rcases List.mem_append.1 q with q|q
  ·exact Yg o q
  simp only[List.mem_cons,List.mem_nil_iff,or_false]at q;rcases q with rfl|rfl
  ·exact SV.jj fun v hv=>(hu v hv).mono (by omega)
  simp[ak.upto,av,ae.upto]
 ·rw[e1];intro p hp;simp only[List.mem_cons,List.mem_append,List.mem_nil_iff,or_false]at hp;have WO:∀k,(J++[ak.cells (an (l.map SV.enc)),.cells [.ms (O.length+7) 0 l.length l.length]])[7+k]?=[ak.cells (an (l.map SV.enc)),.cells [.ms (O.length+7) 0 l.length l.length]][k]?:=fun k=>by
   rw[<-hJ];exact ld
  rcases hp with rfl|rfl|rfl|rfl|hp|rfl|rfl
  ·exact hold 1 _ (h.holds (1,_) (by simp[bY])) (by omega) _
  ·refine cm ?_;rw[tu];exact nF h.gd
  ·exact hold 3 _ h.outs (by omega) _
  ·exact hold m.sid _ h.stack s2 _
  ·have:=hk p.1 (gD (List.mem_append.2 hp));exact hold p.1 _ (ho p (List.mem_append.2 hp)) this.2.1 _
  ·show(O2++_)[O.length+8]?=_;have hx:O.length+8=O2.length+8:=by omega
   rw[hx,ld];exact WO 1
  show(O2++_)[O.length+7]?=_;have hx:=ld (O:=O2) (k:=7) (X:=J++[ak.cells (an (l.map SV.enc)),.cells [.ms (O.length+7) 0 l.length l.length]]);rw[zG]at hx;rw[hx];exact WO 0
 rw[e1];simp only[jo,dU,List.nodup_cons,List.mem_cons,not_or,List.mem_append];have oN:∀k,(k∈ed (me m.frames)∨k∈ed (dC m.heap))->k≠1∧k≠2∧k≠3∧k≠m.sid∧k<O.length:=fun k q=>hk k (by rw[dU];exact List.mem_append.2 q);refine⟨⟨by omega,by omega,by omega,⟨fun q=>(oN 1 (.inl q)).1 rfl,fun q=>(oN 1 (.inr q)).1 rfl⟩,by omega,by omega,by simp[ed]⟩,⟨by omega,by omega,⟨fun q=>(oN 2 (.inl q)).2.1 rfl,fun q=>(oN 2 (.inr q)).2.1 rfl⟩,by omega,by omega,by simp[ed]⟩,⟨by omega,⟨fun q=>(oN 3 (.inl q)).2.2.1 rfl,fun q=>(oN 3 (.inr q)).2.2.1 rfl⟩,by omega,by omega,by simp[ed]⟩,⟨⟨fun q=>(oN _ (.inl q)).2.2.2.1 rfl,fun q=>(oN _ (.inr q)).2.2.2.1 rfl⟩,by omega,by omega,by simp[ed]⟩,?_⟩;rw[List.nodup_append];rw[dU]at tz;refine⟨tz,by simp[ed],?_⟩;intro x hx y hy e;have:=(oN x (List.mem_append.1 hx)).2.2.2.2;simp only[ed,List.map_nil,List.mem_cons,List.mem_nil_iff,or_false]at hy;omega
end Tl
end Go.Proofs.YtjdnhamngpafmaaGreat
namespace Go.Proofs.YtjdnhamngpafmaaGreat
open Go.Av
theorem kE{l:List SV}{n:Nat}(h:l.length=n){k:Nat}(hk:k<n):∃x,l[k]?=some x:=⟨l[k]'(by omega),List.getElem?_eq_getElem _⟩
theorem D0{l:List SV}(h:l.length=2):∃x y,l=[x,y]:=by
 match l,h with
 | [x,y],_=>exact⟨x,y,rfl⟩
theorem Cc{O:List ak}{u:cd}{m:Mach}{rest:List ae}(ht:Tl u m rest O)(hm:cb u m){v:SV}(hv:fX u m v)(id:Option Nat)(h:id=v.arr):∀x∈Mach.jI m.heap id,SV.bj O.length x:=fun x hx=>by
 subst h;cases Mo:v.arr with
 | none =>
  rw[Mo]at hx;have:∀l:List B2,Mach.jI l none=[]:=fun l=>by
   induction l with
   | nil=>rfl
   | cons a r ih=>simp[Mach.jI,ih]
  rw[this]at hx;simp at hx
 | some id =>
  obtain⟨a,ha,h1,h2⟩:=oC m.heap id (SV.Wf.ref hv id Mo);rw[Mo,h2]at hx;exact ht.under ((hm.gR a ha).2 x hx)
theorem CR{u:cd}{m:Mach}{rest:List ae}{O:List ak}(ht:Tl u m rest O)(hm:cb u m)(lD:m.short=false){i:Ins}(hi:Hk u i)(KJ:i.op≠13)(KK:i.op≠14){args:List SV}(mG:args.length=i.args.length)(ha:∀v∈args,fX u m v) :
  ∃O2,bd Tryz.prog 115 O [.mp 2 0,i.enc,.aA 4 (args.map SV.enc) .sh] (fun r O3=>r=.cw [(m.exec i args).2.1.enc,aI (m.exec i args).2.2]∧O3=O2)∧Tl u (m.exec i args).1 rest O2∧O.length<=O2.length:=by
 have bB:=ht.upto;have hl:∀v∈args,SV.bj O.length v:=fun v hv=>ht.under (ha v hv);have OJ:∀v∈args,v.kind=0->fv v.n:=fun v hv hk=>SV.Wf.num (ha v hv) (.inl hk);have oM:m.left<=2 ^ 40:=by have:=hm.depth;omega
 have jQ:=hi.op;have stay:∀{v:SV} {t:Int},m.exec i args=(m,v,t)->bd Tryz.prog 115 O [.mp 2 0,i.enc,.aA 4 (args.map SV.enc) .sh] (fun r O3=>r=.cw [(m.exec i args).2.1.enc,aI (m.exec i args).2.2]∧O3=O) ->
   ∃O2,bd Tryz.prog 115 O [.mp 2 0,i.enc,.aA 4 (args.map SV.enc) .sh] (fun r O3=>r=.cw [(m.exec i args).2.1.enc,aI (m.exec i args).2.2]∧O3=O2)∧Tl u (m.exec i args).1 rest O2∧O.length<=O2.length:=fun e hC =>
  ⟨O,hC,by rw[e];exact ht,Nat.le_refl _⟩
 by_cases h0:i.op=0
 ·exact stay (v:=.word i.n) (t:=0) (by simp[Mach.exec,h0]) (Ie (u:=u) bB i args hl h0)
 by_cases h1:1<=i.op∧i.op<=7
 ·have zG:=hi.c2 (.inl h1);obtain⟨x,hx⟩:=kE (mG.trans zG) (k:=0) (by omega);obtain⟨y,hy⟩:=kE (mG.trans zG) (k:=1) (by omega);have hC:=CQ (u:=u) (m:=m) bB i args hl h1 x y hx hy (OJ x (List.mem_of_getElem? hx)) (OJ y (List.mem_of_getElem? hy));refine⟨O,hC,?_,Nat.le_refl _⟩;have e:(m.exec i args).1=m:=by
   unfold Mach.exec;rw[if_neg h0,if_pos h1];split<;>rfl
  rw[e];exact ht
 by_cases h8:i.op=8
 ·exact stay (v:=.mk 1 i.n args none) (t:=0) (by simp[Mach.exec,h8]) (Ic (u:=u) bB i args hl h8)
 by_cases h9:i.op=9
 ·exact stay (v:=.mk 2 i.n args none) (t:=0) (by simp[Mach.exec,h9]) (FH (u:=u) bB i args hl h9)
 by_cases LI:i.op=10∨i.op=11∨i.op=12∨i.op=21
 ·have hlen:0<args.length∧(i.op=21->args.length=2):=by
   rcases LI with q|q|q|q
   ·have:=hi.c1 (by omega);omega
   ·have:=hi.c1 (by omega);omega
   ·have:=hi.c1 (by omega);omega
   have:=hi.c2 (by omega);omega
  obtain⟨x,hx⟩:=kE rfl hlen.1;obtain⟨q1,q2⟩:=vh (i:=i) ha;have hC:=Bg bB i args hl x hx (fun a b c=>kE (hlen.2 (by omega)) (by omega)) (fun e=>hi.UB (.inl e));refine stay (v:=(cN i args).1) (t:=(cN i args).2) ?_ (Ig (u:=u) (m:=m) bB i args hl LI hC (ht.under q1));unfold Mach.exec;rw[if_neg h0,if_neg h1,if_neg h8,if_neg h9,if_pos LI]
 by_cases T6:i.op=22∨i.op=23∨i.op=24
 ·have h2:i.op≠22->i.op≠24->∃x y,args=[x,y]:=fun a b=>D0 (mG.trans (hi.c2 (by omega)));obtain⟨q1,q2⟩:=vM (i:=i) ha (fun e=>by have:=hi.pack e;omega) h2;have hC:=BQ bB i args hl (fun e=>kE (mG.trans (hi.c1 (by omega))) (by omega)) h2 (fun e=>hi.UB (.inr e)) (fun v hv hk=>se (ha v hv) hk);refine stay (v:=(c6 i args).1) (t:=(c6 i args).2) ?_ (Ih (u:=u) (m:=m) bB i args hl T6 hC (ht.under q1));unfold Mach.exec;rw[if_neg h0,if_neg h1,if_neg h8,if_neg h9,if_neg LI,if_pos T6]
 by_cases kH:i.op=100
 ·obtain⟨x,hx⟩:=kE (mG.trans (hi.c1 (by omega))) (k:=0) (by omega);refine stay (v:=cu args 0) (t:=0) (by simp[Mach.exec,kH]) (FI (u:=u) (m:=m) bB i args hl kH x hx)
 have F2:i.op≠10∧i.op≠11∧i.op≠12∧i.op≠21:=by omega
 have F3:i.op≠22∧i.op≠23∧i.op≠24:=by omega
 have lL:2<O.length:=I ht.gd;have LZ:=Ar m i args h0 h1 h8 h9 F2 F3 kH;have k8:=xf hm (i:=i) ha;by_cases LJ:i.op=16
 ·obtain⟨x,y,e⟩:=D0 (mG.trans (hi.c2 (by omega)));subst e;have EK:=hl x (by simp);have TF:=hl y (by simp);have he:m.exec i [x,y]=m.bJ x y:=by
   rw[LZ];simp[Mach.effect,LJ,cu]
  rw[he];by_cases Ex:x.kind=0∧0<=x.n∧x.n<=1024∧x.n<=m.left
  ·obtain⟨g1,g2,g3,g4⟩:=Ex;have qO:(m.fG x.n).short=false:=by simp[Mach.fG,show ¬m.left<x.n by omega,lD]
   have eh:m.bJ x y=({ m.fG x.n with heap:=m.heap++[⟨m.next+8,m.next+7,List.replicate x.n.toNat y⟩],next:=m.next+9 },.mk 3 0 [] (some (m.next+8)),0):=by
    unfold Mach.bJ;rw[if_neg (by omega),if_neg (by omega),if_neg (by simp[qO])]
   have hC:=Lv bB ht.gd i x y EK TF LJ hm.left oM lD g1 g2 g3 g4;rw[eh];obtain⟨p1,p2,p3,p4,p5,p6,p7⟩:=gq m x.n;have Oq:aB u ({ m.fG x.n with heap:=m.heap++[⟨m.next+8,m.next+7,List.replicate x.n.toNat y⟩],next:=m.next+9 }:Mach)=aB u (m.fG x.n):=rfl;have jc:=ht.K9 (List.replicate x.n.toNat y) ({ m.fG x.n with heap:=m.heap++[⟨m.next+8,m.next+7,List.replicate x.n.toNat y⟩],next:=m.next+9 }:Mach)
    [.gone,.cells [aI 3,aI 0,.aA 4 [] .sh,.mp (O.length+8) 0],.gone,.cells [aI 3,aI 0,.aA 4 [] .sh,.mp (O.length+8) 0],.gone,.gone,.cells [aI 3,aI 0,.aA 4 [] .ex,.mp (O.length+8) 0]] rfl (fun o ho=>by
     simp only[List.mem_cons,List.mem_nil_iff,or_false]at ho;rcases ho with rfl|rfl|rfl|rfl|rfl|rfl|rfl
     all_goals simp[ak.upto,av,ae.upto]) (fun v hv=>by
     rw[(List.mem_replicate.1 hv).2];exact TF) p6 p1 rfl p3 rfl
   rw[Oq]at jc;simp only[List.length_replicate]at jc;have PN:(SV.mk 3 0 [] (some (m.next+8))).enc=.agg [aI 3,aI 0,.aA 4 [] .sh,.mp (O.length+8) 0]:=by
    rw[SV.jk,ht.len];rfl
   refine⟨_,?_,jc,by simp⟩;simp only[PN];exact hC
  have eF:(m.bJ x y).2.1=.zero∧(m.bJ x y).1.sid=m.sid∧(m.bJ x y).1.frames=m.frames∧(m.bJ x y).1.heap=m.heap∧(m.bJ x y).1.out=m.out∧(m.bJ x y).1.next=m.next:=by
   obtain⟨p1,p2,p3,p4,p5,p6,p7⟩:=gq m x.n;unfold Mach.bJ;split
   ·simp
   split
   ·simp
   split
   ·exact⟨rfl,p6,p1,p2,p3,p7⟩
   rename_i a1 a2 a3;exfalso;refine Ex ⟨by omega,by omega,by omega,?_⟩;by_cases q:m.left<x.n
   ·exact absurd (show(m.fG x.n).short=true by simp[Mach.fG,q]) a3
   omega
  obtain⟨b0,b1,b2,b3,b4,b5⟩:=eF;have hC:=Ai bB ht.gd i x y EK TF LJ hm.left oM lD (fun z=>by rw[b0];simp[SV.zero,SV.arr]);have jc:=ht.oX (m.bJ x y).1 b1 b2 b3 (by rw[b4]) b5;exact⟨_,nL bB i [x,y] hl h0 h1 h8 h9 F2 F3 kH lL _ _ (by rw[b0];exact qf _) hC (by simp) jc.upto,jc,by simp⟩
 rw[LZ];by_cases Og:i.op=15
 ·obtain⟨x,hx⟩:=kE (mG.trans (hi.c1 (by omega))) (k:=0) (by omega);have hC:=yr bB ht.gd ht.outs i args hl Og x hx hm.out;have eF:(m.effect i args).1.sid=m.sid∧(m.effect i args).1.frames=m.frames∧(m.effect i args).1.heap=m.heap∧(m.effect i args).1.next=m.next:=by
   unfold Mach.effect;rw[if_pos Og];split
   ·simp
   split<;>simp
  obtain⟨b1,b2,b3,b4⟩:=eF;have jc:=ht.Qr (m.effect i args).1 b1 b2 b3 b4;have hv:SV.bj O.length (m.effect i args).2.1:=ht.under (k8.val.of_heap (by rw[b3]));exact⟨_,nL bB i args hl h0 h1 h8 h9 F2 F3 kH lL _ _ hv hC (by simp) jc.upto,jc,by simp⟩
 by_cases Oh:i.op=18
 ·obtain⟨x,y,e⟩:=D0 (mG.trans (hi.c2 (by omega)));subst e;have hC:=yq (u:=u) (m:=m) bB i x y (hl x (by simp)) (hl y (by simp)) lL Oh;have eF:(m.effect i [x,y]).1=m:=by
   unfold Mach.effect;rw[if_neg (by omega),if_neg (by omega),if_pos Oh];split
   ·rfl
   split<;>rfl
  have hv:SV.bj O.length (m.effect i [x,y]).2.1:=ht.under (k8.val.of_heap (by rw[eF]));exact⟨O,nL bB i [x,y] hl h0 h1 h8 h9 F2 F3 kH lL _ _ hv hC rfl bB,by rw[eF];exact ht,Nat.le_refl _⟩
 have hlen:0<args.length∧(i.op≠17->2<=args.length)∧(i.op≠17->i.op≠19->3<=args.length):=by
  rcases(show i.op=17∨i.op=19∨i.op=20 by omega)with q|q|q
  ·have:=hi.c1 (by omega);omega
  ·have:=hi.c2 (by omega);omega
  have:=hi.c3 (by omega);omega
 obtain⟨x,hx⟩:=kE rfl hlen.1;have KX:=List.mem_of_getElem? hx;obtain⟨O',hC,fo⟩:=CK (m:=m) bB i args hl x hx Og LJ Oh (fun a=>kE rfl (hlen.2.1 a)) (fun a b=>kE rfl (hlen.2.2 a b)) (Cc ht hm (ha x KX) _ rfl) (fun hk=>by
  obtain⟨a,G',e1,e2⟩:=Hr hm (ha x KX) hk;obtain⟨r1,r2⟩:=ht.arr G';refine⟨a.lr,a.dO,e1,?_,?_⟩
  ·rw[e2];exact r1
  rw[e2];exact r2)
 rcases fo with⟨e1,e2⟩|⟨lr,dO,k,z,l,e1,e2,e3,e4,e5,e6,e7,e8⟩
 ·have hv:SV.bj O.length (m.effect i args).2.1:=ht.under (k8.val.of_heap (by rw[e2]));subst e1;exact⟨O',nL bB i args hl h0 h1 h8 h9 F2 F3 kH lL _ _ hv hC rfl bB,by rw[e2];exact ht,Nat.le_refl _⟩
 obtain⟨a,G',f1,f2⟩:=oC m.heap lr (SV.Wf.ref (ha x KX) lr e1);have Xq:l=a.l:=by rw[e5,e1,f2]
 obtain⟨r1,r2⟩:=ht.arr G';have hb:dO=a.dO:=by
  rw[f1,e2]at r1;simp only[Option.some.injEq,ak.cells.injEq,List.cons.injEq,ae.ms.injEq]at r1;exact r1.1.1
 have jc:=ht.ML G' (l.set k z) (by rw[List.length_set,Xq]) (fun v hv=>by
  rcases List.mem_or_eq_of_mem_set hv with q|q
  ·rw[Xq]at q;exact ht.under ((hm.gR a G').2 v q)
  rw[q];exact e6) (m.effect i args).1 (by rw[e8,e1,f1])
 rw[<-hb,<-e7]at jc;have Xp:O.length=O'.length:=by rw[e7];simp
 have hv:SV.bj O.length (m.effect i args).2.1:=by
  have:=jc.under k8.val;rw[<-Xp]at this;exact this
 exact⟨O',nL bB i args hl h0 h1 h8 h9 F2 F3 kH lL _ _ hv hC Xp jc.upto,jc,by omega⟩
theorem Tl.of_eq{u:cd}{m m':Mach}{rest:List ae}{O O':List ak}(h:Tl u m rest O)(e:m'=m)(e':O'=O):Tl u m' rest O':=by
 subst e;subst e';exact h
theorem jU{f:Fr}{r:List Fr}{rest:List ae}:(eL (f::r)++rest)[r.length]?=some (.mp f.bR 0):=by
 have h:eL (f::r)=r.reverse.map (fun f=>ae.mp f.bR 0)++[.mp f.bR 0]:=by simp[eL]
 rw[h,List.append_assoc];have hl:(r.reverse.map (fun f=>ae.mp f.bR 0)).length=r.length:=by simp
 rw[List.getElem?_append_right (by omega),hl,Nat.sub_self];rfl
theorem GQ{f g:Fr}{r:List Fr}{rest:List ae}:(eL (f::g::r)++rest)[r.length]?=some (.mp g.bR 0):=by
 have h:eL (f::g::r)++rest=eL (g::r)++(.mp f.bR 0::rest):=by simp[eL]
 rw[h];exact jU
theorem Tl.apart{u:cd}{m:Mach}{rest:List ae}{O:List ak}(ht:Tl u m rest O){f:Fr}{r:List Fr}(dG:m.frames=f::r):f.bR≠2∧f.dn≠2∧f.bR≠f.dn:=by
 obtain⟨_,hk,tz,_⟩:=ht.others;rw[dG]at hk tz;refine⟨(hk f.bR ?_).2.1,(hk f.dn ?_).2.1,?_⟩
 ·rw[dU];exact List.mem_append.2 (.inl (gD (Tl.oK (f:=f) (by simp)).1))
 ·rw[dU];exact List.mem_append.2 (.inl (gD (Tl.oK (f:=f) (by simp)).2))
 simp only[me,List.cons_append,jo,List.nodup_cons,List.mem_cons,not_or]at tz;exact tz.1.1
theorem Tl.O9{u:cd}{m:Mach}{rest:List ae}{O:List ak}(ht:Tl u m rest O){g:Fr}(hg:g∈m.frames):g.bR≠2∧g.dn≠2:=by
 obtain⟨_,hk,tz,_⟩:=ht.others;refine⟨(hk g.bR ?_).2.1,(hk g.dn ?_).2.1⟩
 ·rw[dU];exact List.mem_append.2 (.inl (gD (Tl.oK hg).1))
 rw[dU];exact List.mem_append.2 (.inl (gD (Tl.oK hg).2))
theorem wM(m:Mach)(f g:Fr):(m.bP f).bP g=m.bP g:=rfl
theorem qH{u:cd}{m:Mach}{rest:List ae}{O:List ak}(ht:Tl u m rest O)(hm:cb u m){f:Fr}{r:List Fr}(dG:m.frames=f::r){e:Edge}(he:x7 (cx u f.fn) e) :
  ∃O',bd Tryz.prog 129 O [.mp 2 0,.mp f.bR 0,e.enc] (fun r O1=>r=.cw []∧O1=O')∧Tl u (m.follow u f e) rest O'∧O.length=O'.length:=by
 have eE:=hm.frames f (by rw[dG];simp);obtain⟨t1,t2⟩:=ht.frame (f:=f) (by rw[dG];simp);obtain⟨n1,n2,n3⟩:=ht.apart dG;have hu:∀e∈f.vals,SV.bj O.length e.2:=fun e he=>ht.under (eE.vals e he);obtain⟨f',ff⟩:∃f',f' = { f with blk:=e.block,pos:=0,vals:=gl f.vals (aF (cx u f.fn) e.block).params (fZ f.vals e.args) }:=⟨_,rfl⟩
 have hC:=Au ht.upto ht.gd f t1 t2 hu n1.symm n2.symm n3 eE.fn e he f' ff;have h1:=ht.bP (f':={ f' with vals:=f.vals }) dG (by rw[ff]) (by rw[ff]) rfl;have Ew:aW { f' with vals:=f.vals }=aW f':=rfl;rw[Ew]at h1;have h2:=h1.y8 (f:={ f' with vals:=f.vals }) (f':=f') (r:=r) (by simp[Mach.bP,dG]) rfl (by
  rw[List.length_set,ff];intro x hx;rcases kv hx with q|q
  ·exact hu x q
  exact ot hu e.args _ q)
 rw[wM]at h2;have wx:f'.dn=f.dn:=by rw[ff]
 have eh:m.follow u f e=m.bP f':=by rw[ff];rfl
 rw[eh];refine⟨_,hC,?_,by simp⟩;exact h2.of_eq rfl (by rw[<-wx])
theorem yx{u:cd}{m:Mach}{rest:List ae}{O:List ak}(ht:Tl u m rest O)(hm:cb u m){f:Fr}{r:List Fr}(dG:m.frames=f::r){t:Term}(rq:x8 (cx u f.fn) t) :
  ∃O' Bv,bd Tryz.prog 112 O [.mp 2 0,.mp f.bR 0,t.enc] (fun r O1=>r=.cw []∧O1=O')∧Tl u (m.finish u f t) Bv O'∧O.length=O'.length:=by
 have eE:=hm.frames f (by rw[dG];simp);obtain⟨t1,t2⟩:=ht.frame (f:=f) (by rw[dG];simp);obtain⟨n1,n2,n3⟩:=ht.apart dG;obtain⟨_,_,_,s1,s2,s3,s4,s5⟩:=ht.others;have hu:∀e∈f.vals,SV.bj O.length e.2:=fun e he=>ht.under (eE.vals e he);have hk:=rq.kind;unfold Mach.finish;by_cases h4:t.kind=4
 ·rw[if_pos h4];exact⟨_,rest,H9 ht.upto ht.gd f t1 t2 hu n3 t h4,ht.oX (m.stop t.n 0) rfl rfl rfl rfl rfl,by simp⟩
 rw[if_neg h4];by_cases h1:t.kind=1
 ·rw[if_pos h1];have hl:=rq.jump h1;have he:t.to[0]?=some (t.to[0]'(by omega)):=List.getElem?_eq_getElem _;obtain⟨O',q1,q2,q3⟩:=qH ht hm dG (rq.gG _ (List.mem_of_getElem? he));refine⟨O',rest,H8 ht.upto ht.gd f t1 t2 hu n3 t h1 _ he q1 q3 q2.upto,?_,q3⟩;rw[he];exact q2
 rw[if_neg h1];by_cases h0:t.kind=0
 ·rw[if_pos h0];have hv:=yy eE.vals t.arg;have pQ:=ht.under hv;cases hr:r with
  | nil =>
   subst hr;have hC:=Di ht.upto ht.gd f dG (I t1) _ pQ;have jc:=ht.last dG (m.leave f (iO f.vals t.arg)) (by simp[Mach.leave,dG,Mach.stop]) (by simp[Mach.leave,dG,Mach.stop]) (by simp[Mach.leave,dG,Mach.stop]) (by simp[Mach.leave,dG,Mach.stop]) (by simp[Mach.leave,dG,Mach.stop]);exact⟨_,_,En ht.upto ht.gd f t1 t2 hu n3 t h0 hC (by simp) jc.upto,jc,by simp⟩
  | cons g r' =>
   subst hr;have hg:g∈m.frames:=by rw[dG];simp
   obtain⟨g1,g2⟩:=ht.frame hg;obtain⟨k1,k2⟩:=ht.O9 hg;have Uj:∀e∈g.vals,SV.bj O.length e.2:=fun e he=>ht.under ((hm.frames g hg).vals e he);have kK:r'.length<=2 ^ 40:=by
    have h1:=hm.depth;have h2:=hm.left;rw[dG]at h1;simp only[List.length_cons]at h1;omega
   have fo:=ht.stack;rw[dG]at fo;have hC:=Dj ht.upto ht.gd f g r' dG t1 g1 g2 Uj fo GQ s2 kK n1 k1 k2 _ pQ;have eh:m.leave f (iO f.vals t.arg) = { m with frames:={ g with vals:=eT g.vals f.to (iO f.vals t.arg) }::r' }:=by
    unfold Mach.leave;rw[dG];rfl
   have jc:=ht.pop (g':={ g with vals:=eT g.vals f.to (iO f.vals t.arg) }) dG rfl (fun x hx=>by
    rcases js hx with q|q
    ·exact Uj x q
    rw[q];exact pQ) _ eh
   exact⟨_,_,En ht.upto ht.gd f t1 t2 hu n3 t h0 hC (by simp) jc.upto,jc,by simp⟩
 rw[if_neg h0];by_cases hV:(iO f.vals t.arg).kind=0
 ·rw[if_neg (by simp[hV])];obtain⟨e,he⟩:=w7 rq h0 h1 h4 (iO f.vals t.arg).n;obtain⟨O',q1,q2,q3⟩:=qH ht hm dG (rq.gG _ (List.mem_of_getElem? he));refine⟨O',rest,CL ht.upto ht.gd f t1 t2 hu n3 t ⟨h0,h1,h4⟩ hV (by have:=rq.cl;omega) e he q1 q3 q2.upto,?_,q3⟩;rw[he];exact q2
 rw[if_pos hV];exact⟨_,rest,H' ht.upto ht.gd f t1 t2 hu n3 t ⟨h0,h1,h4⟩ hV,ht.oX (m.stop 5 0) rfl rfl rfl rfl rfl,by simp⟩
theorem DV{u:cd}{m:Mach}{rest:List ae}{O:List ak}(hu:mh u)(ht:Tl u m rest O)(hm:cb u m)(ho:m.over=false)(hd:m.frames.length+m.left+1<=2 ^ 40) :
  ∃O' Bv,bd Tryz.prog 83 O [.mp 2 0] (fun r O1=>r=.cw []∧O1=O')∧Tl u (m.step u) Bv O'∧O.length<=O'.length:=by
 obtain⟨cq,lD⟩:=hm.over ho;unfold Mach.step;cases dG:m.frames with
 | nil=>exact absurd dG cq
 | cons f r =>
  have eE:=hm.frames f (by rw[dG];simp);obtain⟨t1,t2⟩:=ht.frame (f:=f) (by rw[dG];simp);obtain⟨n1,n2,n3⟩:=ht.apart dG;obtain⟨_,_,_,s1,s2,s3,s4,s5⟩:=ht.others;have Qi:∀e∈f.vals,SV.bj O.length e.2:=fun e he=>ht.under (eE.vals e he);have fo:=ht.stack;rw[dG]at fo;have kK:r.length<=2 ^ 40:=by
   have h2:=hm.left;rw[dG]at hd;simp only[List.length_cons]at hd;omega
  have hF:=kh eE.fn.1 eE.fn.2;have hB:=dP eE.blk.1 eE.blk.2;have PE:=hu.blocks _ (lU eE.fn.1 eE.fn.2) _ (iu eE.blk.1 eE.blk.2);simp only;cases hi:(aF (cx u f.fn) f.blk).ins[f.pos]? with
  | none =>
   have pP:f.pos=(aF (cx u f.fn) f.blk).ins.length:=by
    have:=List.getElem?_eq_none_iff.1 hi;have:=eE.pos;omega
   obtain⟨O',Bv,q1,q2,q3⟩:=yx ht hm dG PE.term;exact⟨O',Bv,step_end ht.upto ht.gd f r dG t1 n1 fo jU kK _ hF eE.fn.1 _ hB eE.blk.1 pP q1 (by omega) q2.upto,q2,by omega⟩
  | some i =>
   simp only;have C4:=PE.ins i (List.mem_of_getElem? hi);have bf:=I hi;have pN:=PE.len;obtain⟨f',ff⟩:∃f',f' = { f with pos:=f.pos+1 }:=⟨_,rfl⟩
   rw[<-ff];have Rj:f'.vals=f.vals:=by rw[ff]
   have jP:f'.bR=f.bR:=by rw[ff]
   have wx:f'.dn=f.dn:=by rw[ff]
   obtain⟨O1,dH⟩:∃O1,O1=O.set f.bR (.cells (aW f')):=⟨_,rfl⟩
   have h1:=ht.bP (f':=f') dG jP wx Rj;rw[<-dH]at h1;have dY:O.length=O1.length:=by rw[dH];simp
   have nC:nD u m f':=by
    rw[ff];exact⟨eE.fn,eE.blk,bf,eE.vals⟩
   have rp:cb u (m.bP f'):=hm.bP cq nC;have wv:(m.bP f').frames=f'::r:=by simp[Mach.bP,dG]
   have Oq:aB u (m.bP f')=aB u m:=by simp[aB,Mach.bP,dG]
   have tc:O1[2]?=some (.cells (aB u m)):=by rw[<-Oq];exact h1.gd
   obtain⟨args,eX⟩:∃args,args=fZ f.vals i.args:=⟨_,rfl⟩
   rw[<-eX];have mG:args.length=i.args.length:=by rw[eX];exact sc _ _
   have Ud:∀v∈args,fX u (m.bP f') v:=by
    rw[eX];exact fun v hv=>(re eE.vals i.args v hv).of_heap (by rfl)
   have PC:∀v∈args,SV.bj O1.length v:=fun v hv=>h1.under (Ud v hv);have Qg:=h1.stack;have Vi:(m.bP f').frames.length<=2 ^ 41:=by
    rw[wv];simp only[List.length_cons];omega
   have Oz:∀fn:Int,0<=fn∧fn<u.fns.length->(aF (cx u fn) 0).params.length=args.length ->
     ∃O',bd Tryz.prog 81 O1 [.mp 2 0,aI fn,.aA 4 (args.map SV.enc) .sh,aI i.to] (fun r O2=>r=.cw []∧O2=O')∧Tl u ((m.bP f').enter u fn args i.to) [] O'∧O.length<=O'.length:=fun fn qM hp=>by
    have hC:=CO h1.upto h1.gd Qg (by simp[eL]) s2 h1.len Vi fn qM (hu.ne _ (lU qM.1 qM.2)).1 args PC hp i.to;have jc:=h1.push fn i.to args _ rfl PC;exact⟨_,hC,jc,by simp;omega⟩
   unfold Mach.act;by_cases KJ:i.op=13
   ·rw[if_pos KJ];obtain⟨c1,c2,c3⟩:=C4.call KJ;obtain⟨O',q1,q2,q3⟩:=Oz i.n ⟨c1,c2⟩ (by rw[mG];exact c3);exact⟨O',[],GR ht.upto ht.gd f r dG t1 n1 fo jU kK _ hF eE.fn.1 _ hB eE.blk.1 t2 n3 Qi i hi (by omega) C4.len f' ff args eX O1 dH KJ q1 q3 q2.upto,q2,q3⟩
   rw[if_neg KJ];by_cases KK:i.op=14
   ·rw[if_pos KK];obtain⟨c,hc⟩:=kE (mG.trans rfl) (k:=0) (by have:=C4.app KK;omega);have Yu:=fC hc;rw[Yu];have Ha:=Ud c (List.mem_of_getElem? hc);have jc:=h1.oX ((m.bP f').stop 5 0) rfl rfl rfl rfl rfl;have jR:aB u ((m.bP f').stop 5 0)=aB u (m.stop 5 0):=by simp[aB,Mach.bP,Mach.stop,dG]
    by_cases hk:c.kind=2
    ·obtain⟨k1,k2⟩:=SV.Wf.fn Ha hk;have hG:=kh k1 k2;have hD:(cx u c.n).blocks[0]?=some (aF (cx u c.n) 0):=by
      obtain⟨z1,z2⟩:=RH hu k1 k2;exact dP z1 z2
     by_cases hp:(aF (cx u c.n) 0).params.length=args.length
     ·rw[if_pos ⟨hk,hp⟩];obtain⟨O',q1,q2,q3⟩:=Oz c.n ⟨k1,k2⟩ hp;exact⟨O',[],JU ht.upto ht.gd f r dG t1 n1 fo jU kK _ hF eE.fn.1 _ hB eE.blk.1 t2 n3 Qi i hi (by omega) C4.len f' ff args eX O1 dH KK c hc hk k1 _ hG _ hD hp PC q1 q3 q2.upto tc,q2,q3⟩
     rw[if_neg (fun q=>hp q.2)];refine⟨_,rest,zg ht.upto ht.gd f r dG t1 n1 fo jU kK _ hF eE.fn.1 _ hB eE.blk.1 t2 n3 Qi i hi (by omega) C4.len f' ff args eX O1 dH KK c hc hk k1 _ hG _ hD hp PC tc,?_,by simp;omega⟩;rw[<-jR];exact jc
    rw[if_neg (fun q=>hk q.1)];refine⟨_,rest,wP ht.upto ht.gd f r dG t1 n1 fo jU kK _ hF eE.fn.1 _ hB eE.blk.1 t2 n3 Qi i hi (by omega) C4.len f' ff args eX O1 dH KK c hc hk PC tc,?_,by simp;omega⟩;rw[<-jR];exact jc
   rw[if_neg KK];have VV:(m.bP f').short=false:=lD;obtain⟨O2,q1,q2,q3⟩:=CR h1 rp VV C4 KJ KK mG Ud;have k8:=yv rp C4 mG Ud;generalize (m.bP f').exec i args=R at *;have PT:R.1.frames=f'::r:=by rw[k8.frames,wv]
   obtain⟨w1,w2⟩:=q2.frame (f:=f') (by rw[PT];simp);rw[jP]at w1;rw[wx,Rj]at w2;have pQ:=q2.under k8.val;have wD:∀e∈f.vals,SV.bj O2.length e.2:=fun e he=>(Qi e he).mono (by omega);have XH:∀e∈eT f.vals i.to R.2.1,SV.bj O2.length e.2:=fun x hx=>by
    rcases js hx with q|q
    ·exact wD x q
    rw[q];exact pQ
   unfold Mach.settle;rw[Rj];by_cases Rh:R.2.2=0
   ·rw[if_neg (by simp[Rh])];have hC:=GS ht.upto ht.gd f r dG t1 n1 fo jU kK _ hF eE.fn.1 _ hB eE.blk.1 t2 n3 Qi i hi (by omega) C4.len f' ff args eX O1 dH ⟨KJ,KK⟩ R.2.1 R.2.2 q1 (by omega) q2.upto pQ R.1 q2.gd w1 w2 wD n2 Rh;have jc:=q2.y8 (f':={ f' with vals:=eT f.vals i.to R.2.1 }) PT rfl XH;exact⟨_,rest,hC,jc.of_eq rfl (by rw[wx]),by simp;omega⟩
   rw[if_pos Rh];have hC:=GV ht.upto ht.gd f r dG t1 n1 fo jU kK _ hF eE.fn.1 _ hB eE.blk.1 t2 n3 Qi i hi (by omega) C4.len f' ff args eX O1 dH ⟨KJ,KK⟩ R.2.1 R.2.2 q1 (by omega) q2.upto pQ R.1 q2.gd w1 w2 wD n2 Rh;have q4:=q2.oX (R.1.stop R.2.2 0) rfl rfl rfl rfl rfl;have jc:=q4.y8 (f':={ f' with vals:=eT f.vals i.to R.2.1 }) PT rfl (by
    rw[List.length_set];exact XH)
   exact⟨_,rest,hC,jc.of_eq rfl (by rw[wx]),by simp;omega⟩
def QY.enc(a:QY):ae:=.cw [.agg [.aA 1 (a.out.map aI) .sh,aI a.fin,aI a.val],aI a.n,aI a.e]
theorem CI{f:FuncId}{O:List ak}{a b d:ae}{sz:Nat}{R:ae->List ak->Prop}(h:bd Tryz.prog f O [a,b,.aA sz [] .sh,d] R):bd Tryz.prog f O [a,b,.v (.slice none 0 0),d] R :=
 ⟨h.1,fun g vs hg ho ha=>h.2 g vs hg ho ⟨ha.1,fun i c u hc hu=>by
  match i,hc,hu with
  | 0,hc,hu=>exact ha.2 0 c u hc hu
  | 1,hc,hu=>exact ha.2 1 c u hc hu
  | 2,hc,hu =>
   simp only[List.getElem?_cons_succ,List.getElem?_cons_zero,Option.some.injEq]at hc;subst hc;have:=(ha.2 2 _ u rfl hu).bZ.1;subst this;exact .nil (fun id e=>by cases e) (by simp)
  | 3,hc,hu=>exact ha.2 3 c u hc hu
  | i+4,hc,_=>simp at hc⟩⟩
theorem JT{u:cd}(hu:mh u){fuel:Int}(h0:0<=fuel)(h1:fuel<=1000000):cb u ((Mach.start fuel).enter u u.main [] 0):=by
 have hs:cb u { Mach.start fuel with over:=true } :=
  ⟨by simp[Mach.start],by simp[Mach.start],h0,by simp[Mach.start];omega,by simp[Mach.start],by simp[Mach.start],by simp[Mach.start],by simp[Mach.start,fv],by simp[Mach.start],by simp⟩
 have h:=hs.enter hu (by simp) (by simp[Mach.start];omega) hu.main (args:=[]) (by simp) 0;exact⟨fun f hf=>(h.frames f hf).of_heap (by rfl),fun a ha=>by simp[Mach.start,Mach.enter]at ha,h.left,h.depth,h.out,h.words,h.fin,h.val,h.done,fun _=>⟨by simp[Mach.enter],rfl⟩⟩
theorem BM{u:cd}(hu:mh u){fuel:Int}(hp:(aF (cx u u.main) 0).params=[]):Tl u ((Mach.start fuel).enter u u.main [] 0) [] [.gone,.cells [.aA 1 [] .ex,aI 0,aI 0],.cells (aB u ((Mach.start fuel).enter u u.main [] 0)),.spare 0,.map (.int .i64) [],.cells [aI u.main,aI 0,aI 0,aI 0,.mm 4],.cells [.mp 5 0]] where
 len:=rfl
 upto:=by simp[ak.upto,av,kW,ae.upto,aB,Func.ag,Mach.enter,Mach.start]
 holds:=by
  intro p Oy;simp only[bY,Mach.enter,Mach.start,me,dC,hp,gl,List.append_nil,List.mem_cons,List.mem_nil_iff,or_false,List.mem_append]at Oy;rcases Oy with rfl|rfl|rfl|rfl|rfl|rfl
  all_goals rfl
 nodup:=by
  simp[ed,bY,Mach.enter,Mach.start,me,dC]
theorem JF{u:cd}{m:Mach}(h:m.over=true)(k:Nat):Mach.run u k m=m:=by
 cases k with
 | zero=>rfl
 | succ k=>simp[Mach.run,h]
theorem yU{u:cd}(hu:mh u){fuel:Int}(Sw:0<=fuel)(nC:fuel<=1000000):bA Tryz.prog 54 [u.enc,aI fuel] (vo u fuel).enc:=by
 have hp:=hu.none;have FW:=CI (An (fuel:=fuel) hu.main (hu.ne _ (lU hu.main.1 hu.main.2)).1 hp 4 .sh);have fo:=BM hu (fuel:=fuel) hp;have VX:=JT hu Sw nC;obtain⟨K,hK⟩:∃K,K=fuel.toNat+2:=⟨_,rfl⟩
 obtain⟨E,hE⟩:∃E,E=Mach.run u K ((Mach.start fuel).enter u u.main [] 0):=⟨_,rfl⟩
 have eh:vo u fuel=if E.short then⟨[],0,0,0,13⟩else⟨E.out,E.fin,E.val,fuel-E.left,0⟩:=by
  rw[hE,hK];rfl
 rw[eh];have Om:((Mach.start fuel).enter u u.main [] 0).left=fuel:=rfl;unfold yO at FW;generalize lL:(Mach.start fuel).enter u u.main [] 0=m0 at *;refine zf true 0 Tryz.func54 Tryz.ntmps54 ?_;dsimp only[Tmp,TypeId,slotsOf];refine ay (ai ?_);refine aC 2 0 (.ip none [bc u.fns,aI u.main]) rfl (by simp[ak.aD]) trivial rfl ?_ ?_;rotate_left;simp -dsimp only[simprocAttr,↓aa,zp]
 ·refine ay (ai ?_);refine cY 2 6 rfl rfl ?_;simp -dsimp only[simprocAttr,↓aa,zp];refine ay ?_;refine .inr (.inl ⟨_,_,FW,.inl (ao (zj ?_))⟩);refine ai ?_;refine aH (ah (aL (ι:={p:Mach×List ae×List ak // cb u p.1∧Tl u p.1 p.2.1 p.2.2∧p.1.left<=fuel∧∃k,p.1.left.toNat+2<=k∧Mach.run u k p.1=E}) (fun p=>⟨45,[(1,aI fuel),(4,.mp 1 0),(5,aI 0),(6,aI 0),(7,.mp 2 0)],p.1.2.2⟩) (fun p=>p.1.1.left.toNat) ⟨(m0,[],_),VX,fo,by simp only[Om];omega,K,by simp only[Om];omega,hE.symm⟩ ?_ ?_))
  ·refine zq rfl ?_ ?_;simp -dsimp only[simprocAttr,↓aa,zp,zc];rfl
  rintro⟨⟨m,rest,O⟩,hm,ht,Zd,k,hk,bF⟩;simp only at hm ht Zd hk bF;have yG:=ht.gd;unfold aB at yG;have YJ:=hm.depth;have P1:=hm.left;have tg:O[1]?=some (.cells [.aA 1 [] .ex,aI 0,aI 0]):=ht.holds (1,_) (by simp[bY]);have xv:=dk tg;have Ot:=I ht.gd;have wy:=vn ht.upto ht.gd 1 P1 (by omega) (by omega);cases rM:m.over with
  | true =>
   rw[JF rM]at bF;subst bF;rw[rM]at yG;refine c7 ?_;simp -dsimp only[simprocAttr,↓aa,zp,yG];refine ai ?_;refine cv rfl ?_;refine aK ?_;simp -dsimp only[bI,ne_eq,Nat.reduceEqDiff,reduceCtorEq];cases lD:m.short with
   | true =>
    rw[lD]at yG;refine c7 ?_;simp -dsimp only[simprocAttr,↓aa,zp,yG];refine ai ?_;refine cB rfl ?_;refine aQ ?_;simp -dsimp only[simprocAttr,↓aa,zp,tg];refine ai ?_;refine aq ?_;simp -dsimp only[simprocAttr,↓aa,zp,zr,Tryz.results54,xv];exact⟨by simp[av,ae.upto],rfl⟩
   | false =>
    rw[lD]at yG;refine c7 ?_;simp -dsimp only[simprocAttr,↓aa,zp,yG];refine ai ?_;refine cv rfl ?_;refine cj ?_;refine aQ ?_;simp -dsimp only[simprocAttr,↓aa,zp,yG,tg]
    repeat(refine⟨by omega,?_⟩)
    refine⟨b7 [1,2] O.length [.pure,.pure,.pure,.rd 1,.pure,.pure,.pure,.pure,.rd 1,.pure,.wr 2 [0],.pure,.pure] (by simp) (by simp;omega) rfl rfl (by kernel_rfl),a6 ?_⟩;simp -dsimp only[bI,ne_eq,Nat.reduceEqDiff,reduceCtorEq];refine aq ?_;simp -dsimp only[simprocAttr,↓aa,zp,zr,Tryz.results54,xv];exact⟨by simp[av,ae.upto,ax],rfl⟩
  | false =>
   obtain⟨k,rfl⟩:∃j,k=j+1:=⟨k-1,by omega⟩
   have EG:(if(m.fG 1).short then m.fG 1 else Mach.run u k (Mach.step u (m.fG 1)))=E:=by
    rw[<-bF];simp[Mach.run,rM]
   have Tv:=ht.oX (m.fG 1) (gq m 1).2.2.2.2.2.1 (gq m 1).1 (gq m 1).2.1 (by rw[(gq m 1).2.2.1]) (gq m 1).2.2.2.2.2.2;have tc:=Tv.gd;have OC:(O.set 2 (.cells (aB u (m.fG 1))))[1]?=some (.cells [.aA 1 [] .ex,aI 0,aI 0]):=Tv.holds (1,_) (by simp[bY]);have Tj:=dk OC;rw[rM]at yG;by_cases C9:m.left<1
   ·have qO:(m.fG 1).short=true:=by simp[Mach.fG,C9]
    rw[qO,if_pos rfl]at EG;have Q0:E.short=true:=by
     rw[<-EG];exact qO
    obtain⟨O1,dH⟩:∃O1,O1=O.set 2 (.cells (aB u (m.fG 1))):=⟨_,rfl⟩
    rw[<-dH]at wy tc OC;simp only[<-dH]at Tj;unfold aB at tc;rw[qO]at tc;refine c7 ?_;simp -dsimp only[simprocAttr,↓aa,zp,yG];refine ai ?_;refine cB rfl ?_;refine cj ?_;refine ah ?_;refine ay ?_;refine .inr (.inl ⟨_,_,wy,.inl (ao (zj ?_))⟩);refine ai ?_;refine c7 ?_;simp -dsimp only[simprocAttr,↓aa,zp,tc];refine ai ?_;refine cB rfl ?_;refine aQ ?_;simp -dsimp only[simprocAttr,↓aa,zp,OC];refine ai ?_;refine aq ?_;simp -dsimp only[simprocAttr,↓aa,zp,zr,Tryz.results54,Tj,Q0];exact⟨by simp[av,ae.upto],rfl⟩
   have AL:m.fG 1 = { m with left:=m.left-1 }:=by simp[Mach.fG,C9]
   have qO:(m.fG 1).short=false:=by
    rw[AL];exact(hm.over rM).2
   have P9:(m.fG 1).over=false:=by
    rw[AL];exact rM
   have rp:cb u (m.fG 1):=by
    rw[AL];exact⟨fun f hf=>(hm.frames f hf).of_heap (by rfl),fun a ha=>⟨(hm.gR a ha).1,fun v hv=>((hm.gR a ha).2 v hv).of_heap (by rfl)⟩,by simp;omega,by simp;omega,hm.out,hm.words,hm.fin,hm.val,hm.done,fun h=>hm.over h⟩
   have wu:(m.fG 1).frames.length+(m.fG 1).left+1<=2 ^ 40:=by
    rw[AL];simp;omega
   obtain⟨O2,TN,q1,q2,q3⟩:=DV hu Tv rp P9 wu;have zI:=rp.step hu P9 wu;have ng:(Mach.step u (m.fG 1)).left<=m.left-1:=by
    have:=GU u (m.fG 1) rp hu P9;rw[AL]at this ⊢;exact this
   have Zu:=zI.left;rw[qO,if_neg (by simp)]at EG;obtain⟨O1,dH⟩:∃O1,O1=O.set 2 (.cells (aB u (m.fG 1))):=⟨_,rfl⟩
   rw[<-dH]at wy tc q1;unfold aB at tc;rw[qO]at tc;refine c7 ?_;simp -dsimp only[simprocAttr,↓aa,zp,yG];refine ai ?_;refine cB rfl ?_;refine cj ?_;refine ah ?_;refine ay ?_;refine .inr (.inl ⟨_,_,wy,.inl (ao (zj ?_))⟩);refine ai ?_;refine c7 ?_;simp -dsimp only[simprocAttr,↓aa,zp,tc];refine ai ?_;refine cv rfl ?_;refine cj ?_;refine cM ?_;refine .inr (.inl ⟨_,_,q1,.inl (ao (zj ?_))⟩);refine Wo ?_;refine⟨⟨(Mach.step u (m.fG 1),TN,O2),zI,q2,by simp only;omega,k,by simp only;omega,EG⟩,by simp only;omega,?_⟩;refine zq rfl ?_ ?_;simp -dsimp only[simprocAttr,↓aa,zp,zc];rfl
 exact bM.mp rfl rfl
theorem ud{u:cd}:∀{l:List Ins},pF u l=0->∀i∈l,jZ u i=0
 | [],_,f,h=>by simp at h
 | g::r,h,f,hf=>by
  have:=iR h;rcases List.mem_cons.1 hf with q|q
  ·subst q;exact this.1
  exact ud this.2 f q
theorem ub{u:cd}:∀{l:List Block},mo u l=0->∀b∈l,∀i∈b.ins,jZ u i=0
 | [],_,f,h=>by simp at h
 | g::r,h,f,hf=>by
  have:=iR h;rcases List.mem_cons.1 hf with q|q
  ·subst q;exact ud this.1
  exact ub this.2 f q
theorem uc{u:cd}:∀{l:List Func},jh u l=0->∀f∈l,∀b∈f.blocks,∀i∈b.ins,jZ u i=0
 | [],_,f,h=>by simp at h
 | g::r,h,f,hf=>by
  have:=iR h;rcases List.mem_cons.1 hf with q|q
  ·subst q;exact ub this.1
  exact uc this.2 f q
theorem Hz{u:cd}{i:Ins}(h:jZ u i=0):(i.op=13∨i.op=9->i.n<u.fns.length)∧(i.op=13->(aF (cx u i.n) 0).params.length=i.args.length)∧(i.op=9->(aF (cx u i.n) 0).params.length≠0):=by
 unfold jZ at h;split at h
 ·exact⟨by omega,by omega,by omega⟩
 split at h
 ·simp at h
 split at h
 ·simp at h
 exact⟨by omega,by omega,by omega⟩
structure Rx(u:cd):Prop where
 few:u.fns.length<=256
 main:0<=u.main∧u.main<u.fns.length
 none:(aF (cx u u.main) 0).params=[]
 fns:∀f∈u.fns,N4 f
 calls:∀f∈u.fns,∀b∈f.blocks,∀i∈b.ins,jZ u i=0
theorem HQ{u:cd}(bo:u.fit)(h:fT u=0):Rx u:=by
 unfold fT at h;split at h
 ·simp at h
 split at h
 ·simp at h
 split at h
 ·simp at h
 rename_i h3;have h4:=iR h;have h5:=h4.2;split at h5
 ·simp at h5
 rename_i h6;have hw:0<=u.main∧u.main<=(u.fns.length:Int)-1:=by simpa[within]using h3
 refine⟨by omega,by omega,List.length_eq_zero_iff.1 (by omega),fun f hf=>cS (bo.2.2 f hf) (mF h4.1 f hf),uc h5⟩
theorem NY{u:cd}(bo:u.fit)(h:fT u=0):mh u:=by
 have hw:=HQ bo h;refine⟨hw.main,hw.few,hw.none,fun f hf=>⟨(hw.fns f hf).ne,by have:=(hw.fns f hf).few;omega⟩,fun f hf b hb=>?_⟩;have hF:=hw.fns f hf;have hB:=hF.blk b hb;have hE:=mD hB.fin;refine⟨fun i hi=>?_,⟨hE.kind,?_,hE.jump,hE.cond,hE.switch,fun e he=>?_,by have:=hE.cases;omega⟩,by have:=hF.ins b hb;omega⟩
 ·have gP:=tt (hB.Eo i hi);have hc:=Hz (hw.calls f hf b hb i hi);have Xk:=((bo.2.2 f hf).2.2 b hb).2.2.2.1 i hi;have hlen:=gP.len;refine⟨.inl gP.op,by omega,⟨Xk.1,Xk.2.2.1⟩,fun q=>(gP.c0 q).1,gP.c2,fun q=>gP.c1 (by have:=gP.op;omega),gP.c3,fun q=>⟨?_,hlen⟩,fun q=>?_,fun q=>?_,gP.app,gP.UB,fun _=>hlen,gP.vec⟩
  ·have:=gP.T4 q;unfold fv;omega
  ·have:=gP.call (.inl q);have:=hc.1 (.inr q);exact⟨by omega,by omega,hlen⟩
  have:=gP.call (.inr q);exact⟨by omega,hc.1 (.inl q),hc.2.1 q⟩
 ·by_cases h4:b.term.kind=4
  ·have:=hE.NW h4;omega
  have:=hE.n h4;omega
 have KN:=hE.gG e he;have hm:=iu (f:=f) (k:=e.block) (by omega) (by omega);have:=(hF.blk _ hm).few;exact⟨by omega,by omega,KN.2,by omega⟩
def runM(u:cd)(fuel:Int):QY :=
 if fT u≠0 then⟨[],0,0,0,fT u⟩
 else if within fuel 1 1000000=false then⟨[],0,0,0,4⟩
 else vo u fuel
theorem JG(u:cd)(bo:u.fit)(fuel:Int):bA Tryz.prog 26 [u.enc,aI fuel] (runM u fuel).enc:=by
 have rn:=uv u bo;have hw:=dF fuel 1 1000000;obtain⟨R,hR⟩:∃R,R=runM u fuel:=⟨_,rfl⟩
 rw[<-hR];unfold runM at hR;by_cases hc:fT u=0
 ·rw[if_neg (by simp[hc])]at hR;have hu:=NY bo hc;rw[hc]at rn;cases EH:within fuel 1 1000000 with
  | false =>
   rw[if_pos EH]at hR;rw[EH]at hw;refine zf true 0 Tryz.func26 Tryz.ntmps26 ?_;dsimp only[Tmp,TypeId,slotsOf];refine ay (ai ?_);refine aC 2 0 (.ip none [bc u.fns,aI u.main]) rfl (by simp[ak.aD]) trivial rfl ?_ ?_;rotate_left;simp -dsimp only[simprocAttr,↓aa,zp]
   ·refine bV ?_;refine zi rn ?_;refine ai ?_;refine ay (ai ?_);refine cv rfl ?_;refine cj ?_;refine bV ?_;refine zi hw ?_;refine ai ?_;refine cB rfl ?_;refine ay (ai ?_);refine aq ?_;simp -dsimp only[simprocAttr,↓aa,zp,zr,Tryz.results26];rw[hR];exact⟨by simp[av,ae.upto],rfl⟩
   exact bM.mp rfl rfl
  | true =>
   rw[if_neg (by simp[EH])]at hR;have ZG:=within_iff.1 EH;have Qb:=yU hu (fuel:=fuel) (by omega) ZG.2;rw[<-hR]at Qb;unfold QY.enc at Qb;rw[EH]at hw;refine zf true 0 Tryz.func26 Tryz.ntmps26 ?_;dsimp only[Tmp,TypeId,slotsOf];refine ay (ai ?_);refine aC 2 0 (.ip none [bc u.fns,aI u.main]) rfl (by simp[ak.aD]) trivial rfl ?_ ?_;rotate_left;simp -dsimp only[simprocAttr,↓aa,zp]
   ·refine bV ?_;refine zi rn ?_;refine ai ?_;refine ay (ai ?_);refine cv rfl ?_;refine cj ?_;refine bV ?_;refine zi hw ?_;refine ai ?_;refine cv rfl ?_;refine cj ?_;refine ay ?_;refine zi Qb ?_;refine ai ?_;refine aq ?_;simp -dsimp only[simprocAttr,↓aa,zp,zr,Tryz.results26];exact⟨by simp[av,ae.upto,ax],rfl⟩
   exact bM.mp rfl rfl
 rw[if_pos hc]at hR;obtain⟨e,he⟩:∃e,e=fT u:=⟨_,rfl⟩
 rw[<-he]at hc rn hR;have j5:decide (e=0)=false:=decide_eq_false hc;refine zf true 0 Tryz.func26 Tryz.ntmps26 ?_;dsimp only[Tmp,TypeId,slotsOf];refine ay (ai ?_);refine aC 2 0 (.ip none [bc u.fns,aI u.main]) rfl (by simp[ak.aD]) trivial rfl ?_ ?_;rotate_left;simp -dsimp only[simprocAttr,↓aa,zp]
 ·refine bV ?_;refine zi rn ?_;refine ai ?_;refine aQ ?_;simp -dsimp only[simprocAttr,↓aa,zp,j5];refine ai ?_;refine cB rfl ?_;refine ay (ai ?_);refine aq ?_;simp -dsimp only[simprocAttr,↓aa,zp,zr,Tryz.results26];rw[hR];exact⟨by simp[av,ae.upto],rfl⟩
 exact bM.mp rfl rfl
theorem wL(l m:List Int):bA Tryz.prog 42 [aJ l,aJ m] (.v (.bool (decide (l=m)))):=by
 by_cases hlen:l.length=m.length
 ·have kK:decide ((l.length:Int)=m.length)=true:=decide_eq_true (by omega);obtain⟨R,hR⟩:∃R,R=decide (l=m):=⟨_,rfl⟩
  rw[<-hR];refine zf true 0 Tryz.func42 Tryz.ntmps42 ?_;dsimp only[Tmp,TypeId,slotsOf];refine ay (ai ?_);refine fD 0 rfl (fun IJ=>?_);simp only[List.length_map]at IJ;refine c7 ?_;simp -dsimp only[simprocAttr,↓aa,zp,kK];refine ai ?_;apply aN rfl<;>intro h
  ·cases h
  refine cj ?_;refine bV (ai ?_);refine ah (aL (ι:={k:Nat // k<=l.length∧R=decide (l.drop k=m.drop k)}) (fun k=>⟨26,[(0,aJ l),(1,aJ m),(4,.v (.bool false)),(12,aJ l),(13,aI l.length),(14,aI k.1)],[]⟩) (fun k=>l.length-k.1) ⟨0,by omega,hR⟩ ?_ ?_)
  ·refine zq rfl ?_ ?_;simp -dsimp only[simprocAttr,↓aa,zp,zc];rfl
  rintro⟨k,hk,di⟩;refine ay (ai ?_);apply gJ rfl<;>intro h
  ·refine cj ?_;have bf:k<l.length:=by simpa using h
   obtain⟨a,ha⟩:∃a,l[k]?=some a:=⟨l[k],by simp[bf]⟩
   obtain⟨b,hb⟩:∃b,m[k]?=some b:=⟨m[k]'(by omega),List.getElem?_eq_getElem _⟩
   rw[bK ha,bK hb]at di;simp only[List.cons.injEq,Bool.decide_and]at di;refine aH (ah ?_);refine aQ ?_;simp -dsimp only[simprocAttr,↓aa,zp,ha];refine ai ?_;by_cases KL:b=a
   ·have PJ:decide (b=a)=true:=decide_eq_true KL;rw[decide_eq_true KL.symm,Bool.true_and]at di;refine aQ ?_;simp -dsimp only[simprocAttr,↓aa,zp,hb,PJ]
    repeat(refine⟨by omega,?_⟩)
    refine ai ?_;refine cv rfl ?_;refine kp ?_;refine cM ?_
    repeat(refine⟨by omega,?_⟩)
    refine eZ ?_;refine⟨⟨k+1,bf,di⟩,by simp;omega,?_⟩;refine zq rfl ?_ ?_;simp -dsimp only[simprocAttr,↓aa,zp,zc]
    ·exact Sub.int (by simp)
    rfl
   have PJ:decide (b=a)=false:=decide_eq_false KL;rw[decide_eq_false (fun e=>KL e.symm),Bool.false_and]at di;refine aQ ?_;simp -dsimp only[simprocAttr,↓aa,zp,hb,PJ]
   repeat(refine⟨by omega,?_⟩)
   refine ai ?_;refine cB rfl ?_;refine ay (ai ?_);refine aq ?_;simp -dsimp only[simprocAttr,↓aa,zp,zr,Tryz.results42];rw[di]
  refine aK ?_;simp -dsimp only[bI,ne_eq,Nat.reduceEqDiff,reduceCtorEq];have gi:k=l.length:=by simp at h;omega
  subst gi;rw[List.drop_length,hlen,List.drop_length]at di;refine ay (ai ?_);refine aq ?_;simp -dsimp only[simprocAttr,↓aa,zp,zr,Tryz.results42];rw[di];rfl
 have kK:decide ((l.length:Int)=m.length)=false:=decide_eq_false (by omega);rw[decide_eq_false (fun e=>hlen (by rw[e]))];refine zf true 0 Tryz.func42 Tryz.ntmps42 ?_;dsimp only[Tmp,TypeId,slotsOf];refine ay (ai ?_);refine c7 ?_;simp -dsimp only[simprocAttr,↓aa,zp,kK];refine ai ?_;refine cB rfl ?_;refine ay (ai ?_);refine aq ?_;simp -dsimp only[simprocAttr,↓aa,zp,zr,Tryz.results42]
abbrev Pn(out:List Int)(fin val:Int):ae:=.agg [.aA 1 (out.map aI) .sh,aI fin,aI val]
theorem tn(l m:List Int)(e f v w:Int):bA Tryz.prog 27 [Pn l e v,Pn m f w] (.v (.bool ((decide (e=f)&&decide (v=w))&&decide (l=m)))):=by
 have hs:=wL l m;cases h1:decide (e=f)
 ·refine zf true 0 Tryz.func27 Tryz.ntmps27 ?_;dsimp only[Tmp,TypeId,slotsOf];refine ay (ai ?_);refine aQ ?_;simp -dsimp only[simprocAttr,↓aa,zp,h1];refine ai ?_;refine aq ?_;simp -dsimp only[simprocAttr,↓aa,zp,zr,Tryz.results27]
 cases h2:decide (v=w)
 ·refine zf true 0 Tryz.func27 Tryz.ntmps27 ?_;dsimp only[Tmp,TypeId,slotsOf];refine ay (ai ?_);refine aQ ?_;simp -dsimp only[simprocAttr,↓aa,zp,h1,h2];refine ai ?_;refine aq ?_;simp -dsimp only[simprocAttr,↓aa,zp,zr,Tryz.results27]
 refine zf true 0 Tryz.func27 Tryz.ntmps27 ?_;dsimp only[Tmp,TypeId,slotsOf];refine ay (ai ?_);refine aQ ?_;simp -dsimp only[simprocAttr,↓aa,zp,h1,h2];refine .inl ⟨_,hs,by simp only[av,ae.upto,zt,zu,ax],ao ?_⟩;simp -dsimp only[simprocAttr,↓aa,zp,h1,h2];refine ai ?_;refine aq ?_;simp -dsimp only[simprocAttr,↓aa,zp,zr,Tryz.results27]
end Go.Proofs.YtjdnhamngpafmaaGreat
namespace Go.Av
theorem Ch{P:Program}{kb:Nat}{c:Code}{Q:dt->St->Prop}{n:Nat}{bn:List (Nat×ae)}{O:List ak}(k m:Nat)(hk:k<O.length)
  (h:bX P kb c Q ⟨n,bn,(O++List.replicate m (ak.spare 0)).set k (.cells ((List.range m).map fun j=>.aA 1 [] (.tok (O.length+j))))⟩):bX P kb c Q ⟨n,bn,O.set k (.cells (List.replicate m (.aA 1 [] .ex)))⟩:=by
 obtain⟨conv,xl⟩:∃conv:Nat->List ae,conv=fun q=>((List.range q).map fun j=>ae.aA 1 [] (.tok (O.length+j)))++List.replicate (m-q) (.aA 1 [] .ex):=⟨_,rfl⟩
 have key:∀q,q<=m->bX P kb c Q ⟨n,bn,(O++List.replicate q (ak.spare 0)).set k (.cells (conv q))⟩->bX P kb c Q ⟨n,bn,O.set k (.cells (List.replicate m (.aA 1 [] .ex)))⟩:=fun q=>by
  induction q with
  | zero =>
   intro _ h;simpa[xl]using h
  | succ q ih =>
   intro hq h;refine ih (by omega) (cY k q (sz:=1) (cs:=conv q) (xs:=[]) ?_ ?_ ?_)
   ·rw[List.getElem?_set_self (by simp;omega)]
   ·rw[xl];simp only;rw[List.getElem?_append_right (by simp)];simp only[List.length_map,List.length_range,Nat.sub_self];rw[show m-q=(m-(q+1))+1 by omega,List.replicate_succ];rfl
   have e1:(O++List.replicate q (ak.spare 0)).set k (.cells (conv q))++[ak.spare ([]:List ae).length]=(O++List.replicate (q+1) (ak.spare 0)).set k (.cells (conv q)):=by
    rw[List.set_append_left _ _ hk,List.set_append_left _ _ hk,List.append_assoc];congr 1;rw[List.replicate_succ'];rfl
   have e2:(conv q).set q (.aA 1 [] (.tok ((O++List.replicate q (ak.spare 0)).set k (.cells (conv q))).length))=conv (q+1):=by
    rw[xl];simp only[List.length_set,List.length_append,List.length_replicate];rw[List.set_append_right _ _ (by simp)];simp only[List.length_map,List.length_range,Nat.sub_self];rw[show m-q=(m-(q+1))+1 by omega,List.replicate_succ,List.set_cons_zero,List.range_succ,List.map_append,List.append_assoc];rfl
   rw[e1,e2,List.set_set];exact h
 refine key m (Nat.le_refl _) ?_;simpa[xl]using h
end Go.Av
namespace Go.Proofs.YtjdnhamngpafmaaGreat
open Go.Av
def k9(b:Nat)(ls:List (List Int)):List ae:=ls.mapIdx fun j l=>.aA 1 (l.map aI) (.tok (b+j))
theorem Ju{b:Nat}{ls:List (List Int)}{j:Nat}{l:List Int}(h:ls[j]?=some l):(k9 b ls)[j]?=some (.aA 1 (l.map aI) (.tok (b+j))):=by
 simp[k9,h]
theorem Jv{b:Nat}{ls:List (List Int)}{j:Nat}(l:List Int):(k9 b ls).set j (.aA 1 (l.map aI) (.tok (b+j)))=k9 b (ls.set j l):=by
 apply List.ext_getElem?;intro i;simp only[k9,List.getElem?_set,List.getElem?_mapIdx,List.length_mapIdx];by_cases e:j=i
 ·subst e;by_cases hl:j<ls.length
  ·simp[hl]
  simp[hl]
 simp[e]
theorem vj(b:Nat)(ls:List (List Int)):(k9 b ls).length=ls.length:=by simp[k9]
theorem Bi(b n:Nat):k9 b (List.replicate n [])=(List.range n).map fun j=>.aA 1 [] (.tok (b+j)):=by
 apply List.ext_getElem?;intro i;simp only[k9,List.getElem?_mapIdx,List.getElem?_map];by_cases h:i<n
 ·simp[h]
 simp[h]
theorem DA(b:Nat)(ls:List (List Int)):(k9 b ls).map ae.bg=an (ls.map aJ):=by
 have h1:an (ls.map aJ)=ls.map aJ:=by
  induction ls with
  | nil=>rfl
  | cons l r ih =>
   simp only[List.map_cons,an,List.flatMap_cons]at ih ⊢;rw[ih];rfl
 rw[h1];apply List.ext_getElem?;intro i;simp only[k9,List.getElem?_map,List.getElem?_mapIdx];cases ls[i]? with
 | none=>rfl
 | some l =>
  simp only[Option.map_some,Option.some.injEq];rw[bW]
theorem xM{b n:Nat}{ls:List (List Int)}(h:b+ls.length<=n):av n (k9 b ls):=by
 rw[aT];intro x hx;obtain⟨j,hj⟩:=List.mem_iff_getElem?.1 hx;simp only[k9,List.getElem?_mapIdx]at hj;cases hl:ls[j]? with
 | none=>rw[hl]at hj;cases hj
 | some l =>
  rw[hl]at hj;simp only[Option.map_some,Option.some.injEq]at hj;subst hj;have:=I hl;exact⟨ax _ _,show _<_ by omega⟩
theorem cA{cs:List ae}{j:Nat}(x:ae)(h:j<cs.length):bh cs j [x]=cs.set j x:=by
 apply List.ext_getElem?;intro i;rw[mY (by simp;omega),List.getElem?_set];simp only[List.length_cons,List.length_nil,Nat.zero_add];by_cases e:j=i
 ·subst e;simp[h]
 rw[if_neg (by omega),if_neg e]
structure PO(ls:List (List Int))(O:List ak):Prop where
 len:O.length=ls.length+2
 arr:O[1]?=some (.cells (k9 2 ls))
 sp:∀j l,ls[j]?=some l->O[2+j]?=some (.spare l.length)
 up:∀o∈O,o.upto O.length
theorem PO.push{ls:List (List Int)}{O:List ak}(h:PO ls O){j:Nat}{l:List Int}(hj:ls[j]?=some l)(k:Int):PO (ls.set j (l++[k])) ((O.set (2+j) (.spare (l.length+1))).set 1 (.cells (k9 2 (ls.set j (l++[k]))))):=by
 have bf:=I hj;have hl:=h.len;refine⟨by simp[hl],?_,fun i m hi=>?_,?_⟩
 ·rw[List.getElem?_set_self (by simp;omega)]
 ·rw[List.getElem?_set_ne (by omega)];by_cases e:j=i
  ·subst e;rw[List.getElem?_set_self bf]at hi;simp only[Option.some.injEq]at hi;subst hi;rw[List.getElem?_set_self (by omega)];simp
  rw[List.getElem?_set_ne e]at hi;rw[List.getElem?_set_ne (by omega)];exact h.sp i m hi
 have h1:∀o∈O.set (2+j) (.spare (l.length+1)),o.upto O.length:=bt h.up trivial;have h2:=bt (k:=1) (x:=.cells (k9 2 (ls.set j (l++[k])))) h1 (by
  show av _ _;exact xM (by simp[hl];omega))
 simpa using h2
def nk(k:Nat)(ls:List (List Int))(e:Edge):List (List Int):=ls.set e.block.toNat ((ls[e.block.toNat]?.getD [])++[(k:Int)])
def nj(k:Nat)(ls:List (List Int))(es:List Edge):List (List Int):=es.foldl (nk k) ls
def oe:Nat->List (List Int)->List Block->List (List Int)
 | _,ls,[]=>ls
 | k,ls,b::r=>oe (k+1) (nj k ls b.term.to) r
def fU(f:Func):List (List Int):=oe 0 (List.replicate f.blocks.length []) f.blocks
theorem xP(k:Nat)(ls:List (List Int))(e:Edge):(nk k ls e).length=ls.length:=by simp[nk]
theorem r6(k:Nat):∀(es:List Edge) (ls:List (List Int)),(nj k ls es).length=ls.length
 | [],_=>rfl
 | e::r,ls=>by
  show(nj k (nk k ls e) r).length=_;rw[r6 k r,xP]
theorem r7:∀(l:List Block) (k:Nat) (ls:List (List Int)),(oe k ls l).length=ls.length
 | [],_,_=>rfl
 | b::r,k,ls=>by
  simp only[oe];rw[r7 r,r6]
theorem QO{f:Func}{t:Term}(mH:Rt f t):t.to.length<=257:=by
 rcases(show(t.kind=0∨t.kind=4)∨t.kind=1∨t.kind=2∨t.kind=3 by have:=mH.kind;omega)with q|q|q|q
 ·rw[mH.to q];simp
 ·rw[mH.jump q];omega
 ·rw[mH.cond q];omega
 rw[mH.switch q];have:=mH.cases;omega
theorem Gx(f:Func):(fU f).length=f.blocks.length:=by simp[fU,r7]
theorem xL(n:Nat):(List.replicate n [ae.aA 1 [] .ex]).flatten=List.replicate n (.aA 1 [] .ex):=by
 induction n with
 | zero=>rfl
 | succ n ih=>rw[List.replicate_succ,List.flatten_cons,ih,List.replicate_succ];rfl
def iE(b:Block):List Int:=b.params++b.ins.map Ins.to
def ma(f:Func):List Int:=f.blocks.flatMap iE
def Ry(f:Func):Prop:=∀v∈ma f,0<=v∧v<=4095
end Go.Proofs.YtjdnhamngpafmaaGreat
namespace Go.Av
theorem RV.TW{g:G}{sz:Nat}{xs:List ae}{a:Addr}{len cap:Nat}(h:RV g (.aA sz xs .sh) (.slice (some a) len cap)):RV g (.aA sz xs .nn) (.slice (some a) len cap):=by
 cases h with
 | aA cH df cP cy hs f hm hr ho=>exact .aA cH df cP cy hs f hm hr trivial
theorem bM.TJ{O:List ak}{id off len cap sz:Nat}{cs xs:List ae}(fK:O[id]?=some (.cells cs))(cH:∀x∈xs,x.cells.length=sz)(hlen:xs.length=len)(hd:((cs.drop off).take (len*sz)).map ae.bg=an xs):bM O id (.ms id off len cap) (.aA sz xs .nn):=fun g u l' hg hO he hle h=>by
 have k:=bM.ms fK cH hlen hd g u l' hg hO he hle h;obtain⟨l,o1,h1,h2,_,Hc,cy,gA,cP,eu⟩:=h.n5;subst eu;exact k.TW
end Go.Av
namespace Go.Proofs.YtjdnhamngpafmaaGreat
open Go.Av
theorem eI(n:Nat)(l:List Bool):av n (l.map eB):=by
 rw[aT];intro x hx;obtain⟨b,_,rfl⟩:=List.mem_map.1 hx;trivial
theorem sr(n:Nat):(List.replicate n [ae.v (.bool false)]).flatten=(List.replicate n false).map eB:=by
 induction n with
 | zero=>rfl
 | succ n ih=>rw[List.replicate_succ,List.flatten_cons,ih,List.replicate_succ];rfl
theorem Ag(l:List Bool):an (l.map eB)=l.map eB:=by
 induction l with
 | nil=>rfl
 | cons a r ih =>
  simp only[List.map_cons,an,List.flatMap_cons]at ih ⊢;rw[ih];rfl
theorem H0(l:List Bool):(l.map eB).map ae.bg=l.map eB:=by
 rw[List.map_map];rfl
theorem Fz(l:List Bool):(l.map eB).map ae.share=l.map eB:=by
 rw[List.map_map];rfl
theorem RL(l:List Bool):∀x∈l.map eB,x.cells.length=1:=fun x hx=>by
 obtain⟨b,_,rfl⟩:=List.mem_map.1 hx;rfl
theorem xd{O:List ak}{id:Nat}{l:List Bool}{len cap:Nat}(h:O[id]?=some (.cells (l.map eB)))(hl:l.length=len):bM O id (.ms id 0 len cap) (.aA 1 (l.map eB) .nn) :=
 bM.TJ h (RL l) (by simpa using hl) (by rw[List.drop_zero,List.take_of_length_le (by simp;omega),H0,Ag])
theorem yp{l:List Bool}{j:Nat}(h:j<l.length)(b:Bool):bh (l.map eB) j [.v (.bool b)]=(l.set j b).map eB:=by
 rw[cA _ (by simpa using h),List.map_set];rfl
def la(l:List Bool)(v:Int)(b:Bool):List Bool:=l.set v.toNat b
def j8(l:List Bool)(vs:List Int):List Bool:=vs.foldl (fun s v=>la s v true) l
def na(i:Ins)(now:List Bool):List Bool:=j8 (la now i.to false) i.args
def ja(l:List Ins)(now:List Bool):List Bool:=l.foldr na now
def ni(ps:List Int):Nat->List Bool->List Bool->List Bool
 | _,[],out=>out
 | v,is::r,out=>ni ps (v+1) r (if is&&!nP ps v then out.set v true else out)
def cT(first:List (List Bool))(k:Int):List Bool:=first[k.toNat]?.getD []
def kd(f:Func)(first:List (List Bool))(out:List Bool)(e:Edge):List Bool:=ni (aF f e.block).params 0 (cT first e.block) out
def dI(t:Term):Bool:=!decide (t.kind=1)&&!decide (t.kind=4)
def xA(t:Term)(o:List Bool):List Bool:=t.to.foldl (fun o e=>j8 o e.args) (if dI t then la o t.arg true else o)
def sB(f:Func)(many:Nat)(first:List (List Bool))(t:Term):List Bool:=xA t (t.to.foldl (kd f first) (List.replicate many false))
def cC:Nat->List Bool->List Int
 | _,[]=>[]
 | v,is::r=>if is then(v:Int)::cC (v+1) r else cC (v+1) r
theorem kQ(l:List Bool)(v:Int)(b:Bool):(la l v b).length=l.length:=by simp[la]
theorem mT:∀(vs:List Int) (l:List Bool),(j8 l vs).length=l.length
 | [],_=>rfl
 | v::r,l=>by
  have:=mT r (la l v true);rw[kQ]at this;exact this
theorem wW(i:Ins)(now:List Bool):(na i now).length=now.length:=by rw[na,mT,kQ]
theorem oE:∀(l:List Ins) (now:List Bool),(ja l now).length=now.length
 | [],_=>rfl
 | i::r,now=>by
  have:=oE r now;simp only[ja,List.foldr_cons]at this ⊢;rw[wW,this]
theorem oS(ps:List Int):∀(S:List Bool) (v:Nat) (out:List Bool),(ni ps v S out).length=out.length
 | [],_,_=>rfl
 | is::r,v,out=>by
  rw[ni,oS ps r];split<;>simp
theorem oR(f:Func)(first:List (List Bool)):∀(l:List Edge) (out:List Bool),(l.foldl (kd f first) out).length=out.length
 | [],_=>rfl
 | e::r,out=>by
  rw[List.foldl_cons,oR f first r,kd,oS]
theorem wV:∀(l:List Edge) (out:List Bool),(l.foldl (fun o e=>j8 o e.args) out).length=out.length
 | [],_=>rfl
 | e::r,out=>by
  rw[List.foldl_cons,wV r,mT]
theorem Gf(t:Term)(o:List Bool):(xA t o).length=o.length:=by
 rw[xA,wV];split
 ·rw[kQ]
 rfl
theorem rQ(f:Func)(many:Nat)(first:List (List Bool))(t:Term):(sB f many first t).length=many:=by
 rw[sB,Gf,oR,List.length_replicate]
theorem Ad{O:List ak}(bB:∀o∈O,o.upto O.length)(l:List Bool)(hl:l≠[])(IJ:l.length<=2 ^ 40) :
  bd Tryz.prog 127 O [.aA 1 (l.map eB) .nn] (fun r O'=>r=.ms O.length 0 l.length l.length∧O'=O++[.cells (l.map eB)]):=by
 have gi:O.length<=O.length+1:=by omega
 have P1:¬l.length=0:=fun e=>hl (List.length_eq_zero_iff.1 e);have hc:=Ag l;have hs:=Fz l;have eo:(O++[ak.cells (l.map eB)]).take (O.length+1)=O++[ak.cells (l.map eB)]:=List.take_of_length_le (by simp);have wD:∀o∈O++[ak.cells (l.map eB)],o.upto (O.length+1):=jx (fun o ho=>ak.b8 (by omega) (bB o ho)) (eI _ _);refine dj hT true (O.length+1) Tryz.func127 rfl (by kernel_rfl) (by simp[Tryz.ntmps127]) (by assumption) ?_;show bX Tryz.prog _ _ _ ⟨8,_,_⟩;dsimp only[Tmp,TypeId,slotsOf];refine ay (ai ?_);refine bV (ai ?_);refine cv rfl ?_;refine cj ?_;refine XS ?_;simp -dsimp only[simprocAttr,↓aa,zp,hc,hs]
 repeat(refine⟨by omega,?_⟩)
 refine ai ?_;refine aq ?_;simp -dsimp only[simprocAttr,↓aa,zp,zr,Tryz.results127,eo];exact⟨wD,by omega⟩
theorem Ap(l m:List Bool):bA Tryz.prog 105 [.aA 1 (l.map eB) .sh,.aA 1 (m.map eB) .sh] (.v (.bool (decide (l=m)))):=by
 by_cases hlen:l.length=m.length
 ·have kK:decide ((l.length:Int)=m.length)=true:=decide_eq_true (by omega);obtain⟨R,hR⟩:∃R,R=decide (l=m):=⟨_,rfl⟩
  rw[<-hR];refine zf true 0 Tryz.func105 Tryz.ntmps105 ?_;dsimp only[Tmp,TypeId,slotsOf];refine ay (ai ?_);refine fD 0 rfl (fun IJ=>?_);simp only[List.length_map]at IJ;refine c7 ?_;simp -dsimp only[simprocAttr,↓aa,zp,kK];refine ai ?_;apply aN rfl<;>intro h
  ·cases h
  refine cj ?_;refine bV (ai ?_);refine ah (aL (ι:={k:Nat // k<=l.length∧R=decide (l.drop k=m.drop k)}) (fun k=>⟨26,[(0,.aA 1 (l.map eB) .sh),(1,.aA 1 (m.map eB) .sh),(4,.v (.bool false)),(12,aI l.length),(13,aI k.1)],[]⟩) (fun k=>l.length-k.1) ⟨0,by omega,hR⟩ ?_ ?_)
  ·refine zq rfl ?_ ?_;simp -dsimp only[simprocAttr,↓aa,zp,zc];rfl
  rintro⟨k,hk,di⟩;refine ay (ai ?_);apply gJ rfl<;>intro h
  ·refine cj ?_;have bf:k<l.length:=by simpa using h
   obtain⟨a,ha⟩:∃a,l[k]?=some a:=⟨l[k],by simp[bf]⟩
   obtain⟨b,hb⟩:∃b,m[k]?=some b:=⟨m[k]'(by omega),List.getElem?_eq_getElem _⟩
   rw[bK ha,bK hb]at di;simp only[List.cons.injEq,Bool.decide_and]at di;refine aH (ah ?_);refine ay (ai ?_);refine aQ ?_;simp -dsimp only[simprocAttr,↓aa,zp,ha,hb,eB];refine⟨Tryz.underlying4,?_⟩;refine⟨ob (by kernel_rfl),?_⟩;refine ai ?_;apply aN rfl<;>intro h
   ·refine ay (ai ?_);refine aq ?_;simp -dsimp only[simprocAttr,↓aa,zp,zr,Tryz.results105];rw[di,decide_eq_false (show ¬a=b by simpa using h)];rfl
   refine kp ?_;rw[decide_eq_true (show a=b by simpa using h),Bool.true_and]at di;refine cM ?_
   repeat(refine⟨by omega,?_⟩)
   refine eZ ?_;refine⟨⟨k+1,bf,di⟩,by simp;omega,?_⟩;refine zq rfl ?_ ?_;simp -dsimp only[simprocAttr,↓aa,zp,zc]
   ·exact Sub.int (by simp)
   rfl
  refine aK ?_;simp -dsimp only[bI,ne_eq,Nat.reduceEqDiff,reduceCtorEq];have gi:k=l.length:=by simp at h;omega
  subst gi;rw[List.drop_length,hlen,List.drop_length]at di;refine ay (ai ?_);refine aq ?_;simp -dsimp only[simprocAttr,↓aa,zp,zr,Tryz.results105];rw[di];rfl
 have kK:decide ((l.length:Int)=m.length)=false:=decide_eq_false (by omega);rw[decide_eq_false (fun e=>hlen (by rw[e]))];refine zf true 0 Tryz.func105 Tryz.ntmps105 ?_;dsimp only[Tmp,TypeId,slotsOf];refine ay (ai ?_);refine c7 ?_;simp -dsimp only[simprocAttr,↓aa,zp,kK];refine ai ?_;refine cB rfl ?_;refine ay (ai ?_);refine aq ?_;simp -dsimp only[simprocAttr,↓aa,zp,zr,Tryz.results105]
def G3(many:Nat)(v:Int):Prop:=0<=v∧v<many
def Hs(l:List Bool)(v:Nat):Prop:=l[v]?=some true
theorem Hs.lt{l:List Bool}{v:Nat}(h:Hs l v):v<l.length:=(List.getElem?_eq_some_iff.1 h).1
theorem uX{l:List Bool}{j v:Nat}{b:Bool}:Hs (l.set j b) v↔(v=j∧b=true∧v<l.length)∨(v≠j∧Hs l v):=by
 unfold Hs;rw[List.getElem?_set];by_cases e:j=v
 ·subst e;by_cases h:j<l.length
  ·simp[h]
  simp[h]
 rw[if_neg e];have:v≠j:=fun q=>e q.symm;simp[this]
theorem Db{l:List Bool}{v w:Nat}{b:Bool}{x:Int}(hx:x.toNat=v):Hs (la l x b) w↔(w=v∧b=true∧w<l.length)∨(w≠v∧Hs l w):=by
 rw[la,hx,uX]
theorem rN:∀(vs:List Int) (l:List Bool) (w:Nat),Hs (j8 l vs) w↔Hs l w∨(w<l.length∧∃a∈vs,w=a.toNat)
 | [],l,w=>by simp[j8]
 | v::r,l,w=>by
  have ih:=rN r (la l v true) w;rw[kQ,Db rfl]at ih;have e:j8 l (v::r)=j8 (la l v true) r:=rfl;rw[e,ih];constructor
  ·rintro((⟨h1,_,h2⟩|⟨_,h1⟩)|⟨h1,a,h2,h3⟩)
   ·exact .inr ⟨h2,v,by simp,h1⟩
   ·exact .inl h1
   exact .inr ⟨h1,a,by simp[h2],h3⟩
  rintro(h|⟨h1,a,h2,h3⟩)
  ·by_cases q:w=v.toNat
   ·exact .inl (.inl ⟨q,rfl,h.lt⟩)
   exact .inl (.inr ⟨q,h⟩)
  rcases List.mem_cons.1 h2 with q|q
  ·subst q;exact .inl (.inl ⟨h3,rfl,h1⟩)
  exact .inr ⟨h1,a,q,h3⟩
theorem AO(i:Ins)(s:List Bool)(w:Nat):Hs (na i s) w↔(w≠i.to.toNat∧Hs s w)∨(w<s.length∧∃a∈i.args,w=a.toNat):=by
 rw[na,rN,kQ,Db rfl];simp
theorem AP(ps:List Int):∀(S:List Bool) (v:Nat) (out:List Bool) (w:Nat),Hs (ni ps v S out) w↔Hs out w∨(w<out.length∧nP ps w=false∧∃j,Hs S j∧w=v+j)
 | [],v,out,w=>by simp[ni,Hs]
 | is::r,v,out,w=>by
  have ih:=AP ps r (v+1) (if is&&!nP ps v then out.set v true else out) w;have hl:(if is&&!nP ps v then out.set v true else out).length=out.length:=by split<;>simp
  rw[ni,ih,hl];constructor
  ·rintro(h|⟨h1,h2,j,h3,h4⟩)
   ·split at h
    ·rename_i hc;rcases uX.1 h with⟨h1,_,h2⟩|⟨_,h1⟩
     ·simp only[Bool.and_eq_true,Bool.not_eq_true']at hc;subst h1;exact .inr ⟨h2,hc.2,0,by simp[Hs,hc.1],by omega⟩
     exact .inl h1
    exact .inl h
   exact .inr ⟨h1,h2,j+1,by simpa[Hs]using h3,by omega⟩
  rintro(h|⟨h1,h2,j,h3,h4⟩)
  ·refine .inl ?_;split
   ·by_cases q:w=v
    ·exact uX.2 (.inl ⟨q,rfl,h.lt⟩)
    exact uX.2 (.inr ⟨q,h⟩)
   exact h
  cases j with
  | zero =>
   have X2:is=true:=by simpa[Hs]using h3
   have WA:w=v:=by omega
   subst WA;refine .inl ?_;rw[if_pos (by simp[X2,h2])];exact uX.2 (.inl ⟨rfl,rfl,h1⟩)
  | succ j=>exact .inr ⟨h1,h2,j,by simpa[Hs]using h3,by omega⟩
theorem uW(f:Func)(first:List (List Bool)):∀(l:List Edge) (out:List Bool) (w:Nat),Hs (l.foldl (kd f first) out) w↔Hs out w∨(w<out.length∧∃e∈l,Hs (cT first e.block) w∧nP (aF f e.block).params w=false)
 | [],out,w=>by simp
 | e::r,out,w=>by
  have ih:=uW f first r (kd f first out e) w
  rw[List.foldl_cons,ih];rw[show(kd f first out e).length=out.length from oS ..];unfold kd;rw[AP];constructor
  ·rintro((h|⟨h1,h2,j,h3,h4⟩)|⟨h1,x,h2,h3,h4⟩)
   ·exact .inl h
   ·have:w=j:=by omega
    subst this;exact .inr ⟨h1,e,by simp,h3,h2⟩
   exact .inr ⟨h1,x,by simp[h2],h3,h4⟩
  rintro(h|⟨h1,x,h2,h3,h4⟩)
  ·exact .inl (.inl h)
  rcases List.mem_cons.1 h2 with q|q
  ·subst q;exact .inl (.inr ⟨h1,h4,w,h3,by omega⟩)
  exact .inr ⟨h1,x,q,h3,h4⟩
theorem AN:∀(l:List Edge) (out:List Bool) (w:Nat),Hs (l.foldl (fun o e=>j8 o e.args) out) w↔Hs out w∨(w<out.length∧∃e∈l,∃a∈e.args,w=a.toNat)
 | [],out,w=>by simp
 | e::r,out,w=>by
  have ih:=AN r (j8 out e.args) w;rw[List.foldl_cons,ih,mT,rN];constructor
  ·rintro((h|⟨h1,h2⟩)|⟨h1,x,h2,h3⟩)
   ·exact .inl h
   ·exact .inr ⟨h1,e,by simp,h2⟩
   exact .inr ⟨h1,x,by simp[h2],h3⟩
  rintro(h|⟨h1,x,h2,h3⟩)
  ·exact .inl (.inl h)
  rcases List.mem_cons.1 h2 with q|q
  ·subst q;exact .inl (.inr ⟨h1,h3⟩)
  exact .inr ⟨h1,x,q,h3⟩
theorem uV{n w:Nat}:¬Hs (List.replicate n false) w:=by
 unfold Hs;rw[List.getElem?_replicate];split<;>simp
theorem IW(f:Func)(many:Nat)(first:List (List Bool))(t:Term)(w:Nat):Hs (sB f many first t) w↔w<many∧((∃e∈t.to,Hs (cT first e.block) w∧nP (aF f e.block).params w=false)∨(dI t=true∧w=t.arg.toNat)∨∃e∈t.to,∃a∈e.args,w=a.toNat):=by
 have hl:(t.to.foldl (kd f first) (List.replicate many false)).length=many:=by rw[oR,List.length_replicate]
 rw[sB,xA,AN];have key:Hs (if dI t then la (t.to.foldl (kd f first) (List.replicate many false)) t.arg true else t.to.foldl (kd f first) (List.replicate many false)) w↔w<many∧((∃e∈t.to,Hs (cT first e.block) w∧nP (aF f e.block).params w=false)∨(dI t=true∧w=t.arg.toNat)):=by
  split
  ·rename_i hu;rw[Db rfl,uW,List.length_replicate,hl];constructor
   ·rintro(⟨h1,_,h2⟩|⟨_,h|⟨h1,h2⟩⟩)
    ·exact⟨h2,.inr ⟨hu,h1⟩⟩
    ·exact absurd h uV
    exact⟨h1,.inl h2⟩
   rintro⟨h1,h2|⟨_,h2⟩⟩
   ·by_cases q:w=t.arg.toNat
    ·exact .inl ⟨q,rfl,h1⟩
    exact .inr ⟨q,.inr ⟨h1,h2⟩⟩
   exact .inl ⟨h2,rfl,h1⟩
  rename_i hu;rw[uW,List.length_replicate];constructor
  ·rintro(h|⟨h1,h2⟩)
   ·exact absurd h uV
   exact⟨h1,.inl h2⟩
  rintro⟨h1,h2|⟨q,_⟩⟩
  ·exact .inr ⟨h1,h2⟩
  exact absurd q hu
 have zG:(if dI t then la (t.to.foldl (kd f first) (List.replicate many false)) t.arg true else t.to.foldl (kd f first) (List.replicate many false)).length=many:=by
  split
  ·rw[kQ,hl]
  exact hl
 rw[key,zG];constructor
 ·rintro(⟨h1,h2|h2⟩|⟨h1,h2⟩)
  ·exact⟨h1,.inl h2⟩
  ·exact⟨h1,.inr (.inl h2)⟩
  exact⟨h1,.inr (.inr h2)⟩
 rintro⟨h1,h2|h2|h2⟩
 ·exact .inl ⟨h1,.inl h2⟩
 ·exact .inl ⟨h1,.inr h2⟩
 exact .inr ⟨h1,h2⟩
def K8(a b:List Bool):Prop:=∀v,Hs a v->Hs b v
theorem HR:∀(a b:List Bool),a.length=b.length->K8 a b->a.countP id<=b.countP id∧(a≠b->a.countP id<b.countP id)
 | [],[],_,_=>by simp
 | [],_::_,h,_=>by simp at h
 | _::_,[],h,_=>by simp at h
 | x::a,y::b,hl,h=>by
  have ih:=HR a b (by simpa using hl) (fun v hv=>by
   have:=h (v+1) (by simpa[Hs]using hv);simpa[Hs]using this)
  have h0:=h 0;simp only[Hs,List.getElem?_cons_zero,Option.some.injEq]at h0;rw[List.countP_cons,List.countP_cons];cases x<;>cases y<;>simp at h0 ⊢
  ·exact ih
  ·omega
  exact ih
theorem tU:∀(l:List Ins) {a b:List Bool},a.length=b.length->K8 a b->K8 (ja l a) (ja l b)
 | [],_,_,_,h=>h
 | i::r,a,b,hl,h=>by
  have ih:=tU r hl h;have zG:(ja r a).length=(ja r b).length:=by rw[oE,oE,hl]
  intro v hv;have e:∀s,ja (i::r) s=na i (ja r s):=fun s=>rfl;rw[e,AO]at hv;rw[e,AO];rcases hv with⟨h1,h2⟩|⟨h1,h2⟩
  ·exact .inl ⟨h1,ih v h2⟩
  exact .inr ⟨by omega,h2⟩
theorem Dh{f:Func}{many:Nat}{A B:List (List Bool)}(h:∀k,K8 (cT A k) (cT B k))(t:Term):K8 (sB f many A t) (sB f many B t):=fun v hv=>by
 rw[IW]at hv ⊢;obtain⟨h1,h2⟩:=hv;refine⟨h1,?_⟩;rcases h2 with⟨e,he,h3,h4⟩|h2
 ·exact .inl ⟨e,he,h _ v h3,h4⟩
 exact .inr h2
def qm(g:Func)(many:Nat)(N:List (List Bool))(k:Int):List Bool:=ja (aF g k).ins (sB g many N (aF g k).term)
structure Ng where
 N:List (List Bool)
 again:Bool
def lH(g:Func)(many:Nat)(k:Int)(S:Ng):Ng:=if qm g many S.N k=cT S.N k then S else⟨S.N.set k.toNat (qm g many S.N k),true⟩
def Hh(g:Func)(many:Nat)(l:List Int)(S:Ng):Ng:=l.foldr (lH g many) S
def My(g:Func)(many:Nat)(ord:List Int):Nat->Ng->Ng
 | 0,S=>S
 | q+1,S=>if S.again=true then My g many ord q (Hh g many ord ⟨S.N,false⟩)else S
def Mz(n many:Nat):Ng:=⟨List.replicate n (List.replicate many false),true⟩
def vg(g:Func)(many:Nat)(ord:List Int):List (List Bool):=(My g many ord 700000 (Mz g.blocks.length many)).N
def Ng.weight(many:Nat)(S:Ng):Nat:=(S.N.map fun l=>many-l.countP id).sum
structure vT(g:Func)(many:Nat)(ord:List Int)(S:Ng):Prop where
 len:S.N.length=g.blocks.length
 sz:∀l∈S.N,l.length=many
 low:∀k∈ord,K8 (cT S.N k) (qm g many S.N k)
theorem Hv(g:Func)(many:Nat)(N:List (List Bool))(k:Int):(qm g many N k).length=many:=by
 unfold qm;rw[oE,rQ]
theorem Fk{g:Func}{many:Nat}{A B:List (List Bool)}(h:∀k,K8 (cT A k) (cT B k))(k:Int):K8 (qm g many A k) (qm g many B k) :=
 tU _ (by rw[rQ,rQ]) (Dh h _)
theorem sP{α:Type}{f:α->Nat}:∀{l:List α} {i:Nat} {x y:α},l[i]?=some x->((l.set i y).map f).sum+f x=(l.map f).sum+f y
 | a::r,0,x,y,h=>by
  obtain rfl:a=x:=by simpa using h
  simp only[List.set_cons_zero,List.map_cons,List.sum_cons];omega
 | a::r,i+1,x,y,h=>by
  have:=sP (f:=f) (l:=r) (i:=i) (x:=x) (y:=y) (by simpa using h);simp only[List.set_cons_succ,List.map_cons,List.sum_cons];omega
theorem xK{g:Func}{many:Nat}{ord:List Int}{S:Ng}(h:vT g many ord S){k:Int}(hk:k∈ord)(h0:0<=k)(h1:k<g.blocks.length) :
  vT g many ord (lH g many k S)∧(lH g many k S).weight many<=S.weight many∧((lH g many k S).again=true->S.again=true∨(lH g many k S).weight many<S.weight many):=by
 unfold lH;split
 ·exact⟨h,Nat.le_refl _,fun q=>.inl q⟩
 rename_i cq;obtain⟨E2,ho⟩:∃E2,S.N[k.toNat]?=some E2:=⟨S.N[k.toNat]'(by rw[h.len];omega),List.getElem?_eq_getElem _⟩
 have Zl:cT S.N k=E2:=by unfold cT;rw[ho];rfl
 obtain⟨nw,IN⟩:∃nw,nw=qm g many S.N k:=⟨_,rfl⟩
 have yF:=h.low k hk;rw[Zl]at cq yF;rw[<-IN]at cq yF ⊢;have C7:nw.length=many:=by rw[IN,Hv]
 have F5:E2.length=many:=h.sz E2 (List.mem_of_getElem? ho);have EB:=I ho;have Vo:∀j,K8 (cT S.N j) (cT (S.N.set k.toNat nw) j):=fun j=>by
  unfold cT;rw[List.getElem?_set];by_cases e:k.toNat=j.toNat
  ·rw[if_pos e,if_pos EB,<-e,ho];exact yF
  rw[if_neg e];exact fun v q=>q
 have hc:=HR E2 nw (by omega) yF;have bf:=hc.2 (fun e=>cq e.symm);have gg:=List.countP_le_length (p:=id) (l:=nw);have hs:=sP (f:=fun l:List Bool=>many-l.countP id) (y:=nw) ho;have hw:(⟨S.N.set k.toNat nw,true⟩:Ng).weight many<S.weight many:=by
  unfold Ng.weight;simp only at hs ⊢;omega
 refine⟨⟨by rw[List.length_set,h.len],fun l hl=>?_,fun j hj=>?_⟩,Nat.le_of_lt hw,fun _=>.inr hw⟩
 ·rcases List.mem_or_eq_of_mem_set hl with q|q
  ·exact h.sz l q
  rw[q,C7]
 have hm:=Fk (g:=g) (many:=many) Vo j;by_cases e:k.toNat=j.toNat
 ·have Q8:cT (S.N.set k.toNat nw) j=nw:=by
   unfold cT;rw[<-e,List.getElem?_set_self EB];rfl
  by_cases e2:k=j
  ·subst e2;simp only;rw[Q8];intro v hv;rw[IN]at hv;exact hm v hv
  have FY:=h.low j hj;simp only;rw[Q8];have hjo:cT S.N j=E2:=by
   unfold cT;rw[<-e,ho];rfl
  have hb:qm g many S.N j=qm g many S.N k:=by
   unfold qm aF;rw[e]
  intro v hv;refine hm v ?_;rw[hb,<-IN];exact hv
 have Q8:cT (S.N.set k.toNat nw) j=cT S.N j:=by
  unfold cT;rw[List.getElem?_set_ne e]
 simp only;rw[Q8];intro v hv;exact hm v (h.low j hj v hv)
theorem Dn{g:Func}{many:Nat}{ord:List Int}:∀(l:List Int) {S:Ng},vT g many ord S->(∀k∈l,k∈ord∧0<=k∧k<g.blocks.length) ->
  vT g many ord (Hh g many l S)∧(Hh g many l S).weight many<=S.weight many∧((Hh g many l S).again=true->S.again=true∨(Hh g many l S).weight many<S.weight many)
 | [],S,h,_=>⟨h,Nat.le_refl _,fun q=>.inl q⟩
 | k::r,S,h,hl=>by
  obtain⟨h1,h2,h3⟩:=Dn r h fun x hx=>hl x (List.mem_cons_of_mem _ hx);obtain⟨k1,k2,k3⟩:=hl k List.mem_cons_self;obtain⟨q1,q2,q3⟩:=xK h1 k1 k2 k3;have e:Hh g many (k::r) S=lH g many k (Hh g many r S):=rfl;rw[e];refine⟨q1,by omega,fun q=>?_⟩;rcases q3 q with p|p
  ·rcases h3 p with p|p
   ·exact .inl p
   exact .inr (by omega)
  exact .inr (by omega)
theorem Ji(g:Func)(many:Nat)(ord:List Int):vT g many ord (Mz g.blocks.length many):=by
 refine⟨by simp[Mz],fun l hl=>by rw[(List.mem_replicate.1 hl).2];simp,fun k _ v hv=>?_⟩;unfold cT Mz at hv;simp only[List.getElem?_replicate]at hv;split at hv
 ·exact absurd hv uV
 simp[Hs]at hv
theorem Dp(n many:Nat):(Mz n many).weight many<=n*many:=by
 unfold Ng.weight Mz;rw[List.map_replicate,List.sum_replicate_nat];exact Nat.mul_le_mul_left _ (Nat.sub_le _ _)
theorem Jg{g:Func}{many:Nat}{ord:List Int}{S:Ng}(h:S.again=false):∀n,My g many ord n S=S
 | 0=>rfl
 | n+1=>by rw[My,h];rfl
theorem Jh{g:Func}{many:Nat}{ord:List Int}(ho:∀k∈ord,0<=k∧k<g.blocks.length):∀(n:Nat) {S:Ng},vT g many ord S->vT g many ord (My g many ord n S)
 | 0,_,h=>h
 | n+1,S,h=>by
  rw[My];split
  ·exact Jh ho n (Dn ord (S:=⟨S.N,false⟩) ⟨h.len,h.sz,h.low⟩ fun k hk=>⟨hk,ho k hk⟩).1
  exact h
theorem Bd{g:Func}{many:Nat}{ord:List Int}(ho:∀k∈ord,0<=k∧k<g.blocks.length):(vg g many ord).length=g.blocks.length∧∀l∈vg g many ord,l.length=many:=by
 have:=Jh ho 700000 (Ji g many ord);exact⟨this.len,this.sz⟩
theorem zR(b:Block)(s:List Bool)(many:Nat)(ng:s.length=many)(lL:0<many)(KU:many<=2 ^ 20)(BZ:b.ins.length<=2 ^ 40)(xq:∀i∈b.ins,G3 many i.to∧(∀a∈i.args,G3 many a)∧i.args.length<=2 ^ 40)(ha:dI b.term=true->G3 many b.term.arg) :
  bA Tryz.prog 104 [b.enc,.aA 1 (s.map eB) .nn] (.aA 1 ((ja b.ins (if dI b.term then la s b.term.arg true else s)).map eB) .sh):=by
 obtain⟨s1,uU⟩:∃s1,s1=if dI b.term then la s b.term.arg true else s:=⟨_,rfl⟩
 rw[<-uU];have VS:s1.length=many:=by
  rw[uU];split
  ·rw[kQ,ng]
  exact ng
 obtain⟨R,hR⟩:∃R,R=ja b.ins s1:=⟨_,rfl⟩
 rw[<-hR];have cq:s≠[]:=fun e=>by rw[e]at ng;simp at ng;omega
 have gg:=Ad (O:=[.gone]) (by simp[ak.upto]) s cq (by omega);rw[ng]at gg;obtain⟨uk,Mn⟩:∃uk,uk=dI b.term:=⟨_,rfl⟩
 rw[<-Mn]at uU ha;refine zf true 0 Tryz.func104 Tryz.ntmps104 ?_;dsimp only[Tmp,TypeId,slotsOf];refine ay (ai ?_);refine aC 2 0 (.ip none [aJ b.params,a7 b.ins,aI b.term.kind,aI b.term.arg,aI b.term.n,aJ b.term.cases,aG b.term.to]) rfl (by simp[ak.aD]) trivial rfl ?_ ?_;rotate_left;simp -dsimp only[simprocAttr,↓aa,zp];rotate_left
 ·exact bM.mp rfl rfl
 refine ay ?_;refine .inr (.inl ⟨_,_,gg,.inl (ao (zj ?_))⟩);refine ai ?_;refine fY (⟨58,[(2,.ip none [aJ b.params,a7 b.ins,aI b.term.kind,aI b.term.arg,aI b.term.n,aJ b.term.cases,aG b.term.to]),(5,.ms 1 0 many many)],[.gone,.cells (s1.map eB)]⟩) ?_ ?_
 ·by_cases k1:b.term.kind=1
  ·have d1:decide (b.term.kind=1)=true:=decide_eq_true k1;have hu:uk=false:=by rw[Mn];simp[dI,k1]
   rw[hu,if_neg (by decide)]at uU;subst uU;refine aQ ?_;simp -dsimp only[simprocAttr,↓aa,zp,d1];refine ai ?_;refine cv rfl ?_;refine aX ?_;show ba _ _;refine zq rfl ?_ ?_;simp -dsimp only[simprocAttr,↓aa,zp,zc]
   all_goals rfl
  have d1:decide (b.term.kind=1)=false:=decide_eq_false k1;by_cases k4:b.term.kind=4
  ·have d4:decide (b.term.kind=4)=true:=decide_eq_true k4;have hu:uk=false:=by rw[Mn];simp[dI,k4]
   rw[hu,if_neg (by decide)]at uU;subst uU;refine aQ ?_;simp -dsimp only[simprocAttr,↓aa,zp,d1,d4];refine ai ?_;refine cv rfl ?_;refine aX ?_;show ba _ _;refine zq rfl ?_ ?_;simp -dsimp only[simprocAttr,↓aa,zp,zc]
   all_goals rfl
  have d4:decide (b.term.kind=4)=false:=decide_eq_false k4;have hu:uk=true:=by rw[Mn];simp[dI,k1,k4]
  rw[hu,if_pos rfl]at uU;obtain⟨a0,a1⟩:=ha hu;have Ta:s1=s.set b.term.arg.toNat true:=uU;have nh:=yp (l:=s) (j:=b.term.arg.toNat) (by omega) true;rw[<-Ta]at nh;refine aQ ?_;simp -dsimp only[simprocAttr,↓aa,zp,d1,d4];refine ai ?_;refine cB rfl ?_;refine eC hT hm ?_;simp -dsimp only[simprocAttr,↓aa,zp,Nat.mul_one,nh,ng]
  repeat(refine⟨by omega,?_⟩)
  refine a6 ?_;show ba _ _;refine zq rfl ?_ ?_;simp -dsimp only[simprocAttr,↓aa,zp,zc]
  all_goals rfl
 refine bV ?_
 repeat(refine⟨by omega,?_⟩)
 refine ai ?_;refine ah (aL (ι:={x:Nat×List Bool // x.1<=b.ins.length∧x.2.length=many∧R=ja (b.ins.take x.1) x.2}) (fun x=>⟨58,[(2,.ip none [aJ b.params,a7 b.ins,aI b.term.kind,aI b.term.arg,aI b.term.n,aJ b.term.cases,aG b.term.to]),(5,.ms 1 0 many many),(6,aI ((x.1.1:Int)-1))],[.gone,.cells (x.1.2.map eB)]⟩) (fun x=>x.1.1) ⟨(b.ins.length,s1),Nat.le_refl _,VS,by rw[List.take_length];exact hR⟩ ?_ ?_)
 ·refine zq rfl ?_ ?_;simp -dsimp only[simprocAttr,↓aa,zp,zc]
  all_goals rfl
 rintro⟨⟨n,t⟩,hn,jc,RZ⟩;simp only at hn jc RZ;refine bV (ai ?_);apply aN rfl<;>intro h
 ·refine cj ?_;obtain⟨n,rfl⟩:∃m,n=m+1:=⟨n-1,by have:=of_decide_eq_true h;omega⟩
  have bf:n<b.ins.length:=by omega
  obtain⟨i,hi⟩:∃i,b.ins[n]?=some i:=⟨b.ins[n],by simp[bf]⟩
  obtain⟨⟨hi0,PW⟩,Vr,YZ⟩:=xq i (List.mem_of_getElem? hi);have eo:b.ins.take (n+1)=b.ins.take n++[i]:=by rw[List.take_add_one,hi];rfl
  have Sa:ja (b.ins.take n++[i]) t=ja (b.ins.take n) (na i t):=by simp[ja]
  rw[eo,Sa]at RZ;obtain⟨j,hj⟩:∃j:Nat,i.to=(j:Int):=⟨i.to.toNat,by omega⟩
  have nh:=yp (l:=t) (j:=j) (by omega) false;have nS:((n+1:Nat):Int)-1=(n:Nat):=by omega
  obtain⟨T,Iw⟩:∃T,T=na i t:=⟨_,rfl⟩
  have Uc:T.length=many:=by rw[Iw,wW,jc]
  rw[<-Iw]at RZ;have Ta:la t i.to false=t.set j false:=by simp[la,hj]
  unfold na j8 at Iw;rw[Ta]at Iw;refine aH (ah ?_);refine aQ ?_;simp -dsimp only[simprocAttr,↓aa,zp,nS,hi,hj,Int.toNat_natCast,Nat.mul_one,nh]
  repeat(refine⟨by omega,?_⟩)
  refine ai ?_;refine aQ ?_;simp -dsimp only[simprocAttr,↓aa,zp,nS,hi]
  repeat(refine⟨by omega,?_⟩)
  refine ai ?_;refine ah (aL (ι:={y:Nat×List Bool // y.1<=i.args.length∧y.2.length=many∧T=(i.args.drop y.1).foldl (fun s v=>la s v true) y.2}) (fun y=>⟨58,[(2,.ip none [aJ b.params,a7 b.ins,aI b.term.kind,aI b.term.arg,aI b.term.n,aJ b.term.cases,aG b.term.to]),(5,.ms 1 0 many many),(6,aI (n:Nat)),(47,aJ i.args),(48,aI i.args.length),(49,aI y.1.1)],[.gone,.cells (y.1.2.map eB)]⟩) (fun y=>i.args.length-y.1.1) ⟨(0,t.set j false),by simp,by simp[jc],Iw⟩ ?_ ?_)
  ·refine zq rfl ?_ ?_;simp -dsimp only[simprocAttr,↓aa,zp,zc,nS]
   all_goals rfl
  rintro⟨⟨v,cur⟩,hv,gg,AW⟩;simp only at hv gg AW;refine ay (ai ?_);apply gJ rfl<;>intro h
  ·refine cj ?_;have zH:v<i.args.length:=by simpa using h
   obtain⟨a,U5⟩:∃a,i.args[v]?=some a:=⟨i.args[v],by simp[zH]⟩
   obtain⟨a0,a1⟩:=Vr a (List.mem_of_getElem? U5);obtain⟨q,rfl⟩:∃q:Nat,a=(q:Int):=⟨a.toNat,by omega⟩
   rw[bK U5,List.foldl_cons]at AW;have Ta:la cur (q:Int) true=cur.set q true:=by simp[la]
   rw[Ta]at AW;have nh:=yp (l:=cur) (j:=q) (by omega) true;refine aH (ah ?_);refine aQ ?_;simp -dsimp only[simprocAttr,↓aa,zp,U5];refine ai ?_;refine jX ?_;simp -dsimp only[simprocAttr,↓aa,zp,Int.toNat_natCast,Nat.mul_one,nh]
   repeat(refine⟨by omega,?_⟩)
   refine ai ?_;refine cM ?_
   repeat(refine⟨by omega,?_⟩)
   refine eZ ?_;refine⟨⟨(v+1,cur.set q true),zH,by simp[gg],AW⟩,by simp;omega,?_⟩;refine zq rfl ?_ ?_;simp -dsimp only[simprocAttr,↓aa,zp,zc]
   ·exact Sub.int (by simp)
   rfl
  refine aK ?_;simp -dsimp only[bI,ne_eq,Nat.reduceEqDiff,reduceCtorEq];have Mq:v=i.args.length:=by simp at h;omega
  subst Mq;rw[List.drop_length,List.foldl_nil]at AW;subst AW;refine cM ?_
  repeat(refine⟨by omega,?_⟩)
  refine eZ ?_;refine⟨⟨(n,T),by simp only;omega,Uc,RZ⟩,by simp,?_⟩;refine zq rfl ?_ ?_;simp -dsimp only[simprocAttr,↓aa,zp,zc]
  all_goals rfl
 refine aK ?_;simp -dsimp only[bI,ne_eq,Nat.reduceEqDiff,reduceCtorEq];have uO:n=0:=by have:=of_decide_eq_false h;omega
 subst uO;have Yo:R=t:=RZ;subst Yo;refine aC 5 1 (o:=.cells (R.map eB)) (.aA 1 (R.map eB) .nn) rfl (by simp[ak.aD]) trivial rfl (xd rfl jc) ?_;simp -dsimp only[simprocAttr,↓aa,zp];refine ay (ai ?_);refine aq ?_;simp -dsimp only[simprocAttr,↓aa,zp,zr,Tryz.results104];exact eI _ _
end Go.Proofs.YtjdnhamngpafmaaGreat
namespace Go.Av
def Hi(P:Program)(o:Oper)(pe:St)(R:ae->List ak->Prop):Prop :=
 ∀(base:G) (σ:St) (a:Act) (g:G),Rel base σ a g->σ.n=pe.n->(∀x∈o.op.operands,∀y,pe.ev x=some y->σ.ev x=some y)->σ.objs=pe.objs ->
  ∀(K:Act->World->Prop) (Q:Exit->Act->World->Prop),(∀r u g',R r g'.objs->Rel base ⟨σ.n,pc o.dst r σ.bn,g'.objs⟩ (a.put o.dst u) g'->K (a.put o.dst u) g'.w)->o.wp P a g.w K Q
theorem lh{P:Program}{o:Oper}{σ:St}{x:Operand}{args:Array Operand}{rm:Array TypeId}{f:FuncId}{fs cs dC:List ae}{R:ae->List ak->Prop}
  (ho:o.op=.call ⟨.value x,args,rm⟩) (hd:∀d,o.dst=some d->d<σ.n) (hx:σ.ev x=some (.fn (.func f) fs cs)) (ha:σ.Aq args.toList=some dC)
  (dr:bd P f σ.objs (fs++dC++cs) R):Hi P o σ R:=by
 intro base τ a g bE hn mf hm K Q hK;have TE:σ.ev x=some (.fn (.func f) fs cs):=hx;have h1:=bE.eval (mf x (by simp[ho,Op.operands,Call.operands]) _ hx);obtain⟨us,vs,e1,l1,l2,r1,r2⟩:=h1.Im;have h2:=qF (σ:=σ) (a:=a) (g:=g) (xs:=args.toList) (fun z hz y hy=>bE.eval (mf z (by
  rw[ho];simp only[Op.operands,Call.operands,Array.mem_append];exact .inr (Array.mem_toList_iff.1 hz)) y hy)) ha
 have Ir:jg g dC (args.map a.eval):=by
  have e:args.map a.eval=(args.toList.map a.eval).toArray:=Array.ext' (by rw[Array.toList_map]);rw[e];exact h2
 have cr:=(jg.mj (jg.mj ⟨l1,r1⟩ Ir) ⟨l2,r2⟩)
 have bF:=xV (P:=P) (w:=g.w) ho e1 dr.1;unfold Oper.wp;rw[bF,Oper.upon_enter];refine(dr.2 g _ bE.good (bE.objs.trans hm) cr).mono ?_;rintro e w' ⟨g',v,r',q1,q2,q3,q4,q5,q6⟩;subst q1;subst q2;refine hK r' v g' q6 ?_;cases iZ:o.dst with
 | none=>exact bE.step q3 q4
 | some d=>exact bE.put q3 q4 (d:=d) (by rw[hn];exact hd d iZ) q5
theorem ic{P:Program}{ops:Array Oper}{base:G}{ρ:St}{Q:Exit->Act->World->Prop}{rest:List Nat}(hQ:∀a g,Rel base ρ a g->wpOps P ops Q rest a g.w) :
  ∀(l:List (Nat×Kind)) (σ:St) (a:Act) (g:G),eO P ops l σ ρ->Rel base σ a g->wpOps P ops Q (l.map (·.1)++rest) a g.w
 | [],σ,a,g,pn,bE=>hQ a g (gQ.rel pn bE)
 | (i,k)::r,σ,a,g,pn,bE=>by
  obtain⟨fw,⟨o,ho,cc⟩,cG⟩:=pn;simp only[List.map_cons,List.cons_append,wpOps,ho];rcases cc with⟨hw,r',m,AD,hk,I2⟩|⟨hw,_,I2⟩
  ·rw[if_pos (fI bE hw)];refine .inl (AD.2 base σ a g bE rfl (fun x _ y hy=>hy) (Mode.qj (.inr rfl)) _ _ fun u g' pt=>?_);subst I2;exact ic hQ r _ _ _ cG pt
  rw[if_neg (by rw[fI bE hw];simp)];subst I2;refine ic hQ r _ _ g cG ?_;cases iZ:o.dst with
  | none=>exact bE
  | some d=>exact bE.skip d
theorem EM(ks:List Kind)(s:Nat):(((ks.zipIdx 0).map fun p=>(p.2,p.1)).map fun p=>(s+p.1,p.2)).map (·.1)=(List.range ks.length).map (s + ·):=by
 apply List.ext_getElem?;intro i;simp only[List.getElem?_map,List.getElem?_zipIdx];by_cases h:i<ks.length
 ·simp[h]
 rw[List.getElem?_eq_none (by omega),List.getElem?_eq_none (by simp;omega)];rfl
theorem GD{n k:Nat}(h:k<n):List.range n=(List.range k).map (0 + ·)++(k::(List.range (n-(k+1))).map (k+1 + ·)):=by
 apply List.ext_getElem?;intro i;by_cases h1:i<k
 ·rw[List.getElem?_append_left (by simpa using h1)];simp[h1,show i<n by omega]
 rw[List.getElem?_append_right (by simp;omega)];simp only[List.length_map,List.length_range];by_cases h2:i=k
 ·subst h2;simp[h]
 rw[show i-k=(i-k-1)+1 by omega,List.getElem?_cons_succ,List.getElem?_map];by_cases h3:i<n
 ·rw[List.getElem?_range h3,List.getElem?_range (by omega),Option.map_some];congr 1;omega
 rw[List.getElem?_eq_none (by simp;omega),List.getElem?_eq_none (by simp;omega)];rfl
theorem jJ{P:Program}{kb:Nat}{aR:ez}(md:Md)(hT:bT P aR){id:Nat}{l l1 l2:List Oper}{o:Oper}{Q:dt->St->Prop}{σ:St}(k:Nat)(h1:l.take k=l1)(h2:l[k]?=some o)(h3:l.drop (k+1)=l2)(hg:∀o∈l,o.guard=none)
  (h:dR P aR md l1 0 [] σ [] fun τ _=>∃R,Hi P o τ R∧∀r O',R r O'->dR P aR md l2 0 [] ⟨τ.n,pc o.dst r τ.bn,O'⟩ [] fun ρ _=>At ρ (Q .norm)):bX P kb (.region id l.toArray false) Q σ:=by
 have bf:=I h2;obtain⟨τ,xz,c1,n1,R,hc,h⟩:=ef (all:=l1.toArray) hT l1 0 [] σ [] (fun j=>by simp) (fun j t hj=>by simp[iV]at hj) h;intro base a g hb hr;have Ex:o.guard=none:=hg o (List.mem_of_getElem? h2);have Wc:l1.length=k:=by rw[<-h1,List.length_take];omega
 have XO:l2.length=l.length-(k+1):=by rw[<-h3,List.length_drop]
 have d1:=jM (all:=l.toArray) (k:=0) (fun i o' hi=>by
  have gP:l1[i]?=some o':=by simpa using hi
  have:=I gP;rw[<-h1,List.getElem?_take]at gP;split at gP
  ·simpa using gP
  cases gP) (by simpa using hg) c1
 refine wp_region ?_;rw[show l.toArray.size=l.length from List.size_toArray,GD bf];have e1:=EM xz 0;rw[n1,Wc]at e1;rw[<-e1];refine ic (ρ:=τ) (fun a g hr=>?_) _ _ _ _ d1 hr;have ho:l.toArray[k]?=some o:=by simpa using h2
 simp only[wpOps,ho];have hw:cU l.toArray o τ=some true:=by simp[cU,Ex]
 rw[if_pos (fI hr hw)];refine .inl (hc base τ a g hr rfl (fun x _ y hy=>hy) rfl _ _ fun r u g' hR pt=>?_);obtain⟨ρ,OM,c2,n2,hQ⟩:=ef (all:=l2.toArray) hT l2 0 [] _ [] (fun j=>by simp) (fun j t hj=>by simp[iV]at hj) (h r g'.objs hR);have d2:=jM (all:=l.toArray) (k:=k+1) (fun i o' hi=>by
  have gP:l2[i]?=some o':=by simpa using hi
  rw[<-h3,List.getElem?_drop]at gP;simpa using gP) (by simpa using hg) c2
 have e2:=EM OM (k+1);rw[n2,XO]at e2;rw[<-e2];have:=ic (rest:=[]) (Q:=OZ base Q) (P:=P) (ops:=l.toArray) (base:=base) (ρ:=ρ) (fun a g hr=>⟨g,ρ,rfl,hr,hQ⟩) _ _ _ _ d2 pt;rw[List.append_nil]at this;exact this
def B7(aR:ez)(rv:List ResultVar)(R:ae->List ak->Prop):dt->St->Prop
 | .exit _,_=>False
 | _,σ=>on (fH aR σ rv) fun rs=>R (iQ rs) σ.objs
theorem xe{P:Program}{aR:ez}(hT:bT P aR){f:FuncId}{fn:Func}{c:Code}{O:List ak}{args:List ae}{R:ae->List ak->Prop}(hf:P.funcs[f]?=some fn)(hb:fn.body=some c)
  (uP : (fn.name == "runtime.NumGoroutine") = false) (hn : args.length <= fn.ntmps) (h : bX P O.length c (B7 aR fn.results.toList R) ⟨fn.ntmps, slotsOf 0 args, O⟩) : bd P f O args R := by
 refine⟨⟨fn,hf,uP,by simp[hb]⟩,fun g vs hg ho ha=>?_⟩;refine calls_of_wp hf hb ?_;have bE:Rel g ⟨fn.ntmps,slotsOf 0 args,O⟩ { tmps:=vs++Array.replicate (fn.ntmps-vs.size) undef,defers:=[] } g:={
  le:=Le.refl g
  good:=hg
  objs:=ho
  size:=by
   have:=ha.1;simp only[Array.size_append,Array.size_replicate];omega
  defers:=rfl
  slot:=fun s x hx=>by
   obtain⟨_,h1⟩:=mO args 0 s x hx;simp only[Nat.sub_zero]at h1;have bf:=I h1;have j6:s<vs.size:=by rw[ha.1];exact bf
   refine⟨vs[s],?_,ha.2 s x _ h1 (by simp[j6])⟩;simp only;rw[Array.getElem?_append,if_pos j6];simp[j6] }
 refine wp_mono (h g _ g (by rw[ho];exact Nat.le_refl _) bE) fun e a w hp=>?_;have key:∀g' fw,g'.w=w->Rel g fw a g'->(on (fH aR fw fn.results.toList) fun rs=>R (Av.iQ rs) fw.objs) ->
   a.defers=[]∧∃v,(results fn a.tmps).run P w=.ok v w∧∃g' v' r,Ending.returned v=.returned v'∧g'.w=w∧Le g g'∧Good g'∧RV g' r v'∧R r g'.objs:=by
  intro g' fw hw hr hq;subst hw;obtain⟨rs,xv,h4⟩:=aE hq;obtain⟨us,q1,q2⟩:=mV hT hr xv;have hO:g'.objs=fw.objs:=hr.objs;refine⟨hr.defers,(if h:us.toArray.size=1 then us.toArray[0]else .tuple us.toArray),?_,g',_,_,rfl,rfl,hr.le,hr.good,RV.iQ q2,by rw[hO];exact h4⟩;have hm:fn.results.mapM (kR a)=Functor.map List.toArray (fn.results.toList.mapM (kR a)):=Array.mapM_eq_mapM_toList;have eh:results fn a.tmps=(do
   let vs <-fn.results.mapM (kR a)
   pure (if h:vs.size=1 then vs[0]else .tuple vs)):=rfl
  rw[eh,hm];simp only[Sem.run_bind,Sem.run_map,q1,Result.andThen_ok,Sem.run_pure]
 cases e with
 | normal =>
  obtain⟨g',fw,h1,h2,h3⟩:=hp;exact key g' fw h1 h2 h3
 | ret =>
  obtain⟨g',fw,h1,h2,h3⟩:=hp;exact key g' fw h1 h2 h3
 | exit id =>
  obtain⟨g',fw,h1,h2,h3⟩:=hp;exact h3.elim
 | goto l=>exact hp.elim
 | panic c=>exact hp.elim
 | outgrown=>exact hp.elim
theorem Hu{P:Program}{kb:Nat}{c:Code}{Q:dt->St->Prop}{n:Nat}{bn:List (Nat×ae)}{O:List ak}(s:Nat){sz:Nat}{xs:List ae}{o:m9}(hs:look bn s=some (.aA sz xs o))
  (h1:xs=[]->bX P kb c Q ⟨n,bw s (.v (.slice none 0 0)) bn,O⟩) (h2:bX P kb c Q ⟨n,bw s (.aA sz xs .nn) bn,O⟩):bX P kb c Q ⟨n,bn,O⟩:=by
 intro base a g hb hr;obtain⟨u,e1,e2⟩:=hr.slot s _ hs;have key:∀y,RV g y u->Rel base ⟨n,bw s y bn,O⟩ a g:=fun y hy =>
  {le:=hr.le,good:=hr.good,objs:=hr.objs,size:=hr.size,defers:=hr.defers,slot:=fun k x hx=>by
    simp only[St.get,fP]at hx;split at hx
    ·rename_i e;subst e;simp only[Option.some.injEq]at hx;subst hx;exact⟨u,e1,hy⟩
    exact hr.slot k x hx }
 cases e2 with
 | nil ho hn=>exact h1 rfl base a g hb (key _ (.v trivial))
 | aA cH df cP cy hs f hm hr ho=>exact h2 base a g hb (key _ (.aA cH df cP cy hs f hm hr trivial))
theorem dX{P:Program}{kb:Nat}{c:Code}{Q:dt->St->Prop}{n:Nat}{bn:List (Nat×ae)}{O:List ak}(k:Nat){cs:List ae}(ds:List ae)(k8:O[k]?=some (.cells cs))(hl:ds.length=cs.length)(df:∀d∈ds,d.scalar)
  (hs:∀(j:Nat) (c d:ae),cs[j]?=some c->ds[j]?=some d->Sub O c d) (h:bX P kb c Q ⟨n,bn,O.set k (.cells ds)⟩):bX P kb c Q ⟨n,bn,O⟩ :=
 bX.weaken h fun base a g hb hr=>by
  have hO:g.objs=O:=hr.objs;have S7:g.objs[k]?=some (.cells cs):=by rw[hO];exact k8
  obtain⟨l,arr,t,e1,e2,e3,e4,e5,e6⟩:=hr.good.cells k cs S7;have ht:kC g k (.cells cs) (some l) (.cells ds) g.w:={
   obj:=S7
   os:=rfl
   tape:=rfl
   output:=rfl
   size:=Nat.le_refl _
   block:=fun _ _ _=>rfl
   cell:=fun b off x hx _=>hx
   place:=fun l1 h1 _=>by
    simp only[Option.some.injEq]at h1;subst h1;exact .inr ⟨l,e1,trivial,rfl,Nat.le_refl _⟩
   spare:=fun m h=>by cases h
   plain:=fun _=>⟨by simp[ak.aD],e1⟩
   gone:=by simp }
  have hle:=Le.bu hr.good ht;have c8:=Good.bu hr.good ht ⟨l,arr,t,rfl,e2,e3,by omega,fun j d u hd hu=>by
   have bf:=I hd;have hc:cs[j]?=some cs[j]:=List.getElem?_eq_getElem (by omega);exact(hs j _ d hc hd g u hO (e5 j _ u hc hu)).mono hle,df,e6.2⟩ (fun l1 h1 _=>by
    simp only[Option.some.injEq]at h1;subst h1;exact aU e3)
  refine⟨g.bu k (some l) (.cells ds) g.w,rfl,{ le:=hr.le.trans hle,good:=c8,objs:=by simp[G.bu,hO],size:=hr.size,defers:=hr.defers,slot:=fun s y hy=>?_ }⟩;have B1:(St.mk n bn O).get s=some y:=hy;obtain⟨u,h3,h4⟩:=hr.slot s y B1;exact⟨u,h3,h4.mono hle⟩
theorem Sub.MA{O:List ak}(sz:Nat):Sub O (.v (.slice none 0 0)) (.aA sz [] .ex):=fun g u _ h=>by
 obtain⟨e,_⟩:=h.bZ;rw[e];exact .nil (fun id q=>by cases q) (by simp)

end Go.Av
namespace Go.Proofs.YtjdnhamngpafmaaGreat
open Go.Av
def tp{X:Type}(step:X->Nat->List Bool->X)(l:List Ins):Nat->X->List Bool->X
 | 0,x,s=>step x 0 s
 | n+1,x,s=>match l[n]? with
  | none=>x
  | some i=>tp step l n (step x (n+1) s) (na i s)
def iS(k:Int)(l:List Int):Defs:=l.map fun p=>(p,(k,0))
def jC(k:Int):Int->List Ins->Defs
 | _,[]=>[]
 | n,i::r=>(i.to,(k,n+1))::jC k (n+1) r
def kg(k:Int)(b:Block):Defs:=iS k b.params++jC k 0 b.ins
def jz:Int->List Block->Defs
 | _,[]=>[]
 | k,b::r=>kg k b++jz (k+1) r
theorem mu{ds:Defs}{v:Int}{p:Int×Int}(h:(c9 ds v p).1=0):(c9 ds v p).2=ds++[(v,p)]:=by
 unfold c9 at h ⊢;split at h
 ·simp at h
 rename_i h1;rw[if_neg h1];split at h
 ·simp at h
 rename_i h2;rw[if_neg h2]
theorem p8(k:Int):∀(l:List Int) (ds:Defs),(dw k ds l).1=0->(dw k ds l).2=ds++iS k l
 | [],ds,_=>by simp[dw,iS]
 | p::r,ds,h=>by
  simp only[dw]at h ⊢;split at h
  ·rename_i cq;exact absurd h cq
  rename_i he;rw[if_neg he,p8 k r _ h,mu (by simpa using he)];simp[iS]
theorem ER(k:Int):∀(l:List Ins) (n:Int) (ds:Defs),(mK k n ds l).1=0->(mK k n ds l).2=ds++jC k n l
 | [],n,ds,_=>by simp[mK,jC]
 | i::r,n,ds,h=>by
  simp only[mK]at h ⊢;split at h
  ·rename_i cq;exact absurd h cq
  rename_i he;split at h
  ·rename_i hf;exact absurd h hf
  rename_i hf;rw[if_neg he,if_neg hf,ER k r _ _ h,mu (by simpa using he)];simp[jC]
theorem wX{f:Func}{ds:Defs}{k:Int}(h:(fE f ds k).1=0):(fE f ds k).2=ds++kg k (aF f k):=by
 unfold fE at h ⊢;split at h
 ·rename_i cq;exact absurd h cq
 rename_i hp;split at h
 ·rename_i cq;exact absurd h cq
 rename_i hi;rw[if_neg hp,if_neg hi];simp only;rw[ER k _ _ _ (by simpa using hi),p8 k _ _ (by simpa using hp),kg,List.append_assoc]
theorem pE{f:Func}:∀(n k:Nat) (ds:Defs),k+n=f.blocks.length->(cR f n k ds).1=0->(cR f n k ds).2=ds++jz k (f.blocks.drop k)
 | 0,k,ds,hk,_=>by
  rw[List.drop_of_length_le (by omega)];simp[cR,jz]
 | n+1,k,ds,hk,h=>by
  simp only[cR]at h ⊢;split at h
  ·rename_i cq;exact absurd h cq
  rename_i he;rw[if_neg he];have hb:f.blocks[k]?=some f.blocks[k]:=List.getElem?_eq_getElem (by omega);have ih:=pE n (k+1) (fE f ds k).2 (by omega) h;have e:((k+1:Nat):Int)=(k:Int)+1:=by omega
  rw[e]at ih;rw[ih,wX (by simpa using he),bK hb,jz,List.append_assoc];congr 3;simp[aF,hb]
def BY(f:Func):Defs:=jz 0 f.blocks
theorem N4.ds{f:Func}(bo:f.fit)(h:aZ f=0):(cR f f.blocks.length 0 []).2=BY f∧kB f.blocks.length (BY f):=by
 have he:(cR f f.blocks.length 0 []).1=0:=by
  unfold aZ at h;split at h
  ·simp at h
  split at h
  ·simp at h
  split at h
  ·simp at h
  split at h
  ·rename_i h4;exact absurd h h4
  rename_i h4;simpa using h4
 have e:=pE f.blocks.length 0 [] (by omega) he;rw[List.drop_zero,List.nil_append]at e;have hw:=(ml f.blocks.length 0 [] (.nil _) (by omega) (by simp) he).1;have e':(cR f f.blocks.length 0 []).2=BY f:=e;rw[e']at hw;exact⟨e',hw⟩
theorem Gi{ds:Defs}(hn:(ds.map (·.1)).Nodup){v:Int}{p:Int×Int}:fB ds v=some p↔(v,p)∈ds:=by
 induction ds with
 | nil=>simp[fB]
 | cons e r ih =>
  obtain⟨a,q⟩:=e;simp only[List.map_cons,List.nodup_cons,List.mem_map,not_exists,not_and]at hn;have ih:=ih hn.2;simp only[fB,List.mem_cons,Prod.mk.injEq];by_cases h:a=v
  ·subst h;rw[if_pos rfl];constructor
   ·intro h;simp only[Option.some.injEq]at h;exact .inl ⟨rfl,h.symm⟩
   rintro(⟨_,h⟩|h)
   ·rw[h]
   exact absurd rfl (hn.1 _ h)
  rw[if_neg h,ih];constructor
  ·exact .inr
  rintro(⟨h1,_⟩|h1)
  ·exact absurd h1.symm h
  exact h1
theorem n4{k:Int}{v:Int}{p:Int×Int}:∀(l:List Ins) (n:Int),(v,p)∈jC k n l↔∃(j:Nat) (i:Ins),l[j]?=some i∧i.to=v∧p=(k,n+j+1)
 | [],n=>by simp[jC]
 | i::r,n=>by
  simp only[jC,List.mem_cons,Prod.mk.injEq];rw[n4 r (n+1)];constructor
  ·rintro(⟨h1,h2⟩|⟨j,x,h1,h2,h3⟩)
   ·exact⟨0,i,rfl,h1.symm,by simpa using h2⟩
   exact⟨j+1,x,h1,h2,by rw[h3];congr 1;omega⟩
  rintro⟨j,x,h1,h2,h3⟩;cases j with
  | zero =>
   simp only[List.getElem?_cons_zero,Option.some.injEq]at h1;subst h1;exact .inl ⟨h2.symm,by simpa using h3⟩
  | succ j=>exact .inr ⟨j,x,h1,h2,by rw[h3];congr 1;omega⟩
theorem sF{v:Int}{p:Int×Int}:∀(l:List Block) (k:Int),(v,p)∈jz k l↔∃(j:Nat) (b:Block),l[j]?=some b∧(v,p)∈kg (k+j) b
 | [],k=>by simp[jz]
 | b::r,k=>by
  rw[jz,List.mem_append,sF r (k+1)];constructor
  ·rintro(h|⟨j,x,h1,h2⟩)
   ·exact⟨0,b,rfl,by simpa using h⟩
   exact⟨j+1,x,h1,by rw[show k+((j+1:Nat):Int)=k+1+j by omega];exact h2⟩
  rintro⟨j,x,h1,h2⟩;cases j with
  | zero =>
   simp only[List.getElem?_cons_zero,Option.some.injEq]at h1;subst h1;exact .inl (by simpa using h2)
  | succ j=>exact .inr ⟨j,x,h1,by rw[show k+((j+1:Nat):Int)=k+1+j by omega]at h2;exact h2⟩
def wR(f:Func)(v:Int)(p:Int×Int):Prop:=∃(k:Nat) (b:Block),f.blocks[k]?=some b∧p.1=k∧((p.2=0∧v∈b.params)∨∃(j:Nat) (i:Ins),b.ins[j]?=some i∧i.to=v∧p.2=j+1)
theorem EW{f:Func}{v:Int}{p:Int×Int}:(v,p)∈BY f↔wR f v p:=by
 obtain⟨p1,p2⟩:=p;rw[BY,sF];constructor
 ·rintro⟨k,b,h1,h2⟩;rw[kg,List.mem_append]at h2;rcases h2 with h2|h2
  ·simp only[iS,List.mem_map,Prod.mk.injEq]at h2;obtain⟨x,h3,h4,h5,h6⟩:=h2;subst h4;exact⟨k,b,h1,by simp only;omega,.inl ⟨h6.symm,h3⟩⟩
  obtain⟨j,i,h3,h4,h5⟩:=(n4 _ _).1 h2;simp only[Prod.mk.injEq]at h5;exact⟨k,b,h1,by simp only;omega,.inr ⟨j,i,h3,h4,by simp only;omega⟩⟩
 rintro⟨k,b,h1,h2,h3⟩;simp only at h2 h3;subst h2;refine⟨k,b,h1,?_⟩;rw[kg,List.mem_append];rcases h3 with⟨h3,h4⟩|⟨j,i,h3,h4,h5⟩
 ·subst h3;exact .inl (by simpa[iS]using h4)
 exact .inr ((n4 _ _).2 ⟨j,i,h3,h4,by subst h5;simp⟩)
theorem nW(k:Int):∀(l:List Ins) (n:Int),(jC k n l).map (·.1)=l.map Ins.to
 | [],_=>rfl
 | i::r,n=>by rw[jC,List.map_cons,nW k r,List.map_cons]
theorem sj:∀(l:List Block) (k:Int),(jz k l).map (·.1)=l.flatMap iE
 | [],_=>rfl
 | b::r,k=>by
  rw[jz,List.map_append,sj r,List.flatMap_cons,kg,List.map_append,nW,iE,iS,List.map_map];congr 2;exact List.map_id' _
theorem yo(f:Func):(BY f).map (·.1)=ma f:=sj _ _
theorem CG{k:Nat}{S:Ds}{e:Edge}(h:(ig k S e).again=false):ig k S e=S∧((S.at_ e.block.toNat).meet (S.at_ k)).add e.block.toNat=S.at_ e.block.toNat∧S.seen.has e.block.toNat=true:=by
 unfold ig at h ⊢;simp only at h ⊢;split at h
 ·cases h
 rename_i hc;rw[if_neg hc];simp only[ne_eq,not_or,Decidable.not_not,Bool.not_eq_false]at hc;exact⟨rfl,hc⟩
theorem uB{k:Nat}:∀(l:List Edge) {S:Ds},(l.foldl (ig k) S).again=false->l.foldl (ig k) S=S∧∀e∈l,((S.at_ e.block.toNat).meet (S.at_ k)).add e.block.toNat=S.at_ e.block.toNat∧S.seen.has e.block.toNat=true
 | [],S,_=>⟨rfl,by simp⟩
 | e::r,S,h=>by
  rw[List.foldl_cons]at h;have ih:=uB r h;rw[ih.1]at h;have h1:=CG h;rw[List.foldl_cons,ih.1,h1.1];rw[h1.1]at ih;refine⟨rfl,fun x hx=>?_⟩;rcases List.mem_cons.1 hx with q|q
  ·subst q;exact h1.2
  exact ih.2 x q
theorem uC:∀(l:List Block) (k:Nat) {S:Ds},(lz k S l).again=false->lz k S l=S∧∀(j:Nat) b,l[j]?=some b->S.seen.has (k+j)=true->∀e∈b.term.to,((S.at_ e.block.toNat).meet (S.at_ (k+j))).add e.block.toNat=S.at_ e.block.toNat∧S.seen.has e.block.toNat=true
 | [],k,S,_=>⟨rfl,fun j b h=>by simp at h⟩
 | b::r,k,S,h=>by
  rw[lz]at h;have ih:=uC r (k+1) h;rw[ih.1]at h;have h1:qC k S b=S∧(S.seen.has k=true->∀e∈b.term.to,((S.at_ e.block.toNat).meet (S.at_ k)).add e.block.toNat=S.at_ e.block.toNat∧S.seen.has e.block.toNat=true):=by
   unfold qC at h ⊢;split
   ·rename_i hs;exact⟨rfl,fun q=>by rw[hs]at q;cases q⟩
   rename_i hs;rw[if_neg hs]at h;have:=uB _ h;exact⟨this.1,fun _=>this.2⟩
  rw[lz,ih.1,h1.1];rw[h1.1]at ih;refine⟨rfl,fun j x hj hs=>?_⟩;cases j with
  | zero =>
   simp only[List.getElem?_cons_zero,Option.some.injEq]at hj;subst hj;exact h1.2 hs
  | succ j =>
   rw[show k+(j+1)=k+1+j by omega]at hs ⊢;exact ih.2 j x hj hs
theorem xa{f:Func}(he:∀b∈f.blocks,∀e∈b.term.to,0<=e.block∧e.block.toNat<f.blocks.length):∀(n:Nat) {S:Ds},kZ f.blocks.length S->(S.again=true->S.weight<n)->(iY f n S).again=false
 | 0,S,_,h=>by
  cases hs:S.again with
  | false=>exact hs
  | true=>exact absurd (h hs) (by omega)
 | n+1,S,hS,h=>by
  simp only[iY];split
  ·rename_i ha;have hw:=h ha;have hr:=qD f.blocks (k:=0) (S:=⟨S.over,S.seen,false⟩) ⟨hS.few,hS.len,hS.fit,hS.seen,hS.self⟩ he;have Uy:(⟨S.over,S.seen,false⟩:Ds).weight=S.weight:=rfl;refine xa he n hr.1 fun q=>?_;rcases hr.2.2 q with q|q
   ·cases q
   omega
  rename_i ha;simpa using ha
structure Dz(S:Ds):Prop where
 zero:S.at_ 0=Bs.none.add 0
 seen:S.seen.has 0=true
theorem Ph{n k:Nat}{S:Ds}(h:Dz S){e:Edge}(h1:1<=e.block)(h2:e.block.toNat<n)(h3:n<=128):Dz (ig k S e):=by
 unfold ig;simp only;split
 ·refine⟨?_,?_⟩
  ·have:=h.zero;unfold Ds.at_ at this ⊢;simp only;rw[List.getElem?_set_ne (by omega)];exact this
  simp only;rw[Bs.has_add _ _ _ (by omega) (by omega),h.seen];rfl
 exact h
theorem HW{n k:Nat}(h3:n<=128):∀(l:List Edge) {S:Ds},Dz S->(∀e∈l,1<=e.block∧e.block.toNat<n)->Dz (l.foldl (ig k) S)
 | [],_,h,_=>h
 | e::r,S,h,he=>HW h3 r (Ph h (he e (by simp)).1 (he e (by simp)).2 h3) fun x hx=>he x (by simp[hx])
theorem HY{n:Nat}(h3:n<=128):∀(l:List Block) {k:Nat} {S:Ds},Dz S->(∀b∈l,∀e∈b.term.to,1<=e.block∧e.block.toNat<n)->Dz (lz k S l)
 | [],_,_,h,_=>h
 | b::r,k,S,h,he=>by
  refine HY h3 r (k:=k+1) ?_ fun x hx=>he x (by simp[hx]);unfold qC;split
  ·exact h
  exact HW h3 _ h (he b (by simp))
theorem HX{f:Func}(h3:f.blocks.length<=128)(he:∀b∈f.blocks,∀e∈b.term.to,1<=e.block∧e.block.toNat<f.blocks.length):∀(n:Nat) {S:Ds},Dz S->Dz (iY f n S)
 | 0,_,h=>h
 | n+1,S,h=>by
  simp only[iY];split
  ·exact HX h3 he n (HY h3 _ (S:=⟨S.over,S.seen,false⟩) ⟨h.zero,h.seen⟩ he)
  exact h
theorem xc{f:Func}:∀(n:Nat) {S:Ds},S.again=true->(iY f n S).again=false->∃T:Ds,iY f n S=lz 0 T f.blocks
 | 0,S,h1,h2=>by
  rw[iY,h1]at h2;cases h2
 | n+1,S,h1,h2=>by
  simp only[iY,h1,if_true]at h2 ⊢;cases hr:(lz 0 ⟨S.over,S.seen,false⟩ f.blocks).again with
  | false=>exact⟨_,w9 hr n⟩
  | true=>exact xc n hr h2
def od(f:Func)(k:Nat):Bs:=(k6 f).1[k]?.getD .none
def sL(f:Func)(k:Nat):Bool:=(k6 f).2.has k
structure K6(f:Func):Prop where
 seen:sL f 0=true
 zero:∀j,j<128->((od f 0).has j=true↔j=0)
 self:∀k,k<f.blocks.length->(od f k).has k=true
 step:∀(k:Nat) b,f.blocks[k]?=some b->sL f k=true->∀e∈b.term.to,sL f e.block.toNat=true∧∀j,j<128->((od f e.block.toNat).has j=true->j=e.block.toNat∨(od f k).has j=true)
theorem Pj{f:Func}(h0:f.blocks≠[])(h1:f.blocks.length<=128)(he:∀b∈f.blocks,∀e∈b.term.to,1<=e.block∧e.block<f.blocks.length):K6 f:=by
 have KN:∀b∈f.blocks,∀e∈b.term.to,0<=e.block∧e.block.toNat<f.blocks.length:=fun b hb e hx=>by have:=he b hb e hx;omega
 have qL:∀b∈f.blocks,∀e∈b.term.to,1<=e.block∧e.block.toNat<f.blocks.length:=fun b hb e hx=>by have:=he b hb e hx;omega
 have hl:=List.length_pos_iff.2 h0;have hS:=yn h0 h1;have ZB:=xY hS;have ZK:Dz (mw f):=⟨by unfold Ds.at_ mw;simp only;rw[List.getElem?_set_self (by simpa using hl)];rfl,by show(Bs.none.add 0).has 0=true;decide⟩
 have mH:=xa KN 20000 hS (fun _=>by omega);have hz:=HX h1 qL 20000 ZK;obtain⟨T,hT⟩:=xc 20000 rfl mH;have k8:kZ f.blocks.length (iY f 20000 (mw f)):=by
  have key:∀(n:Nat) (S:Ds),kZ f.blocks.length S->kZ f.blocks.length (iY f n S):=fun n=>by
   induction n with
   | zero=>exact fun S h=>h
   | succ n ih =>
    intro S h;simp only[iY];split
    ·exact ih _ (qD f.blocks (k:=0) (S:=⟨S.over,S.seen,false⟩) ⟨h.few,h.len,h.fit,h.seen,h.self⟩ KN).1
    exact h
  exact key _ _ hS
 have WW:=uC f.blocks 0 (S:=T) (by rw[<-hT];exact mH);have SA:=WW.2;rw[show T=iY f 20000 (mw f) from WW.1.symm.trans hT.symm]at SA;have rM:∀k,od f k=(iY f 20000 (mw f)).at_ k:=fun k=>rfl;have Tm:∀k,sL f k=(iY f 20000 (mw f)).seen.has k:=fun k=>rfl;generalize iY f 20000 (mw f)=S at *;refine⟨by rw[Tm,hz.seen],fun j hj=>?_,fun k hk=>by rw[rM];exact k8.self k hk,fun k b hb hs e hx=>?_⟩
 ·rw[rM,hz.zero,Bs.has_add _ _ _ (by omega) hj];have:Bs.none.has j=false:=by unfold Bs.has Bs.none;simp
  simp[this]
 have Ue:=qL b (List.mem_of_getElem? hb) e hx;obtain⟨q1,q2⟩:=SA k b hb (by rw[Nat.zero_add,<-Tm];exact hs) e hx;rw[Nat.zero_add]at q1;refine⟨by rw[Tm];exact q2,fun j hj q=>?_⟩;rw[rM,<-q1,Bs.has_add _ _ _ (by omega) hj,Bs.uG]at q;rw[rM];simp only[Bool.or_eq_true,Bool.and_eq_true,decide_eq_true_eq]at q;rcases q with q|q
 ·exact .inr q.2
 exact .inl q
theorem vc{ds:Defs}{v:Int}{p:Int×Int}(h:fB ds v=some p):(v,p)∈ds:=by
 induction ds with
 | nil=>cases h
 | cons e r ih =>
  obtain⟨a,q⟩:=e;simp only[fB]at h;split at h
  ·rename_i e;simp only[Option.some.injEq]at h;rw[e,h];simp
  exact List.mem_cons.2 (.inr (ih h))
def B4(f:Func)(k:Nat)(n:Int)(v:Int):Prop:=∃p,wR f v p∧(sL f k=true->(p.1=k∧p.2<=n)∨(p.1≠k∧(od f k).has p.1.toNat=true))
theorem yw{f:Func}{k:Nat}{n v:Int}(h:jb (BY f) (k6 f).1 (k6 f).2 k n v=true):B4 f k n v:=by
 unfold jb at h;cases hl:fB (BY f) v with
 | none=>rw[hl]at h;cases h
 | some p =>
  rw[hl]at h;refine⟨p,EW.1 (vc hl),fun hs=>?_⟩;have Rf:(k6 f).2.has k=true:=hs;simp only[Rf,Bool.not_true,Bool.or_false,Bool.or_eq_true,Bool.and_eq_true,decide_eq_true_eq,Bool.not_eq_true',decide_eq_false_iff_not]at h;exact h
structure Eb(f:Func):Prop where
 ins:∀(k:Nat) b,f.blocks[k]?=some b->∀(n:Nat) i,b.ins[n]?=some i->∀a∈i.args,B4 f k n a
 arg:∀(k:Nat) b,f.blocks[k]?=some b->b.term.kind≠1->b.term.kind≠4->B4 f k b.ins.length b.term.arg
 args:∀(k:Nat) b,f.blocks[k]?=some b->∀e∈b.term.to,∀a∈e.args,B4 f k b.ins.length a
theorem sx{ds:Defs}{over:List Bs}{seen:Bs}{k:Nat}:∀(l:List Ins) (n:Nat),jD ds over seen k n l=true->∀(j:Nat) i,l[j]?=some i->∀a∈i.args,jb ds over seen k ((n+j:Nat):Int) a=true
 | [],_,_=>fun j i h=>by simp at h
 | x::r,n,h=>fun j i hj a ha=>by
  simp only[jD,Bool.and_eq_true,List.all_eq_true]at h;cases j with
  | zero =>
   simp only[List.getElem?_cons_zero,Option.some.injEq]at hj;subst hj;exact h.1 a ha
  | succ j =>
   rw[show n+(j+1)=n+1+j by omega];exact sx r (n+1) h.2 j i hj a ha
theorem sl{ds:Defs}{over:List Bs}{seen:Bs}:∀(l:List Block) (k:Nat),gZ ds over seen k l=true->∀(j:Nat) b,l[j]?=some b->lf ds over seen (k+j) b=true
 | [],_,_=>fun j i h=>by simp at h
 | x::r,k,h=>fun j b hj=>by
  simp only[gZ,Bool.and_eq_true]at h;cases j with
  | zero =>
   simp only[List.getElem?_cons_zero,Option.some.injEq]at hj;subst hj;exact h.1
  | succ j =>
   rw[show k+(j+1)=k+1+j by omega];exact sl r (k+1) h.2 j b hj
theorem QV{f:Func}(h:rf f (BY f)=0):Eb f:=by
 have ha:gZ (BY f) (k6 f).1 (k6 f).2 0 f.blocks=true:=by
  unfold rf at h;split at h
  ·assumption
  simp at h
 have hb:∀(k:Nat) b,f.blocks[k]?=some b->lf (BY f) (k6 f).1 (k6 f).2 k b=true:=fun k b hk=>by
  have:=sl f.blocks 0 ha k b hk
  rwa [Nat.zero_add]at this
 have hu:∀(k:Nat) b,f.blocks[k]?=some b->ou b.term (jb (BY f) (k6 f).1 (k6 f).2 k b.ins.length)=true:=fun k b hk=>by
  have:=hb k b hk;simp only[lf,Bool.and_eq_true]at this;exact this.2
 refine⟨fun k b hk n i hn a ha=>?_,fun k b hk h1 h4=>?_,fun k b hk e he a ha=>?_⟩
 ·have:=hb k b hk;simp only[lf,Bool.and_eq_true]at this;have:=sx b.ins 0 this.1 n i hn a ha;rw[Nat.zero_add]at this;exact yw this
 ·have:=hu k b hk;simp only[ou,Bool.and_eq_true,Bool.or_eq_true,decide_eq_true_eq,h1,h4,false_or]at this;exact yw this.1
 have:=hu k b hk;simp only[ou,Bool.and_eq_true,List.all_eq_true]at this;exact yw (this.2 e he a ha)
structure XX(f:Func):Prop where
 fn:N4 f
 RJ:K6 f
 Kv:Eb f
 vals:Ry f
 nodup:(ma f).Nodup
 gG:∀b∈f.blocks,∀e∈b.term.to,1<=e.block∧e.block<f.blocks.length
theorem z8{f:Func}(bo:f.fit)(h:aZ f=0):XX f:=by
 have hw:=cS bo h;obtain⟨hd,Sp⟩:=N4.ds bo h;have he:∀b∈f.blocks,∀e∈b.term.to,1<=e.block∧e.block<f.blocks.length:=fun b hb e hx=>by
  have:=((mD (hw.blk b hb).fin).gG e hx).1;omega
 refine⟨hw,Pj hw.ne hw.few he,QV (by rw[<-hd];exact hw.Kv),fun v hv=>?_,?_,he⟩
 ·rw[<-yo]at hv;obtain⟨e,h1,rfl⟩:=List.mem_map.1 hv;exact Sp.range e h1
 rw[<-yo];exact Sp.nodup
end Go.Proofs.YtjdnhamngpafmaaGreat
namespace Go.Av
theorem pH{P:Program}{aR:ez}(hT:bT P aR){o:Oper}{σ:St}{t e:TypeId}{len:Nat}{parts:Array (Nat×Operand)}{ti te:b6}{ps:List (Nat×ae)}{xs:List ae}
  (ho:o.op=.buildSlice t len parts) (hd:∀d,o.dst=some d->d<σ.n) (ht:aR t=some ti) (aS:ti.desc=.slice e) (he:aR e=some te) (pP:0<te.size) (xn:σ.eR parts.toList=some ps) (ga:∀p∈ps,p.2.flat)
  (IX:gv 0 ps=some xs) (hlen:xs.length=len) (cH:∀x∈xs,x.cells.length=te.size) (To:len*te.size<=2 ^ 24) (hz:len≠0):Cert P o σ (.os σ.objs.length len te.size) (.write (σ.objs++[.cells (an xs)])) :=
 Cert.iy hd fun base fw a g bE h iD=>by
  have hO:g.objs=σ.objs:=iD.resolve_left (by simp);have hg:=bE.good;have wA:=jO (a:=a) (g:=g) (fun x hx y hy=>h x (by simpa[ho,Op.operands]using hx) y hy) xn ga;have hu:=bQ hT ht aS;obtain⟨⟨i,z,h1,h2,h3,h4,h5,h6,h7,h8,h9⟩,_⟩:=hT e te he;have qO:=oo IX;have df:∀x∈xs,∀c∈x.cells,c.scalar:=by
   have aux:∀{ps:List (Nat×ae)} {vs:List (Nat×Value)},B6 g ps vs->∀p∈ps,∀c∈p.2.cells,c.scalar:=by
    intro ps vs hr;induction hr with
    | nil=>intro p hp;cases hp
    | cons hx hf r ih =>
     intro p hp;rcases List.mem_cons.1 hp with hp|hp
     ·subst hp;exact hx.iH hf
     exact ih p hp
   intro x hx c hc;have fL:∃k,(k,x)∈ps:=by
    obtain⟨k,hk⟩:=List.getElem?_of_mem hx;refine⟨0+k,?_⟩;rw[qO,List.mem_map];refine⟨(x,0+k),?_,rfl⟩;rw[List.mem_iff_getElem?];exact⟨k,by simp[hk]⟩
   obtain⟨k,hk⟩:=fL;exact aux wA _ hk c hc
  have cq:¬len*i.size=0:=by
   rw[h2];intro e0;rcases Nat.mul_eq_zero.1 e0 with q|q<;>omega
  obtain⟨zs,yJ⟩:∃zs:Array Value,zs=(Array.range (len*i.size)).map (z.cells[· % z.cells.size]!):=⟨_,rfl⟩
  have Dc:zs.size=len*te.size:=by rw[yJ];simp[h2]
  obtain⟨zc,TG,Hg,zJ⟩:∃zc:List ae,(∀c∈zc,c.scalar)∧jg g zc zs∧zc.length=len*te.size:=by
   refine⟨(List.range (len*te.size)).map fun j=>te.zero.getD (j % te.size) (.v (.bool false)),fun c hc=>?_,⟨by simp[Dc],fun j c u hj Mb=>?_⟩,by simp⟩
   ·rw[List.mem_map]at hc;obtain⟨j,_,e⟩:=hc;subst e;have bf:j % te.size<te.zero.length:=by rw[h6];exact Nat.mod_lt _ pP
    rw[List.getD_eq_getElem?_getD,List.getElem?_eq_getElem bf];exact h9 _ (List.getElem_mem bf)
   have iB:=I hj;simp only[List.length_map,List.length_range]at iB;rw[List.getElem?_map,List.getElem?_range iB]at hj;simp only[Option.map_some,Option.some.injEq]at hj;subst hj;have bf:j % te.size<te.zero.length:=by rw[h6];exact Nat.mod_lt _ pP
   have j6:j % te.size<z.cells.size:=by rw[h5];exact bf
   rw[yJ]at Mb;simp only[Array.getElem?_map,h2,Array.getElem?_range,if_pos iB,Option.map_some,Option.some.injEq]at Mb;subst Mb;rw[List.getD_eq_getElem?_getD,List.getElem?_eq_getElem bf];refine h8 g (j % te.size) _ _ (List.getElem?_eq_getElem bf) ?_;rw[h5,h6];simp[j6]
  have ID:∃cs',iN (fun i=>some (i*te.size,te.size)) zc ps=some cs':=by
   have aux:∀(ys:List ae) (k:Nat) (cs:List ae),(∀y∈ys,y.cells.length=te.size)->(k+ys.length)*te.size<=cs.length->∃cs',iN (fun i=>some (i*te.size,te.size)) cs ((ys.zipIdx k).map fun p=>(p.2,p.1))=some cs':=by
    intro ys;induction ys with
    | nil=>intro k cs _ _;exact⟨cs,rfl⟩
    | cons y ys ih =>
     intro k cs hy hl;simp only[List.zipIdx_cons,List.map_cons,iN];simp only[List.length_cons]at hl;have EA:(k+1)*te.size=k*te.size+te.size:=Nat.succ_mul k te.size;have EC:(k+1)*te.size<=(k+(ys.length+1))*te.size:=Nat.mul_le_mul_right _ (by omega);have hc:y.cells.length=te.size∧k*te.size+te.size<=cs.length:=⟨hy y (by simp),by omega⟩
     rw[if_pos hc];refine ih (k+1) _ (fun z hz=>hy z (List.mem_cons_of_mem _ hz)) ?_;rw[fQ (by omega),show k+1+ys.length=k+(ys.length+1) by omega];exact hl
   rw[qO];exact aux xs 0 zc cH (by rw[zJ,hlen,Nat.zero_add];exact Nat.le_refl _)
  obtain⟨cs',C1⟩:=ID;obtain⟨b9,q1,q2,_⟩:=oI (fun i=>some (i*te.size,te.size)) wA Hg C1;obtain⟨e1,_⟩:=rI xs 0 zc cs' (by rw[<-qO];exact C1) (by rw[zJ,hlen,Nat.zero_add];exact Nat.le_refl _);have e2:cs'=an xs:=by
   rw[e1];simp only[Nat.zero_mul,List.take_zero,List.nil_append,Nat.zero_add];rw[List.drop_of_length_le (by rw[zJ,hlen];omega),List.append_nil]
  subst e2;have bF:(Instr.buildSlice t len (parts.map fun(i,x)=>(i,a.eval x))).run P g.w=.ok (.slice (some ⟨g.w.heap.size,0,none⟩) len len) (g.w.alloc (.cells b9 e)):=by
   have yC:¬len*i.size > 2 ^ 24:=by rw[h2];omega
   rw[yJ,<-h2]at q1;have ON:Instr.fill (fun V8=>some (V8*i.size,i.size)) ((Array.range (len*i.size)).map (z.cells[· % z.cells.size]!)) (parts.map fun(i,x)=>(i,a.eval x)).toList=some b9:=by
    rw[Array.toList_map];exact q1
   simp only[Instr.buildSlice,run_underlying hu,Go.sizeOf,typeInfo,Go.zeroValue,Sem.run_bind,run_program,Result.andThen_ok,h1,Sem.run_pure,Go.newRow];rw[if_neg yC,if_neg cq];simp only[Sem.run_bind,Sem.run_pure,Result.andThen_ok,run_program,h1,h4,ON,run_newObj];rfl
  have hle:=Le.alloc hg (.cells b9 e) 0 (.cells (an xs));have kM:b9.size=len*te.size:=by
   rw[q2.1,<-hlen];have:∀ys:List ae,(∀y∈ys,y.cells.length=te.size)->(an ys).length=ys.length*te.size:=fun ys=>by
    induction ys with
    | nil=>intro _;simp[an]
    | cons y ys ih =>
     intro hy;have h1:=ih fun z hz=>hy z (by simp[hz]);have h2:=hy y (by simp);simp only[an,List.flatMap_cons,List.length_append,List.length_cons]at h1 ⊢;rw[h1,h2,Nat.succ_mul];omega
   exact this xs cH
  have VT:∀c∈an xs,c.scalar:=fun c hc=>by
   simp only[an,List.mem_flatMap]at hc;obtain⟨x,hx,hc⟩:=hc;exact df x hx c hc
  refine⟨.slice (some ⟨g.w.heap.size,0,none⟩) len len,g.alloc (.cells b9 e) 0 (.cells (an xs)),.inl (by simp[execOp,ho,bF,G.alloc]),hle,Good.alloc hg _ 0 _ (.inr rfl) ⟨_,e,rfl,by rw[q2.1];exact Nat.le_refl _,(q2.mono hle).2,VT⟩,by simp[G.alloc,hO,Mode.post],?_⟩;rw[<-hO];exact .os (l:=⟨g.w.heap.size,0,b9.size⟩) (hU hg) eH (by simp[ak.aD]) (Nat.le_refl _) (by rw[kM];exact Nat.le_refl _) (by
   have:len<=len*te.size:=Nat.le_mul_of_pos_right _ pP;omega)
theorem bM.os{O:List ak}{id len sz:Nat}{cs xs:List ae}(fK:O[id]?=some (.cells cs))(cH:∀x∈xs,x.cells.length=sz)(hlen:xs.length=len)(hd:((cs.drop 0).take (len*sz)).map ae.bg=an xs):bM O id (.os id len sz) (.aA sz xs .sh):=fun g u l' hg hO he hle h=>by
 obtain⟨l,o1,gA,h1,h2,_,Hc,_,cy,eu⟩:=h.rX;subst eu;rw[he]at h1;simp only[Option.some.injEq]at h1;subst h1;have gb:g.objs[id]?=some (.cells cs):=by rw[hO];exact fK
 obtain⟨arr,t',ix,da,mG,fA,nQ,_⟩:=hg.row gb he;subst hlen;have key:∀(j:Nat) (c:ae),(an xs)[j]?=some c->∃c',cs[0+j]?=some c'∧c'.bg=c:=fun j c hj=>by
  rw[<-hd,List.getElem?_map,Option.map_eq_some_iff]at hj;obtain⟨c',hj,e⟩:=hj;have:=l9 hj;rw[List.getElem?_drop]at this;exact⟨c',this,e⟩
 refine .aA cH (fun x hx c hc=>?_) Hc cy (fun _=>rfl) (fun j=>arr.getD (0+j) undef) (fun j c hj=>?_) (fun j c hj=>?_) trivial
 ·have fL:c∈an xs:=by
   simp only[an,List.mem_flatMap];exact⟨x,hx,hc⟩
  obtain⟨j,hj⟩:=List.getElem?_of_mem fL;obtain⟨c',iB,e⟩:=key j c hj;subst e;exact ae.ew (nQ c' (List.mem_of_getElem? iB))
 ·obtain⟨c',iB,e⟩:=key j c hj;have bf:=I iB;refine⟨?_,mE hg he gb trivial _⟩;show g.w.cell? _=_;simp only;rw[cell_of_row da];simp[Array.getD_eq_getD_getElem?,show j<arr.size by omega]
 obtain⟨c',iB,e⟩:=key j c hj;have bf:=I iB;subst e;exact((fA _ c' _ iB (by simp[Array.getD_eq_getD_getElem?,show j<arr.size by omega])).mono hle).bg
theorem Jb{P:Program}{aR:ez}{md:Md}(hT:bT P aR){o:Oper}{l2:List Oper}{Q:dt->St->Prop}{σ:St}{t e:TypeId}{len d:Nat}{parts:Array (Nat×Operand)}{ti te:b6}{ps:List (Nat×ae)}{xs:List ae}
  (ho:o.op=.buildSlice t len parts) (iZ:o.dst=some d) (hd:d<σ.n) (ht:aR t=some ti) (aS:ti.desc=.slice e) (he:aR e=some te) (pP:0<te.size) (xn:σ.eR parts.toList=some ps) (ga:∀p∈ps,p.2.flat)
  (IX:gv 0 ps=some xs) (hlen:xs.length=len) (cH:∀x∈xs,x.cells.length=te.size) (To:len*te.size<=2 ^ 24) (hz:len≠0)
  (h:dR P aR md l2 0 [] ⟨σ.n,pc o.dst (.os σ.objs.length len te.size) σ.bn,σ.objs++[.cells (an xs)]⟩ [] fun ρ _=>At ρ (Q .norm)):Hl P aR md o l2 Q σ :=
 ⟨_,_,pH hT ho (fun d' e=>by rw[iZ]at e;cases e;exact hd) ht aS he pP xn ga IX hlen cH To hz,h⟩
end Go.Av
namespace Go.Proofs.YtjdnhamngpafmaaGreat
open Go.Av

structure Ru(g:Func)(many:Nat):Prop where
 few:0<g.blocks.length∧g.blocks.length<=128
 N9:0<many∧many<=4096
 par:∀(k:Nat) b,g.blocks[k]?=some b->0<k->b.params=[]
 DB:∀b∈g.blocks,b.params.length<=4096∧∀v∈b.params,G3 many v
 ins:∀b∈g.blocks,b.ins.length<=8192∧∀i∈b.ins,G3 many i.to∧(∀a∈i.args,G3 many a)∧i.args.length<=4096
 arg:∀b∈g.blocks,G3 many b.term.arg
 to:∀b∈g.blocks,b.term.to.length<=257∧∀e∈b.term.to,1<=e.block∧e.block<g.blocks.length∧e.args=[]
def eG(s:List Bool):ae:=.aA 1 (s.map eB) .sh
theorem iL(n:Nat)(l:List (List Bool)):av n (l.map eG):=by
 rw[aT];intro x hx;obtain⟨s,_,rfl⟩:=List.mem_map.1 hx;exact⟨eI _ _,trivial⟩
theorem gU(n:Nat)(l:List (List Int)):av n (l.map aJ):=by
 rw[aT];intro x hx;obtain⟨s,_,rfl⟩:=List.mem_map.1 hx;exact⟨ax _ _,trivial⟩
theorem rG(l:List (List Bool)):∀d∈l.map eG,d.scalar:=fun d hd=>by
 obtain⟨s,_,rfl⟩:=List.mem_map.1 hd;trivial
theorem Lt(l:List (List Bool)):∀d∈l.map eG,d.cells.length=1:=fun d hd=>by
 obtain⟨s,_,rfl⟩:=List.mem_map.1 hd;rfl
theorem Pm(l:List (List Bool)):(l.map eG).map ae.bg=an (l.map eG):=by
 induction l with
 | nil=>rfl
 | cons a r ih =>
  simp only[List.map_cons,an,List.flatMap_cons]at ih ⊢;rw[ih];rfl
theorem H2{O:List ak}{rows:List (List Bool)}{k:Nat}(hk:k<rows.length){s:List Bool}{o:m9}:∀(j:Nat) (c d:ae),(bh (rows.map eG) k [.aA 1 (s.map eB) o])[j]?=some c->((rows.set k s).map eG)[j]?=some d->Sub O c d:=fun j c d hc hd=>by
 rw[cA _ (by simpa using hk),List.getElem?_set]at hc;rw[List.getElem?_map,List.getElem?_set]at hd;by_cases e:k=j
 ·rw[if_pos e,if_pos (by simpa using hk),Option.some.injEq]at hc;rw[if_pos e,if_pos (by simpa using hk),Option.map_some,Option.some.injEq]at hd;rw[<-hc,<-hd];exact Sub.sh rfl
 rw[if_neg e,List.getElem?_map]at hc;rw[if_neg e]at hd;rw[hc]at hd;rw[Option.some.injEq]at hd;rw[hd];exact Sub.refl _
theorem JC{α:Type}(z y:α)(k n:Nat)(h:k<n):(List.replicate k z++List.replicate (n-k) y).set k z=List.replicate (k+1) z++List.replicate (n-(k+1)) y:=by
 rw[show n-k=(n-(k+1))+1 by omega,List.replicate_succ (a:=y),List.set_append_right _ _ (by simp),List.length_replicate,Nat.sub_self,List.set_cons_zero,List.replicate_succ' (a:=z),List.append_assoc];rfl
theorem Dg{t:Term}(h:∀e∈t.to,e.args=[])(o:List Bool):xA t o=if dI t then la o t.arg true else o:=by
 unfold xA;generalize (if dI t then la o t.arg true else o)=q;have:∀(l:List Edge),(∀e∈l,e.args=[])->l.foldl (fun o e=>j8 o e.args) q=q:=fun l=>by
  induction l with
  | nil=>exact fun _=>rfl
  | cons e r ih =>
   intro hl;rw[List.foldl_cons,hl e List.mem_cons_self];exact ih fun x hx=>hl x (List.mem_cons_of_mem _ hx)
 exact this t.to h
structure Nx where
 S:Ng
 q:Nat
theorem Be(g:Func)(ord:List Int)(inn:List (List Int))(many:Nat)(hw:Ru g many)(ho:∀k∈ord,0<=k∧k<g.blocks.length)(F5:ord.length<=128)(BZ:inn.length<=128) :
  bA Tryz.prog 72 [.agg [aI g.name,aw g.blocks,aJ ord,.aA 1 (inn.map aJ) .sh],aI many] (.aA 1 ((vg g many ord).map eG) .sh):=by
 obtain⟨uO,hn⟩:=hw.few;obtain⟨lL,KU⟩:=hw.N9;obtain⟨R,hR⟩:∃R,R=vg g many ord:=⟨_,rfl⟩
 have WT:R.length=g.blocks.length:=by rw[hR];exact(Bd ho).1
 rw[<-hR];unfold vg at hR;obtain⟨N,hN⟩:∃N,N=g.blocks.length:=⟨_,rfl⟩
 have Pz:=Ji g many ord;have hW0:=Dp N many;rw[<-hN]at uO hn hR Pz WT;have da:(List.replicate many (ae.v (.bool false)))=(List.replicate many false).map eB:=by simp[eB]
 obtain⟨z,hz⟩:∃z,z=List.replicate many false:=⟨_,rfl⟩
 rw[<-hz]at da;have zJ:z.length=many:=by rw[hz];simp
 have VM:∀(i:Nat) k,ord[i]?=some k->0<=k∧k<N:=fun i k h=>by rw[hN];exact ho k (List.mem_of_getElem? h)
 refine zf true 0 Tryz.func72 Tryz.ntmps72 ?_;dsimp only[Tmp,TypeId,slotsOf];refine ay (ai ?_);refine aC 2 0 (.ip none [aI g.name,aw g.blocks,aJ ord,.aA 1 (inn.map aJ) .sh]) rfl (by simp[ak.aD]) trivial rfl ?_ ?_;rotate_left;simp -dsimp only[simprocAttr,↓aa,zp];rotate_left
 ·exact bM.mp rfl rfl
 refine aQ ?_;simp -dsimp only[simprocAttr,↓aa,zp,<-hN,xL]
 repeat(refine⟨by omega,?_⟩)
 refine ai ?_;refine dX 1 ((List.replicate N ([]:List Bool)).map eG) rfl (by simp) (rG _) (fun j c d hc hd=>?_) ?_
 ·have h1:=(List.mem_replicate.1 (List.mem_of_getElem? hc)).2;rw[List.getElem?_map]at hd;cases hj:(List.replicate N ([]:List Bool))[j]? with
  | none=>rw[hj]at hd;cases hd
  | some x =>
   have h2:=(List.mem_replicate.1 (List.mem_of_getElem? hj)).2;rw[hj,Option.map_some,Option.some.injEq,h2]at hd;rw[h1,<-hd];exact Sub.sh rfl
 simp -dsimp only[simprocAttr,↓aa,zp];refine bV (ai ?_);refine ah (aL (ι:={k:Nat // k<=N}) (fun k=>⟨104,[(1,aI many),(2,.ip none [aI g.name,aw g.blocks,aJ ord,.aA 1 (inn.map aJ) .sh]),(5,.ms 1 0 N N),(22,aI N),(23,aI k.1)],[.gone,.cells ((List.replicate k.1 z++List.replicate (N-k.1) []).map eG)]⟩) (fun k=>N-k.1) ⟨0,Nat.zero_le _⟩ ?_ ?_)
 ·refine zq rfl ?_ ?_;simp -dsimp only[simprocAttr,↓aa,zp,zc]
  all_goals rfl
 rintro⟨k,hk⟩;refine ay (ai ?_);apply gJ rfl<;>intro h
 ·refine cj ?_;have C5:k<N:=by simpa using h
  have fo:=JC z ([]:List Bool) k N C5;have xu:(List.replicate k z++List.replicate (N-k) ([]:List Bool)).length=N:=by simp;omega
  generalize List.replicate k z++List.replicate (N-k) ([]:List Bool)=rows at *;refine aH (ah ?_);refine ay (ai ?_);refine XT ?_;simp -dsimp only[simprocAttr,↓aa,zp,da,xu,Int.toNat_natCast,Nat.mul_one]
  repeat(refine⟨by omega,?_⟩)
  refine ai ?_;rw[show List.replicate many (([ae.v (Value.bool false)].getD 0 (ae.v (Value.bool false))).share)=z.map eB from da];refine dX (cs:=bh (rows.map eG) k [.aA 1 (z.map eB) .ex]) 1 ((rows.set k z).map eG) rfl (by rw[cA _ (by rw[List.length_map];omega)];simp) (rG _) (H2 (by omega)) ?_;rw[fo];simp -dsimp only[simprocAttr,↓aa,zp];refine cM ?_
  repeat(refine⟨by omega,?_⟩)
  refine eZ ?_;refine⟨⟨k+1,C5⟩,by simp;omega,?_⟩;refine zq rfl ?_ ?_;simp -dsimp only[simprocAttr,↓aa,zp,zc]
  ·exact Sub.int (by simp)
  rfl
 refine aK ?_;simp -dsimp only[bI,ne_eq,Nat.reduceEqDiff,reduceCtorEq];have SI:k=N:=by have:=of_decide_eq_false h;omega
 subst SI;rw[Nat.sub_self,List.replicate_zero,List.append_nil];have Yq:List.replicate k z=(Mz k many).N:=by rw[hz];rfl
 rw[Yq];have YQ:(Mz k many).weight many<700000:=by
  have:k*many<=128*4096:=Nat.mul_le_mul (by omega) KU;omega
 refine bV (ai ?_);refine ah (aL (ι:={X:Nx // vT g many ord X.S∧R=(My g many ord X.q X.S).N∧(X.S.again=true->X.S.weight many<X.q)}) (fun X=>⟨104,[(1,aI many),(2,.ip none [aI g.name,aw g.blocks,aJ ord,.aA 1 (inn.map aJ) .sh]),(5,.ms 1 0 k k),(7,.v (.bool X.1.S.again))],[.gone,.cells (X.1.S.N.map eG)]⟩) (fun X=>X.1.S.weight many+if X.1.S.again then 1 else 0) ⟨⟨Mz k many,700000⟩,Pz,hR,fun _=>YQ⟩ ?_ ?_)
 ·refine zq rfl ?_ ?_;simp -dsimp only[simprocAttr,↓aa,zp,zc]
  all_goals first|rfl|exact Sub.refl _
 rintro⟨⟨S,q⟩,FO,LN,Qk⟩;simp only at FO LN Qk;refine bV (ai ?_);apply aN rfl<;>intro h
 ·refine cj ?_;have mf:S.again=true:=h;have Qk:=Qk mf;obtain⟨q,rfl⟩:∃q',q=q'+1:=⟨q-1,by omega⟩
  have Iv:R=(My g many ord q (Hh g many ord ⟨S.N,false⟩)).N:=by
   rw[LN,My,if_pos mf]
  have WU:vT g many ord ⟨S.N,false⟩:=⟨FO.len,FO.sz,FO.low⟩
  obtain⟨Uz,UA,OQ⟩:=Dn ord WU fun k hk=>⟨hk,ho k hk⟩
  obtain⟨S1,R0⟩:∃S1,S1=Hh g many ord ⟨S.N,false⟩:=⟨_,rfl⟩
  rw[<-R0]at Iv Uz UA OQ;have Uy:(⟨S.N,false⟩:Ng).weight many=S.weight many:=rfl;rw[Uy]at UA OQ;refine ah ?_;refine ay (ai ?_);refine ay ?_
  repeat(refine⟨by omega,?_⟩)
  refine ai ?_;refine ah (aL (ι:={Y:Nx // Y.q<=ord.length∧vT g many ord Y.S∧S1=Hh g many (ord.take Y.q) Y.S}) (fun Y=>⟨104,[(1,aI many),(2,.ip none [aI g.name,aw g.blocks,aJ ord,.aA 1 (inn.map aJ) .sh]),(5,.ms 1 0 k k),(7,.v (.bool Y.1.S.again)),(8,aI ((Y.1.q:Int)-1))],[.gone,.cells (Y.1.S.N.map eG)]⟩) (fun Y=>Y.1.q) ⟨⟨⟨S.N,false⟩,ord.length⟩,Nat.le_refl _,WU,by rw[List.take_length];exact R0⟩ ?_ ?_)
  ·refine zq rfl ?_ ?_;simp -dsimp only[simprocAttr,↓aa,zp,zc]
   all_goals rfl
  rintro⟨⟨T,n⟩,vR,G9,CU⟩;simp only at vR G9 CU;refine bV (ai ?_);apply aN rfl<;>intro h
  ·refine cj ?_;obtain⟨n,rfl⟩:∃m,n=m+1:=⟨n-1,by have:=of_decide_eq_true h;omega⟩
   have bf:n<ord.length:=by omega
   obtain⟨o,Ut⟩:∃o,ord[n]?=some o:=⟨ord[n],by simp[bf]⟩
   obtain⟨o0,o1⟩:=VM n o Ut;have eo:ord.take (n+1)=ord.take n++[o]:=by rw[List.take_add_one,Ut];rfl
   have LO:S1=Hh g many (ord.take n) (lH g many o T):=by
    rw[CU,eo];simp[Hh]
   have nS:((n+1:Nat):Int)-1=(n:Nat):=by omega
   obtain⟨b,hb⟩:∃b,g.blocks[o.toNat]?=some b:=⟨g.blocks[o.toNat]'(by omega),List.getElem?_eq_getElem _⟩
   have mg:=List.mem_of_getElem? hb;have uJ:aF g o=b:=by unfold aF;rw[hb];rfl
   obtain⟨t1,t2⟩:=hw.to b mg;obtain⟨i1,i2⟩:=hw.ins b mg;have R3:=hw.arg b mg;obtain⟨B,hB⟩:∃B,B=b.term.to.foldl (kd g T.N) z:=⟨_,rfl⟩
   have RT:B.length=many:=by rw[hB,oR,zJ]
   have U8:qm g many T.N o=ja b.ins (if dI b.term then la B b.term.arg true else B):=by
    unfold qm sB;rw[uJ,Dg (fun e he=>(t2 e he).2.2),<-hz,<-hB]
   have Sa:=zR b B many RT lL (by omega) (by omega) (fun i hi=>⟨(i2 i hi).1,(i2 i hi).2.1,by have:=(i2 i hi).2.2;omega⟩) (fun _=>R3);rw[<-U8]at Sa;obtain⟨nw,IN⟩:∃nw,nw=qm g many T.N o:=⟨_,rfl⟩
   rw[<-IN]at Sa;obtain⟨E2,hold⟩:∃E2,T.N[o.toNat]?=some E2:=⟨T.N[o.toNat]'(by rw[G9.len];omega),List.getElem?_eq_getElem _⟩
   have cc:lH g many o T=if nw=E2 then T else⟨T.N.set o.toNat nw,true⟩:=by
    unfold lH cT;rw[hold,Option.getD_some,<-IN]
   have Uc:=G9.len;have ng:=(xK G9 (List.mem_of_getElem? Ut) o0 (by omega)).1;refine aH (ah ?_);refine aQ ?_;simp -dsimp only[simprocAttr,↓aa,zp,nS,Ut]
   repeat(refine⟨by omega,?_⟩)
   refine ai ?_;refine aQ ?_;simp -dsimp only[simprocAttr,↓aa,zp,sr,da]
   repeat(refine⟨by omega,?_⟩)
   refine ai ?_;refine c7 ?_;simp -dsimp only[simprocAttr,↓aa,zp,hb]
   repeat(refine⟨by omega,?_⟩)
   refine ai ?_;rw[<-hz];refine ah (aL (ι:={x:Nat×List Bool // x.1<=b.term.to.length∧x.2.length=many∧B=(b.term.to.drop x.1).foldl (kd g T.N) x.2}) (fun x=>⟨104,[(1,aI many),(2,.ip none [aI g.name,aw g.blocks,aJ ord,.aA 1 (inn.map aJ) .sh]),(5,.ms 1 0 k k),(7,.v (.bool T.again)),(8,aI (n:Nat)),(9,aI o),(10,.ms 2 0 many many),(55,aG b.term.to),(56,aI b.term.to.length),(57,aI x.1.1)],[.gone,.cells (T.N.map eG),.cells (x.1.2.map eB)]⟩) (fun x=>b.term.to.length-x.1.1) ⟨(0,z),Nat.zero_le _,zJ,hB⟩ ?_ ?_)
   ·refine zq rfl ?_ ?_;simp -dsimp only[simprocAttr,↓aa,zp,zc,nS]
    all_goals rfl
   rintro⟨⟨w,cur⟩,ZF,gg,F9⟩;simp only at ZF gg F9;refine ay (ai ?_);apply gJ rfl<;>intro h
   ·refine cj ?_;have IL:w<b.term.to.length:=by simpa using h
    obtain⟨e,tx⟩:∃e,b.term.to[w]?=some e:=⟨b.term.to[w],by simp[IL]⟩
    obtain⟨e1,e2,e3⟩:=t2 e (List.mem_of_getElem? tx);rw[bK tx,List.foldl_cons]at F9;obtain⟨S2,U1⟩:∃S2,T.N[e.block.toNat]?=some S2:=⟨T.N[e.block.toNat]'(by rw[Uc];omega),List.getElem?_eq_getElem _⟩
    have Yp:S2.length=many:=G9.sz S2 (List.mem_of_getElem? U1);obtain⟨c,hc⟩:∃c,g.blocks[e.block.toNat]?=some c:=⟨g.blocks[e.block.toNat]'(by omega),List.getElem?_eq_getElem _⟩
    have PH:=hw.par _ c hc (by omega);have Zc:kd g T.N cur e=ni [] 0 S2 cur:=by
     unfold kd cT aF;rw[U1,hc,Option.getD_some,Option.getD_some,PH]
    rw[Zc]at F9;have Yr:(T.N.map eG)[e.block.toNat]?=some (.aA 1 (S2.map eB) .sh):=by rw[List.getElem?_map,U1];rfl
    obtain⟨V,hV⟩:∃V,V=ni [] 0 S2 cur:=⟨_,rfl⟩
    have Yt:V.length=many:=by rw[hV,oS,gg]
    rw[<-hV]at F9;refine aH (ah ?_);refine aQ ?_;simp -dsimp only[simprocAttr,↓aa,zp,tx];refine ai ?_;refine aC 12 3 (.ip none [aI e.block,aJ e.args]) rfl (by simp[ak.aD]) trivial rfl ?_ ?_;rotate_left;simp -dsimp only[simprocAttr,↓aa,zp];rotate_left
    ·exact bM.mp rfl rfl
    refine bp 3 [(1,aI many),(2,.ip none [aI g.name,aw g.blocks,aJ ord,.aA 1 (inn.map aJ) .sh]),(5,.ms 1 0 k k),(7,.v (.bool T.again)),(8,aI (n:Nat)),(9,aI o),(10,.ms 2 0 many many),(55,aG b.term.to),(56,aI b.term.to.length),(57,aI w),(12,.ip none [aI e.block,aJ e.args])] (by simp) (by omega) [.gone,.cells (T.N.map eG),.cells (cur.map eB)] ?_ ?_ ?_ ?_ ?_
    ·rfl
    ·simp[ak.upto,eI,iL]
    ·simp[eQ,St.get,bw,a8,Go.Av.look,Sub.refl]
    ·simp[ak.upto,av,ae.upto,ax,Func.ag,Block.ag,Edge.ag,Ins.ag,gU]
    refine aQ ?_;simp -dsimp only[simprocAttr,↓aa,zp,Yr,Nat.mul_one]
    repeat(refine⟨by omega,?_⟩)
    refine ai ?_;refine ah (aL (ι:={y:Nat×List Bool // y.1<=S2.length∧y.2.length=many∧V=ni [] y.1 (S2.drop y.1) y.2}) (fun y=>⟨104,[(1,aI many),(2,.ip none [aI g.name,aw g.blocks,aJ ord,.aA 1 (inn.map aJ) .sh]),(5,.ms 1 0 k k),(7,.v (.bool T.again)),(8,aI (n:Nat)),(9,aI o),(10,.ms 2 0 many many),(55,aG b.term.to),(56,aI b.term.to.length),(57,aI w),(65,.aA 1 (S2.map eB) .sh),(66,aI S2.length),(67,aI y.1.1)],[.gone,.cells (T.N.map eG),.cells (y.1.2.map eB)]⟩) (fun y=>S2.length-y.1.1) ⟨(0,cur),Nat.zero_le _,gg,hV⟩ ?_ ?_)
    ·refine zq rfl ?_ ?_;simp -dsimp only[simprocAttr,↓aa,zp,zc]
     all_goals rfl
    rintro⟨⟨v,c2⟩,hv,KM,AW⟩;simp only at hv KM AW;refine ay (ai ?_);apply gJ rfl<;>intro h
    ·refine cj ?_;have zH:v<S2.length:=by simpa using h
     obtain⟨is,PZ⟩:∃is,S2[v]?=some is:=⟨S2[v],by simp[zH]⟩
     obtain⟨u,hu⟩:∃u,c2[v]?=some u:=⟨c2[v]'(by omega),List.getElem?_eq_getElem _⟩
     have Vv:(S2.map eB)[v]?=some (.v (.bool is)):=by rw[List.getElem?_map,PZ];rfl
     have XI:(c2.map eB)[v]?=some (.v (.bool u)):=by rw[List.getElem?_map,hu];rfl
     have nh:=yp (l:=c2) (j:=v) (by omega) (u ||is);have eF:c2.set v (u ||is)=if(is&&!nP [] (v:Int))=true then c2.set v true else c2:=by
      have h0:nP [] (v:Int)=false:=rfl;rw[h0];cases is with
      | true=>simp
      | false =>
       simp only[Bool.or_false,Bool.false_and,Bool.false_eq_true,if_false];apply List.ext_getElem?;intro i;rw[List.getElem?_set];split
       ·rename_i q;subst q;rw[if_pos (by omega),hu]
       rfl
     rw[bK PZ,ni,<-eF]at AW;refine aH (ah ?_);refine aQ ?_;simp -dsimp only[simprocAttr,↓aa,zp,Vv];refine ai ?_;cases u with
     | true =>
      rw[Bool.true_or]at AW nh;refine jX ?_;simp -dsimp only[simprocAttr,↓aa,zp,XI,nh,KM,Int.toNat_natCast,Nat.mul_one]
      repeat(refine⟨by omega,?_⟩)
      refine ai ?_;refine cM ?_
      repeat(refine⟨by omega,?_⟩)
      refine eZ ?_;refine⟨⟨(v+1,c2.set v true),zH,by simp[KM],AW⟩,by simp;omega,?_⟩;refine zq rfl ?_ ?_;simp -dsimp only[simprocAttr,↓aa,zp,zc]
      ·exact Sub.int (by simp)
      rfl
     | false =>
      rw[Bool.false_or]at AW nh;refine jX ?_;simp -dsimp only[simprocAttr,↓aa,zp,XI,nh,KM,Int.toNat_natCast,Nat.mul_one]
      repeat(refine⟨by omega,?_⟩)
      refine ai ?_;refine cM ?_
      repeat(refine⟨by omega,?_⟩)
      refine eZ ?_;refine⟨⟨(v+1,c2.set v is),zH,by simp[KM],AW⟩,by simp;omega,?_⟩;refine zq rfl ?_ ?_;simp -dsimp only[simprocAttr,↓aa,zp,zc]
      ·exact Sub.int (by simp)
      rfl
    refine aK ?_;simp -dsimp only[bI,ne_eq,Nat.reduceEqDiff,reduceCtorEq];have Mq:S2.length<=v:=by simpa using h
    rw[List.drop_of_length_le Mq,ni]at AW;subst AW;refine cM ?_
    repeat(refine⟨by omega,?_⟩)
    refine eZ ?_;refine⟨⟨(w+1,V),IL,Yt,F9⟩,by simp;omega,?_⟩;refine zq rfl ?_ ?_;simp -dsimp only[simprocAttr,↓aa,zp,zc]
    ·exact Sub.int (by simp)
    rfl
   refine aK ?_;simp -dsimp only[bI,ne_eq,Nat.reduceEqDiff,reduceCtorEq];have OK:b.term.to.length<=w:=by simpa using h
   rw[List.drop_of_length_le OK,List.foldl_nil]at F9;subst F9;refine aC 10 2 (o:=.cells (B.map eB)) (.aA 1 (B.map eB) .nn) rfl (by simp[ak.aD]) trivial rfl (xd rfl RT) ?_;simp -dsimp only[simprocAttr,↓aa,zp];have Xv:(T.N.map eG)[o.toNat]?=some (.aA 1 (E2.map eB) .sh):=by rw[List.getElem?_map,hold];rfl
   have heq:=Ap nw E2;have Ix:=Sa.use (by simp[av,ae.upto,Block.enc,ax,Edge.ag,Ins.ag,eI]) [.gone,.cells (T.N.map eG),.gone];refine aQ ?_;simp -dsimp only[simprocAttr,↓aa,zp,hb]
   repeat(refine⟨by omega,?_⟩)
   refine .inr (.inr ⟨_,Ix,ao (zj ?_)⟩);refine ai ?_;refine bp 2 [(1,aI many),(2,.ip none [aI g.name,aw g.blocks,aJ ord,.aA 1 (inn.map aJ) .sh]),(5,.ms 1 0 k k),(7,.v (.bool T.again)),(8,aI (n:Nat)),(9,aI o),(15,.aA 1 (nw.map eB) .sh)] (by simp) (by omega) [.gone,.cells (T.N.map eG)] ?_ ?_ ?_ ?_ ?_
   ·rfl
   ·simp[ak.upto,iL]
   ·simp[eQ,St.get,bw,a8,Go.Av.look,Sub.refl]
   ·simp[ak.upto,av,ae.upto,ax,Func.ag,Block.ag,Edge.ag,Ins.ag,gU,eI]
   by_cases hq:nw=E2
   ·rw[if_pos hq]at cc;rw[cc]at LO;rw[decide_eq_true hq]at heq;refine aQ ?_;simp -dsimp only[simprocAttr,↓aa,zp,Xv,Nat.mul_one]
    repeat(refine⟨by omega,?_⟩)
    refine .inl ⟨_,heq,by simp only[av,ae.upto,zt,zu,ax,eI],ao ?_⟩;simp -dsimp only[simprocAttr,↓aa,zp];refine ai ?_;apply aN rfl<;>intro h
    ·cases h
    refine kp ?_;refine cM ?_
    repeat(refine⟨by omega,?_⟩)
    refine eZ ?_;refine⟨⟨⟨T,n⟩,by simp only;omega,G9,LO⟩,by simp,?_⟩;refine zq rfl ?_ ?_;simp -dsimp only[simprocAttr,↓aa,zp,zc]
    all_goals rfl
   rw[if_neg hq]at cc;rw[cc]at LO ng;rw[decide_eq_false hq]at heq;refine aQ ?_;simp -dsimp only[simprocAttr,↓aa,zp,Xv,Nat.mul_one]
   repeat(refine⟨by omega,?_⟩)
   refine .inl ⟨_,heq,by simp only[av,ae.upto,zt,zu,ax,eI],ao ?_⟩;simp -dsimp only[simprocAttr,↓aa,zp];refine ai ?_;refine cB rfl ?_;refine jX ?_;simp -dsimp only[simprocAttr,↓aa,zp,Nat.mul_one]
   repeat(refine⟨by omega,?_⟩)
   refine ai ?_;refine dX (cs:=bh (T.N.map eG) o.toNat [.aA 1 (nw.map eB) .sh]) 1 ((T.N.set o.toNat nw).map eG) rfl (by rw[cA _ (by rw[List.length_map];omega)];simp) (rG _) (H2 (by omega)) ?_;simp -dsimp only[simprocAttr,↓aa,zp];refine cM ?_
   repeat(refine⟨by omega,?_⟩)
   refine eZ ?_;refine⟨⟨⟨⟨T.N.set o.toNat nw,true⟩,n⟩,by simp only;omega,ng,LO⟩,by simp,?_⟩;refine zq rfl ?_ ?_;simp -dsimp only[simprocAttr,↓aa,zp,zc]
   all_goals rfl
  refine aK ?_;simp -dsimp only[bI,ne_eq,Nat.reduceEqDiff,reduceCtorEq];have VH:n=0:=by have:=of_decide_eq_false h;omega
  subst VH;have Ys:S1=T:=CU;subst Ys;have IK:S1.again=true->S1.weight many<q:=fun hh=>by
   rcases OQ hh with r|r
   ·cases r
   omega
  refine⟨⟨⟨S1,q⟩,Uz,Iv,IK⟩,?_,?_⟩
  ·simp only[mf,if_true];cases uU:S1.again
   ·simp;omega
   rcases OQ uU with r|r
   ·cases r
   simp;omega
  refine zq rfl ?_ ?_;simp -dsimp only[simprocAttr,↓aa,zp,zc]
  all_goals rfl
 refine aK ?_;simp -dsimp only[bI,ne_eq,Nat.reduceEqDiff,reduceCtorEq];have mf:S.again=false:=h;rw[Jg mf]at LN;subst LN;have Z':=FO.len;refine aC 5 1 (o:=.cells (S.N.map eG)) (.aA 1 (S.N.map eG) .sh) rfl (by simp[ak.aD]) trivial rfl (bM.ms rfl (Lt _) (by rw[List.length_map];omega) (by rw[List.drop_zero,List.take_of_length_le (by rw[List.length_map];omega),Pm])) ?_;simp -dsimp only[simprocAttr,↓aa,zp];refine ay (ai ?_);refine aq ?_;simp -dsimp only[simprocAttr,↓aa,zp,zr,Tryz.results72];exact iL _ _
def DE(f:Func):ae:=if aZ f=0 then .cw [.aA 1 ((fU f).map aJ) .sh,aI 0]else .cw [.aA 1 [] .sh,aI (aZ f)]
def N3(c:Nat)(ls:List (List Int)):Prop:=∀l∈ls,l.length<=c
theorem N3.push{c:Nat}{ls:List (List Int)}(h:N3 c ls){j:Nat}{l:List Int}(hj:ls[j]?=some l)(k:Int):N3 (c+1) (ls.set j (l++[k])):=fun m hm=>by
 rcases List.mem_or_eq_of_mem_set hm with q|q
 ·have:=h m q;omega
 subst q;have:=h l (List.mem_of_getElem? hj);simp;omega
theorem N3.mono{c d:Nat}{ls:List (List Int)}(h:N3 c ls)(hd:c<=d):N3 d ls:=fun l hl=>Nat.le_trans (h l hl) hd
theorem DF(f:Func)(bo:f.fit):bA Tryz.prog 14 [f.enc] (DE f):=by
 have rn:=iJ f bo;unfold DE;by_cases hc:aZ f=0
 ·rw[if_pos hc];rw[hc]at rn;have hw:=cS bo hc;have hn:f.blocks.length<=128:=hw.few;obtain⟨N,hN⟩:∃N,N=f.blocks.length:=⟨_,rfl⟩
  obtain⟨R,hR⟩:∃R,R=fU f:=⟨_,rfl⟩
  have WT:R.length=N:=by rw[hR,hN,fU,r7];simp
  rw[<-hR];unfold fU at hR;refine zf true 0 Tryz.func14 Tryz.ntmps14 ?_;dsimp only[Tmp,TypeId,slotsOf];refine ay (ai ?_);refine aC 1 0 (.ip none [aI f.name,aw f.blocks]) rfl (by simp[ak.aD]) trivial rfl ?_ ?_;rotate_left;simp -dsimp only[simprocAttr,↓aa,zp]
  ·refine bV ?_;refine zi rn ?_;refine ai ?_;refine ay (ai ?_);apply aN rfl<;>intro h
   ·cases h
   refine cj ?_;refine aQ ?_;simp -dsimp only[simprocAttr,↓aa,zp,xL,<-hN];refine⟨by omega,by omega,?_⟩;refine ai ?_;have Zo:PO (List.replicate N []) (([ak.gone,ak.cells []]++List.replicate N (ak.spare 0)).set 1 (.cells ((List.range N).map fun j=>.aA 1 [] (.tok ([ak.gone,ak.cells []].length+j))))):=by
    refine⟨by simp,?_,fun j l hj=>?_,?_⟩
    ·rw[List.getElem?_set_self (by simp),Bi];rfl
    ·have iB:=I hj;rw[List.length_replicate]at iB;rw[List.getElem?_set_ne (by omega),List.getElem?_append_right (by simp)];simp only[List.length_cons,List.length_nil,Nat.zero_add,Nat.add_sub_cancel_left];simp[iB]at hj ⊢;rw[hj];rfl
    rw[<-Bi];have:=bt (k:=1) (n:=N+2) (x:=.cells (k9 2 (List.replicate N []))) (O:=[ak.gone,ak.cells []]++List.replicate N (ak.spare 0)) (fun o ho=>by
     rcases List.mem_append.1 ho with q|q
     ·simp at q;rcases q with rfl|rfl<;>trivial
     rw[(List.mem_replicate.1 q).2];trivial) (xM (by simp;omega))
    simpa using this
   show bX Tryz.prog _ _ _ ⟨_,_,List.set [ak.gone,ak.cells []] 1 (.cells (List.replicate N (ae.aA 1 [] .ex)))⟩;refine Ch 1 N (by simp) ?_;generalize ([ak.gone,ak.cells []]++List.replicate N (ak.spare 0)).set 1 (.cells ((List.range N).map fun j=>.aA 1 [] (.tok ([ak.gone,ak.cells []].length+j))))=O0 at *;rw[<-hN]at hR;refine c7 ?_;simp -dsimp only[simprocAttr,↓aa,zp,<-hN];refine ai ?_;refine ah (aL (ι:={p:Nat×List (List Int)×List ak // p.1<=N∧PO p.2.1 p.2.2∧p.2.1.length=N∧N3 (p.1*257) p.2.1∧R=oe p.1 p.2.1 (f.blocks.drop p.1)}) (fun p=>⟨50,[(1,.ip none [aI f.name,aw f.blocks]),(5,.ms 1 0 N N),(20,aw f.blocks),(21,aI N),(22,aI p.1.1)],p.1.2.2⟩) (fun p=>N-p.1.1) ⟨(0,_,O0),by simp,Zo,by simp,by intro l hl;simp[(List.mem_replicate.1 hl).2],hR⟩ ?_ ?_)
   ·refine zq rfl ?_ ?_;simp -dsimp only[simprocAttr,↓aa,zp,zc]
    all_goals rfl
   rintro⟨⟨k,ls,O⟩,hk,hp,KS,vP,di⟩;simp only at hk hp KS vP di;have U0:=hp.len;have bB:=hp.up;refine ay (ai ?_);apply gJ rfl<;>intro h
   ·refine cj ?_;have bf:k<N:=by simpa using h
    obtain⟨b,hb⟩:∃b,f.blocks[k]?=some b:=⟨f.blocks[k]'(by omega),List.getElem?_eq_getElem _⟩
    have mg:=List.mem_of_getElem? hb;have mH:=mD (hw.blk b mg).fin;have rq:b.term.to.length<=257:=by
     rcases(show(b.term.kind=0∨b.term.kind=4)∨b.term.kind=1∨b.term.kind=2∨b.term.kind=3 by have:=mH.kind;omega)with q|q|q|q
     ·rw[mH.to q];simp
     ·rw[mH.jump q];omega
     ·rw[mH.cond q];omega
     rw[mH.switch q];have:=mH.cases;omega
    rw[bK hb]at di;simp only[oe]at di;obtain⟨L1,WQ⟩:∃L1,L1=nj k ls b.term.to:=⟨_,rfl⟩
    rw[<-WQ]at di;refine aH (ah ?_);refine aQ ?_;simp -dsimp only[simprocAttr,↓aa,zp,hb];refine ai ?_;refine aV 7 ([aJ b.params,a7 b.ins,aI b.term.kind,aI b.term.arg,aI b.term.n,aJ b.term.cases,aG b.term.to]) [(1,.ip none [aI f.name,aw f.blocks]),(5,.ms 1 0 N N),(20,aw f.blocks),(21,aI N),(22,aI k),(6,aI k),(7,.ip none [aJ b.params,a7 b.ins,aI b.term.kind,aI b.term.arg,aI b.term.n,aJ b.term.cases,aG b.term.to])] (by simp[bw,a8,Go.Av.look]) (by rfl) (by omega) (by simp[bw,a8,Go.Av.look]) ?_ ?_ ?_
    ·exact bB
    ·simp[ae.upto,av,ax,Edge.ag,Ins.ag,Block.ag,U0]
    refine ay (ai ?_);refine ah (aL (ι:={p:Nat×List (List Int)×List ak // p.1<=b.term.to.length∧PO p.2.1 p.2.2∧p.2.1.length=N∧N3 (k*257+p.1) p.2.1∧L1=nj k p.2.1 (b.term.to.drop p.1)}) (fun p=>⟨50,[(1,.ip none [aI f.name,aw f.blocks]),(5,.ms 1 0 N N),(20,aw f.blocks),(21,aI N),(22,aI k),(6,aI k),(29,aG b.term.to),(30,aI b.term.to.length),(31,aI p.1.1)],p.1.2.2⟩) (fun p=>b.term.to.length-p.1.1) ⟨(0,ls,O),by simp,hp,KS,vP,WQ⟩ ?_ ?_)
    ·refine zq rfl ?_ ?_;simp -dsimp only[simprocAttr,↓aa,zp,zc]
     all_goals rfl
    rintro⟨⟨z,ls,O⟩,hz,hp,KS,vP,lM⟩;simp only at hz hp KS vP lM;have U0:=hp.len;have bB:=hp.up;refine ay (ai ?_);apply gJ rfl<;>intro h
    ·refine cj ?_;have vQ:z<b.term.to.length:=by simpa using h
     obtain⟨e,he⟩:∃e,b.term.to[z]?=some e:=⟨b.term.to[z],by simp[vQ]⟩
     have tx:=(mH.gG e (List.mem_of_getElem? he)).1;rw[bK he]at lM;simp only[nj,List.foldl_cons]at lM;obtain⟨j,hj⟩:∃j:Nat,e.block=(j:Int):=⟨e.block.toNat,by omega⟩
     have Vx:j<N:=by omega
     obtain⟨l,hl⟩:∃l,ls[j]?=some l:=⟨ls[j]'(by omega),List.getElem?_eq_getElem _⟩
     have IV:nk k ls e=ls.set j (l++[(k:Int)]):=by simp[nk,hj,hl]
     rw[IV]at lM;have eJ:=Ju (b:=2) hl;have nh:=hp.sp j l hl;have Mk:=hp.push hl k;have jn:=Jv (b:=2) (ls:=ls) (j:=j) (l++[(k:Int)]);rw[List.map_append]at jn;have hlb:=vP l (List.mem_of_getElem? hl);have gm:=hp.arr;have R4:=br (k:=1) (j:=2+j) (y:=.spare (l.length+1)) gm (by omega);refine aH (ah ?_);refine aQ ?_;simp -dsimp only[simprocAttr,↓aa,zp,he];refine ai ?_;refine aV 9 ([aI e.block,aJ e.args]) [(1,.ip none [aI f.name,aw f.blocks]),(5,.ms 1 0 N N),(20,aw f.blocks),(21,aI N),(22,aI k),(6,aI k),(29,aG b.term.to),(30,aI b.term.to.length),(31,aI z),(9,.ip none [aI e.block,aJ e.args])] (by simp[bw,a8,Go.Av.look]) (by rfl) (by omega) (by simp[bw,a8,Go.Av.look]) ?_ ?_ ?_
     ·exact bB
     ·simp[ae.upto,av,ax,Edge.ag,Ins.ag,Block.ag,U0]
     refine jX ?_;simp -dsimp only[simprocAttr,↓aa,zp,hj,gm,eJ,nh,R4,jn,Int.toNat_natCast,Nat.mul_one,List.length_map,List.length_set];refine⟨by omega,by omega,by omega,by omega,by rw[vj];omega,?_⟩;refine⟨b7 [1,2+j] O.length [.pure,.pure,.pure,.pure,.pure,.pure,.pure,.rd 0,.pure,.pure,.wr 2 [1],.pure,.wr 2 [0]] (by simp;omega) (by simp;omega) rfl rfl (by kernel_rfl),a6 ?_⟩;simp -dsimp only[bI,ne_eq,Nat.reduceEqDiff,reduceCtorEq];have Tc:(k9 2 ls).set j (.aA 1 (l.map aI++[.v (.int .i64 k)]) (.tok (2+j)))=k9 2 (ls.set j (l++[(k:Int)])):=jn;rw[cA _ (by rw[vj];omega),Tc];refine cM ?_
     repeat(refine⟨by omega,?_⟩)
     refine eZ ?_;refine⟨⟨(z+1,_,_),by simp only;omega,Mk,by simp[KS],vP.push hl k,lM⟩,by simp;omega,?_⟩;refine zq rfl ?_ ?_;simp -dsimp only[simprocAttr,↓aa,zp,zc]
     ·exact Sub.int (by simp)
     rfl
    refine aK ?_;simp -dsimp only[bI,ne_eq,Nat.reduceEqDiff,reduceCtorEq];have Gb:z=b.term.to.length:=by simp at h;omega
    subst Gb;rw[List.drop_length]at lM;simp only[nj,List.foldl_nil]at lM;subst lM;refine cM ?_
    repeat(refine⟨by omega,?_⟩)
    refine eZ ?_;refine⟨⟨(k+1,_,O),by simp only;omega,hp,KS,vP.mono (by omega),di⟩,by simp;omega,?_⟩;refine zq rfl ?_ ?_;simp -dsimp only[simprocAttr,↓aa,zp,zc]
    ·exact Sub.int (by simp)
    rfl
   refine aK ?_;simp -dsimp only[bI,ne_eq,Nat.reduceEqDiff,reduceCtorEq];have gi:k=N:=by simp at h;omega
   subst gi;rw[hN,List.drop_length]at di;simp only[oe]at di;subst di;have Qf:=DA 2 R;have gg:(k9 2 R).length=k:=by rw[vj,KS]
   refine aC 5 1 (o:=.cells (k9 2 R)) (.aA 1 (R.map aJ) .sh) hp.arr (by simp[ak.aD]) trivial rfl (bM.ms (cs:=k9 2 R) hp.arr (by intro x hx;obtain⟨l,_,rfl⟩:=List.mem_map.1 hx;rfl) (by rw[List.length_map,KS]) (by rw[List.drop_zero,Nat.mul_one,<-gg,List.take_length,Qf])) ?_;simp -dsimp only[simprocAttr,↓aa,zp];refine ay (ai ?_);refine aq ?_;simp -dsimp only[simprocAttr,↓aa,zp,zr,Tryz.results14];simp only[av,ae.upto,and_true];rw[aT];intro x hx;obtain⟨l,_,rfl⟩:=List.mem_map.1 hx;exact⟨ax _ _,trivial⟩
  exact bM.mp rfl rfl
 rw[if_neg hc];obtain⟨e,he⟩:∃e,e=aZ f:=⟨_,rfl⟩
 rw[<-he]at hc rn ⊢;have j5:decide (e=0)=false:=decide_eq_false hc;refine zf true 0 Tryz.func14 Tryz.ntmps14 ?_;dsimp only[Tmp,TypeId,slotsOf];refine ay (ai ?_);refine aC 1 0 (.ip none [aI f.name,aw f.blocks]) rfl (by simp[ak.aD]) trivial rfl ?_ ?_;rotate_left;simp -dsimp only[simprocAttr,↓aa,zp]
 ·refine bV ?_;refine zi rn ?_;refine ai ?_;refine aQ ?_;simp -dsimp only[simprocAttr,↓aa,zp,j5];refine ai ?_;refine cB rfl ?_;refine ay (ai ?_);refine aq ?_;simp -dsimp only[simprocAttr,↓aa,zp,zr,Tryz.results14];simp[av,ae.upto]
 exact bM.mp rfl rfl
def Jx(oid:Nat)(l:List Int):ae:=if l=[]then .aA 1 [] .ex else .os oid l.length 1
theorem dL(x:Value):an [ae.v x]=[ae.v x]:=rfl
theorem eN(id len sz:Nat):(ae.os id len sz).cells=[ae.os id len sz]:=rfl
theorem Gg{O:List ak}(bB:∀o∈O,o.upto O.length)(h1:O[1]?=some (.cells [.aA 1 [] .ex]))(k:Int) :
  bd Tryz.prog 76 O [aI k,.mp 1 0] (fun r O'=>r=.cw []∧O'=(O++[ak.cells [aI k]]).set 1 (.cells [.os O.length 1 1])):=by
 have hl:=I h1;have FM:∀X,(O++X)[1]?=some (.cells [.aA 1 [] .ex]):=fun X=>cm h1;have gi:O.length<=O.length+1:=by omega
 refine dj hT true (O.length+1) Tryz.func76 rfl (by kernel_rfl) (by simp[Tryz.ntmps76]) (by assumption) ?_;show bX Tryz.prog _ _ _ ⟨7,_,_⟩;dsimp only[Tmp,TypeId,slotsOf];have eo:((O++[ak.cells [ae.v (.int .i64 k)]]).set 1 (.cells [.os O.length 1 1])).take (O.length+1)=(O++[ak.cells [ae.v (.int .i64 k)]]).set 1 (.cells [.os O.length 1 1]):=List.take_of_length_le (by simp);refine N1 ?_;simp -dsimp only[simprocAttr,↓aa,zp,h1,FM,dL,eN];refine⟨trivial,?_⟩;refine a6 ?_;simp -dsimp only[simprocAttr,↓aa,zp,zr,Tryz.results76,eo,List.length_set,List.length_append];exact⟨bt (jx (fun o ho=>ak.b8 (by omega) (bB o ho)) ⟨trivial,trivial⟩) ⟨show _<_ by omega,trivial⟩,trivial⟩
theorem I6{O:List ak}(bB:∀o∈O,o.upto O.length){oid:Nat}{l:List Int}(h1:O[1]?=some (.cells [.os oid l.length 1]))(h2:O[oid]?=some (.cells (l.map aI)))(ho:oid≠1)(IJ:l.length<=1000)(k:Int) :
  bd Tryz.prog 76 O [aI k,.mp 1 0] (fun r O'=>r=.cw []∧O'=(O.set oid .gone++[ak.cells ((l++[k]).map aI)]).set 1 (.cells [.os O.length (l.length+1) 1])):=by
 have hl:=I h1;have FM:∀X,(O.set oid .gone++X)[1]?=some (.cells [.os oid l.length 1]):=fun X=>cm (br h1 ho);have gi:O.length<=O.length+1:=by omega
 refine dj hT true (O.length+1) Tryz.func76 rfl (by kernel_rfl) (by simp[Tryz.ntmps76]) (by assumption) ?_;show bX Tryz.prog _ _ _ ⟨7,_,_⟩;dsimp only[Tmp,TypeId,slotsOf];refine N1 ?_;simp -dsimp only[simprocAttr,↓aa,zp,h1,FM,h2,dL,eN];refine⟨by simp,by omega,by omega,?_⟩;have yA:(l.map aI).take (l.length*1)=l.map aI:=List.take_of_length_le (by simp);have eo:((O.set oid .gone++[ak.cells (l.map aI++[ae.v (.int .i64 k)])]).set 1 (.cells [.os O.length (l.length+1) 1])).take (O.length+1)=(O.set oid .gone++[ak.cells (l.map aI++[ae.v (.int .i64 k)])]).set 1 (.cells [.os O.length (l.length+1) 1]):=List.take_of_length_le (by simp);refine⟨trivial,?_⟩;refine a6 ?_;simp -dsimp only[simprocAttr,↓aa,zp,zr,Tryz.results76,yA,eo,List.length_set,List.length_append];refine⟨bt (jx (bt (fun o ho=>ak.b8 (by omega) (bB o ho)) trivial) ?_) ⟨show _<_ by omega,trivial⟩,trivial,by simp⟩;show av _ _;have:=ax (O.length+1) (l++[k]);simpa using this
structure Sr where
 seen:List Bool
 st:List (Int×Int)
 out:List Int
def ir(f:Func)(b:Int):List Edge:=(aF f b).term.to
def cW(f:Func)(b e:Int):Int:=((ir f b)[e.toNat]?.getD default).block
def dW(f:Func)(S:Sr):Sr :=
 match S.st with
 | []=>S
 | (b,e)::r =>
  if e=(ir f b).length then⟨S.seen,r,S.out++[b]⟩
  else if S.seen[(cW f b e).toNat]?.getD false=true then⟨S.seen,(b,e+1)::r,S.out⟩
  else⟨S.seen.set (cW f b e).toNat true,(cW f b e,0)::(b,e+1)::r,S.out⟩
def gI(f:Func):Nat->Sr->Sr
 | 0,S=>S
 | n+1,S=>if S.st.isEmpty then S else gI f n (dW f S)
def cL(f:Func):Sr:=⟨(List.replicate f.blocks.length false).set 0 true,[(0,0)],[]⟩
def gE(f:Func):List Int:=(gI f 100000 (cL f)).out
structure vU(f:Func)(S:Sr):Prop where
 len:S.seen.length=f.blocks.length
 blk:∀p∈S.st,0<=p.1∧p.1<f.blocks.length∧0<=p.2∧p.2<=(ir f p.1).length
 few:S.out.length+S.st.length<=S.seen.countP id
 outs:∀b∈S.out,0<=b∧b<f.blocks.length
def Rq:List (Int×Int)->Nat
 | []=>0
 | p::r=>(258-p.2.toNat)+Rq r
def K0(S:Sr):Nat:=300*(S.seen.length-S.seen.countP id)+Rq S.st
structure tK(f:Func):Prop where
 ne:f.blocks≠[]
 few:f.blocks.length<=128
 to:∀b∈f.blocks,b.term.to.length<=257
 gG:∀b∈f.blocks,∀e∈b.term.to,1<=e.block∧e.block<f.blocks.length
theorem N4.gr{f:Func}(h:N4 f):tK f :=
 ⟨h.ne,h.few,fun b hb=>QO (mD (h.blk b hb).fin),fun b hb e he=>by
  have:=((mD (h.blk b hb).fin).gG e he).1;omega⟩
theorem tK.next{f:Func}(h:tK f){b e:Int}(hb:0<=b∧b<f.blocks.length)(h0:0<=e)(h1:e<(ir f b).length):∃x,(ir f b)[e.toNat]?=some x∧x.block=cW f b e∧1<=cW f b e∧cW f b e<f.blocks.length:=by
 have bf:e.toNat<(ir f b).length:=by omega
 have hx:(ir f b)[e.toNat]?=some (ir f b)[e.toNat]:=List.getElem?_eq_getElem bf;refine⟨_,hx,by rw[cW,hx];rfl,?_⟩;have:=h.gG _ (iu hb.1 hb.2) (ir f b)[e.toNat] (List.getElem_mem bf);rw[cW,hx];exact this
theorem nc{l:List Bool}{k:Nat}(hk:k<l.length)(h:l[k]?.getD false=false):(l.set k true).countP id=l.countP id+1:=by
 induction l generalizing k with
 | nil=>simp at hk
 | cons a r ih =>
  cases k with
  | zero =>
   simp only[List.getElem?_cons_zero,Option.getD_some]at h;subst h;simp
  | succ k =>
   simp only[List.getElem?_cons_succ]at h;have:=ih (by simpa using hk) h;simp only[List.set_cons_succ,List.countP_cons,this];omega
theorem oY{f:Func}(hg:tK f){S:Sr}(h:vU f S)(cq:S.st≠[]):vU f (dW f S)∧K0 (dW f S)<K0 S:=by
 obtain⟨seen,st,out⟩:=S;cases st with
 | nil=>exact absurd rfl cq
 | cons p r =>
  obtain⟨b,e⟩:=p;obtain⟨h1,h2,h3,h4⟩:=h;simp only at h1 h2 h3 h4;have hp:=h2 (b,e) (by simp);simp only at hp;have rq:(ir f b).length<=257:=hg.to _ (iu hp.1 hp.2.1);have hc:seen.countP id<=seen.length:=List.countP_le_length;simp only[List.length_cons]at h3;simp only[dW];by_cases he:e=(ir f b).length
  ·rw[if_pos he];refine⟨⟨h1,fun p hp=>h2 p (by simp[hp]),by simp only[List.length_append,List.length_cons,List.length_nil];omega,fun x hx=>?_⟩,?_⟩
   ·rcases List.mem_append.1 hx with q|q
    ·exact h4 x q
    simp only[List.mem_singleton]at q;subst q;exact⟨hp.1,hp.2.1⟩
   simp only[K0,Rq];omega
  rw[if_neg he];obtain⟨x,hx,F',nS,vR⟩:=hg.next ⟨hp.1,hp.2.1⟩ hp.2.2.1 (by omega)
  by_cases hs:seen[(cW f b e).toNat]?.getD false=true
  ·rw[if_pos hs];refine⟨⟨h1,fun p Tb=>?_,by simpa using h3,h4⟩,?_⟩
   ·rcases List.mem_cons.1 Tb with q|q
    ·subst q;exact⟨hp.1,hp.2.1,by simp only;omega,by simp only;omega⟩
    exact h2 p (by simp[q])
   simp only[K0,Rq];omega
  rw[if_neg hs];have Rf:seen[(cW f b e).toNat]?.getD false=false:=by simpa using hs
  have hk:(cW f b e).toNat<seen.length:=by omega
  have fA:=nc hk Rf;have gg:(seen.set (cW f b e).toNat true).countP id<=(seen.set (cW f b e).toNat true).length:=List.countP_le_length;rw[List.length_set]at gg;refine⟨⟨by simpa using h1,fun p Tb=>?_,by simp only[List.length_cons,fA];omega,h4⟩,?_⟩
  ·rcases List.mem_cons.1 Tb with q|q
   ·subst q;exact⟨by simp only;omega,vR,by simp,by simp⟩
   rcases List.mem_cons.1 q with q|q
   ·subst q;exact⟨hp.1,hp.2.1,by simp only;omega,by simp only;omega⟩
   exact h2 p (by simp[q])
  simp only[K0,Rq,List.length_set,fA];omega
theorem rb{f:Func}(hg:tK f):∀(n:Nat) (S:Sr),vU f S->K0 S<n->vU f (gI f n S)∧(gI f n S).st=[]
 | 0,S,_,h=>by omega
 | n+1,S,h,hw=>by
  simp only[gI];cases fo:S.st with
  | nil=>simpa[fo]using h
  | cons p r =>
   simp only[List.isEmpty_cons,Bool.false_eq_true,if_false];have:=oY hg h (by rw[fo];simp);exact rb hg n _ this.1 (by omega)
theorem mZ{f:Func}(hg:tK f):vU f (cL f)∧K0 (cL f)<100000:=by
 have hl:0<f.blocks.length:=by
  cases hb:f.blocks with
  | nil=>exact absurd hb hg.ne
  | cons=>simp
 have uK:=hg.few;have hc:((List.replicate f.blocks.length false).set 0 true).countP id=1:=by
  rw[nc (by simpa using hl) (by simp[hl])];simp[List.countP_replicate]
 refine⟨⟨by simp[cL],fun p hp=>?_,by simp only[cL,hc];simp,by simp[cL]⟩,?_⟩
 ·simp only[cL,List.mem_singleton]at hp;subst hp;exact⟨by simp,by simp;omega,by simp,by simp⟩
 simp only[K0,cL,hc,List.length_set,List.length_replicate,Rq];simp;omega
def lI:List (Int×Int)->List ae
 | []=>[]
 | p::r=>lI r++[aI p.1,aI p.2]
theorem gY:∀l:List (Int×Int),(lI l).length=l.length*2
 | []=>rfl
 | p::r=>by
  simp only[lI,List.length_append,gY r,List.length_cons,List.length_nil];omega
theorem sa(n:Nat):∀l:List (Int×Int),av n (lI l)
 | []=>trivial
 | p::r=>by
  rw[aT];intro x hx;rcases List.mem_append.1 hx with q|q
  ·exact aT.1 (sa n r) x q
  simp only[List.mem_cons,List.not_mem_nil,or_false]at q;rcases q with rfl|rfl<;>trivial
structure So where
 S:Sr
 sid:Nat
 oid:Nat
 O:List ak
def qt(O:List ak)(id:Nat):List ae :=
 match O[id]? with
 | some (.cells cs)=>cs
 | _=>[]
def oT(O:List ak)(oid:Nat)(out:List Int)(b:Int):List ak :=
 if out=[]then(O++[ak.cells [aI b]]).set 1 (.cells [.os O.length 1 1])
 else(O.set oid .gone++[ak.cells ((out++[b]).map aI)]).set 1 (.cells [.os O.length (out.length+1) 1])
def j'(f:Func)(X:So):So :=
 match X.S.st with
 | []=>X
 | (b,e)::r =>
  if e=(ir f b).length then⟨dW f X.S,X.sid,X.O.length,oT X.O X.oid X.S.out b⟩
  else
   let cs:=(qt X.O X.sid).set (r.length*2+1) (aI (e+1));let O1:=X.O.set X.sid (.cells cs)
   if X.S.seen[(cW f b e).toNat]?.getD false=true then⟨dW f X.S,X.sid,X.oid,O1⟩
   else
    let O2:=O1.set 2 (.cells ((X.S.seen.set (cW f b e).toNat true).map eB))
    ⟨dW f X.S,O2.length,X.oid,O2.set X.sid .gone++[ak.cells (cs.take ((r.length+1)*2)++[aI (cW f b e),aI 0])]⟩
def kU(f:Func):Nat->So->So
 | 0,X=>X
 | n+1,X=>if X.S.st.isEmpty then X else kU f n (j' f X)
theorem BI(f:Func)(X:So):(j' f X).S=dW f X.S:=by
 unfold j';cases fo:X.S.st with
 | nil=>simp[dW,fo]
 | cons p r =>
  simp only;split
  ·rfl
  split<;>rfl
theorem zb(f:Func):∀(n:Nat) (X:So),(kU f n X).S=gI f n X.S
 | 0,X=>rfl
 | n+1,X=>by
  simp only[kU,gI];split
  ·rfl
  rw[zb f n,BI]
structure SO(X:So):Prop where
 up:∀o∈X.O,o.upto X.O.length
 out:X.O[1]?=some (.cells [Jx X.oid X.S.out])
 outs:X.S.out≠[]->X.O[X.oid]?=some (.cells (X.S.out.map aI))∧X.oid≠X.sid∧2<X.oid
 seen:X.O[2]?=some (.cells (X.S.seen.map eB))
 ZV:∃o9,X.O[X.sid]?=some (.cells (lI X.S.st++o9))
 ZU:2<X.sid
theorem SO.step{f:Func}{X:So}(h:SO X):SO (j' f X):=by
 obtain⟨⟨seen,st,out⟩,sid,oid,O⟩:=X;obtain⟨h1,h2,h3,h4,⟨o9,h5⟩,h6⟩:=h;simp only at h1 h2 h3 h4 h5 h6;have l1:=I h2;have l2:=I h4;have l5:=I h5;cases st with
 | nil=>exact⟨h1,h2,h3,h4,⟨o9,h5⟩,h6⟩
 | cons p r =>
  obtain⟨b,e⟩:=p;simp only[j',dW];by_cases he:e=(ir f b).length
  ·rw[if_pos he,if_pos he];by_cases ho:out=[]
   ·subst ho;simp only[oT,if_true,List.nil_append];refine⟨?_,?_,fun _=>⟨?_,by simp only;omega,by simp only;omega⟩,?_,⟨[aI b,aI e]++o9,?_⟩,h6⟩
    ·have:=bt (n:=O.length+1) (k:=1) (x:=.cells [.os O.length 1 1]) (jx (fun o ho=>ak.b8 (by omega) (h1 o ho)) (x:=.cells [aI b]) ⟨trivial,trivial⟩) ⟨show _<_ by omega,trivial⟩;simpa using this
    ·simp only;rw[List.getElem?_set_self (by simp;omega)];rfl
    ·simp only;rw[List.getElem?_set_ne (by omega),List.getElem?_append_right (Nat.le_refl _)];simp
    ·simp only;rw[List.getElem?_set_ne (by omega),List.getElem?_append_left l2];exact h4
    simp only;rw[List.getElem?_set_ne (by omega),List.getElem?_append_left l5,h5];simp[lI]
   obtain⟨k1,k2,k3⟩:=h3 ho;have lo:=I k1;simp only[oT,if_neg ho];refine⟨?_,?_,fun _=>⟨?_,by simp only;omega,by simp only;omega⟩,?_,⟨[aI b,aI e]++o9,?_⟩,h6⟩
   ·have:=bt (n:=O.length+1) (k:=1) (x:=.cells [.os O.length (out.length+1) 1]) (jx (bt (k:=oid) (x:=.gone) (fun o ho=>ak.b8 (by omega) (h1 o ho)) trivial) (x:=.cells ((out++[b]).map aI)) (ax _ _)) ⟨show _<_ by omega,trivial⟩;simpa using this
   ·simp only;rw[List.getElem?_set_self (by simp;omega)];simp[Jx]
   ·simp only;rw[List.getElem?_set_ne (by omega),List.getElem?_append_right (by simp)];simp
   ·simp only;rw[List.getElem?_set_ne (by omega),List.getElem?_append_left (by simpa using l2),List.getElem?_set_ne (by omega)];exact h4
   simp only;rw[List.getElem?_set_ne (by omega),List.getElem?_append_left (by simpa using l5),List.getElem?_set_ne (by omega),h5];simp[lI]
  rw[if_neg he,if_neg he];have fA:(qt O sid).set (r.length*2+1) (aI (e+1))=lI ((b,e+1)::r)++o9:=by
   simp only[qt,h5,lI];rw[List.append_assoc,List.set_append_right _ _ (by rw[gY];omega),gY,show r.length*2+1-r.length*2=1 by omega];simp
  rw[fA];have Mb:av O.length o9:=by
   rw[aT];intro x hx;have:=h1 _ (List.mem_of_getElem? h5);exact aT.1 this x (List.mem_append.2 (.inr hx))
  have tv:av O.length (lI ((b,e+1)::r)++o9):=by
   rw[aT];intro x hx;rcases List.mem_append.1 hx with q|q
   ·exact aT.1 (sa _ _) x q
   exact aT.1 Mb x q
  by_cases hs:seen[(cW f b e).toNat]?.getD false=true
  ·rw[if_pos hs,if_pos hs];refine⟨?_,?_,fun ho=>?_,?_,⟨o9,?_⟩,h6⟩
   ·have:=bt (n:=O.length) (k:=sid) (x:=.cells (lI ((b,e+1)::r)++o9)) h1 tv;simpa using this
   ·simp only;rw[List.getElem?_set_ne (by omega)];exact h2
   ·obtain⟨k1,k2,k3⟩:=h3 ho;refine⟨?_,k2,k3⟩;simp only;rw[List.getElem?_set_ne (fun q=>k2 q.symm)];exact k1
   ·simp only;rw[List.getElem?_set_ne (by omega)];exact h4
   simp only;rw[List.getElem?_set_self l5]
  rw[if_neg hs,if_neg hs]
  skip
  have eo:(lI ((b,e+1)::r)++o9).take ((r.length+1)*2)=lI ((b,e+1)::r):=by
   rw[List.take_append_of_le_length (by rw[gY];simp),List.take_of_length_le (by rw[gY];simp)]
  rw[eo];refine⟨?_,?_,fun ho=>?_,?_,⟨[],?_⟩,?_⟩
  ·have a1:=bt (n:=O.length) (k:=sid) (x:=.cells (lI ((b,e+1)::r)++o9)) h1 tv;have a2:=bt (k:=2) (x:=.cells ((seen.set (cW f b e).toNat true).map eB)) a1 (eI _ _);have a3:=bt (k:=sid) (x:=.gone) a2 trivial;have a4:=jx (n:=O.length+1) (x:=.cells (lI ((b,e+1)::r)++[aI (cW f b e),aI 0])) (fun o ho=>ak.b8 (by omega) (a3 o ho)) (by
    show av _ _;have:=sa (O.length+1) ((cW f b e,0)::(b,e+1)::r);exact this)
   simpa using a4
  ·simp only;rw[List.getElem?_append_left (by simp;omega),List.getElem?_set_ne (by omega),List.getElem?_set_ne (by omega),List.getElem?_set_ne (by omega)];exact h2
  ·obtain⟨k1,k2,k3⟩:=h3 ho;have lo:=I k1;refine⟨?_,by simp;omega,k3⟩;simp only;rw[List.getElem?_append_left (by simpa using lo),List.getElem?_set_ne (fun q=>k2 q.symm),List.getElem?_set_ne (by omega),List.getElem?_set_ne (fun q=>k2 q.symm)];exact k1
  ·simp only;rw[List.getElem?_append_left (by simpa using l2),List.getElem?_set_ne (by omega),List.getElem?_set_self (by simpa using l2)]
  ·simp only[List.length_set];rw[List.getElem?_append_right (by simp)];simp[lI]
  simp;omega
structure Wu(f:Func):Prop where
 few:f.blocks.length<=128
 params:∀b∈f.blocks,b.params.length<=4096
 ins:∀b∈f.blocks,b.ins.length<=1024
 OL:∀b∈f.blocks,∀i∈b.ins,i.args.length<=16
 cases:∀b∈f.blocks,b.term.cases.length<=256
 to:∀b∈f.blocks,b.term.to.length<=257
 Oe:∀b∈f.blocks,∀e∈b.term.to,e.args.length<=4096
def gy(es:List Edge):List ae:=es.flatMap fun e=>[aI e.block,aJ e.args]
def Bj(id:Nat)(es:List Edge):ae:=if es=[]then .aA 2 [] .ex else .os id es.length 2
def pZ(id:Nat)(es:List Edge):ae:=if es=[]then .aA 2 [] .sh else .os id es.length 2
def tq(id:Nat)(b:Block):List ae:=[aJ b.params,a7 b.ins,aI b.term.kind,aI b.term.arg,aI b.term.n,aJ b.term.cases,pZ id b.term.to]
def fh(ids:List Nat)(bs:List Block):List ae:=(List.zipWith tq ids bs).flatten
def je(id:Nat)(bs:List Block):ae:=if bs=[]then .aA 7 [] .ex else .os id bs.length 7
theorem vl(id:Nat)(es:List Edge):(Bj id es).bg=pZ id es:=by
 unfold Bj pZ;split<;>rfl
theorem vk(id:Nat)(es:List Edge):(pZ id es).bg=pZ id es:=by
 unfold pZ;split<;>rfl
theorem H3(es:List Edge)(e:Edge):gy (es++[e])=gy es++[aI e.block,aJ e.args]:=by simp[gy]
theorem mA(es:List Edge):(gy es).length=es.length*2:=by
 induction es with
 | nil=>rfl
 | cons e r ih =>
  have:gy (e::r)=[aI e.block,aJ e.args]++gy r:=rfl;rw[this,List.length_append,ih];simp only[List.length_cons,List.length_nil];omega
theorem uE(n:Nat)(es:List Edge):av n (gy es):=by
 rw[aT];intro c hc;simp only[gy,List.mem_flatMap]at hc;obtain⟨e,_,hc⟩:=hc;simp only[List.mem_cons,List.not_mem_nil,or_false]at hc;rcases hc with rfl|rfl
 ·trivial
 exact⟨ax _ _,trivial⟩
theorem FB(es:List Edge):(gy es).map ae.bg=an (es.map Edge.enc):=by
 induction es with
 | nil=>rfl
 | cons e r ih =>
  have h1:gy (e::r)=[aI e.block,aJ e.args]++gy r:=rfl;have h2:an ((e::r).map Edge.enc)=[aI e.block,aJ e.args]++an (r.map Edge.enc):=rfl;rw[h1,h2,List.map_append,ih];rfl
theorem ry{ids:List Nat}{bs:List Block}(h:ids.length=bs.length)(id:Nat)(b:Block):fh (ids++[id]) (bs++[b])=fh ids bs++tq id b:=by
 unfold fh;rw[List.zipWith_append h];simp
theorem lQ:∀{ids:List Nat} {bs:List Block},ids.length=bs.length->(fh ids bs).length=bs.length*7
 | [],[],_=>rfl
 | i::ids,b::bs,h=>by
  have e:fh (i::ids) (b::bs)=tq i b++fh ids bs:=rfl;rw[e,List.length_append,lQ (by simpa using h)];simp only[tq,List.length_cons,List.length_nil];omega
 | [],b::bs,h=>by simp at h
 | i::ids,[],h=>by simp at h
theorem Hw{n id:Nat}(b:Block)(h:b.term.to≠[]->id<n):av n (tq id b):=by
 refine⟨⟨ax _ _,trivial⟩,⟨Ins.ag _ _,trivial⟩,trivial,trivial,trivial,⟨ax _ _,trivial⟩,?_,trivial⟩;unfold pZ;split
 ·exact⟨trivial,trivial⟩
 rename_i q;exact h q
structure UD(b0:Nat)(ids:List Nat)(bs:List Block)(O:List ak):Prop where
 li:ids.length=bs.length
 own:∀(j id:Nat) (b:Block),ids[j]?=some id->bs[j]?=some b->b.term.to≠[]->b0<=id∧O[id]?=some (.cells (gy b.term.to))
 inj:∀(i j id:Nat) (b c:Block),ids[i]?=some id->ids[j]?=some id->bs[i]?=some b->bs[j]?=some c->b.term.to≠[]->c.term.to≠[]->i=j
structure K5(f:Func)(done:List Block)(dO:Nat)(ids:List Nat)(O:List ak):Prop where
 up:∀o∈O,o.upto O.length
 r0:O[0]?=some .gone
 r1:O[1]?=some (.cells [aI 0,.aA 7 [] .ex])
 r3:O[3]?=some (.cells [aI 0,.aA 7 [] .ex])
 out:O[4]?=some (.cells [aI f.name,je dO done])
 blk:done≠[]->5<=dO∧O[dO]?=some (.cells (fh ids done))
 cp:UD 5 ids done O
 ne:∀(j id:Nat) (b:Block),ids[j]?=some id->done[j]?=some b->b.term.to≠[]->id≠dO
theorem wY{n:Nat}:∀{ids:List Nat} {bs:List Block},(∀(j id:Nat) (b:Block),ids[j]?=some id->bs[j]?=some b->b.term.to≠[]->id<n)->av n (fh ids bs):=by
 intro ids bs h;rw[aT];intro c hc;unfold fh at hc;obtain⟨l,hl,hc⟩:=List.mem_flatten.1 hc;obtain⟨j,hj⟩:=List.mem_iff_getElem?.1 hl;rw[List.getElem?_zipWith]at hj;cases h1:ids[j]? with
 | none=>rw[h1]at hj;cases hj
 | some id =>
  cases h2:bs[j]? with
  | none=>rw[h1,h2]at hj;cases hj
  | some b =>
   rw[h1,h2]at hj;simp only[Option.some.injEq]at hj;subst hj;exact aT.1 (Hw b (h j id b h1 h2)) c hc
theorem K5.snoc{f:Func}{done:List Block}{dO:Nat}{ids:List Nat}{O O1:List ak}(h:K5 f done dO ids O){b:Block}{tid:Nat}(hlen:O.length<=O1.length)(bB:∀o∈O1,o.upto O1.length)
  (eF:∀k,k<O.length->(done≠[]->k≠dO)->O1[k]?=O[k]?) (ht:b.term.to≠[]->O.length<=tid∧O1[tid]?=some (.cells (gy b.term.to))) {cs ar:List ae} (fA:cs=fh (ids++[tid]) (done++[b])) (R3:ar=[aI f.name,.os O1.length (done.length+1) 7]) :
  K5 f (done++[b]) O1.length (ids++[tid]) ((O1++[ak.cells cs]).set 4 (.cells ar)):=by
 have h4:=I h.out;have SP:=h.cp.li;have pr:∀k,k<O.length->k≠4->(done≠[]->k≠dO)->((O1++[ak.cells cs]).set 4 (.cells ar))[k]?=O[k]?:=fun k hk Y8 FZ=>by
  rw[List.getElem?_set_ne (Ne.symm Y8),List.getElem?_append_left (by omega),eF k hk FZ]
 have R6:done≠[]->5<=dO:=fun q=>(h.blk q).1;have L9:∀(j id:Nat) (c:Block),(ids++[tid])[j]?=some id->(done++[b])[j]?=some c->(ids[j]?=some id∧done[j]?=some c)∨(j=ids.length∧id=tid∧c=b):=fun j id c h1 h2=>by
  by_cases hj:j<ids.length
  ·rw[List.getElem?_append_left hj]at h1;rw[List.getElem?_append_left (by omega)]at h2;exact .inl ⟨h1,h2⟩
  have Q8:=I h1;rw[List.length_append,List.length_singleton]at Q8;have gh:j=ids.length:=by omega
  subst gh;rw[List.getElem?_append_right (Nat.le_refl _),Nat.sub_self]at h1;rw[List.getElem?_append_right (by omega),<-SP,Nat.sub_self]at h2;simp only[List.getElem?_cons_zero,Option.some.injEq]at h1 h2;exact .inr ⟨rfl,h1.symm,h2.symm⟩
 have po:∀(j id:Nat) (c:Block),ids[j]?=some id->done[j]?=some c->c.term.to≠[]->5<=id∧id<O.length∧O1[id]?=some (.cells (gy c.term.to)):=fun j id c h1 h2 h3=>by
  obtain⟨o1,o2⟩:=h.cp.own j id c h1 h2 h3;have hl:=I o2;refine⟨o1,hl,?_⟩;rw[eF id hl (fun _=>h.ne j id c h1 h2 h3)];exact o2
 have nT:∀(j id:Nat) (c:Block),(ids++[tid])[j]?=some id->(done++[b])[j]?=some c->c.term.to≠[]->5<=id∧id<O1.length∧O1[id]?=some (.cells (gy c.term.to)):=fun j id c h1 h2 h3=>by
  rcases L9 j id c h1 h2 with⟨q1,q2⟩|⟨_,q2,q3⟩
  ·obtain⟨p1,p2,p3⟩:=po j id c q1 q2 h3;exact⟨p1,by omega,p3⟩
  rw[q3]at h3 ⊢;rw[q2];obtain⟨t1,t2⟩:=ht h3;exact⟨by omega,I t2,t2⟩
 subst fA;subst R3;exact {
  up:=by
   intro o ho;rw[List.length_set,List.length_append,List.length_singleton];rcases List.mem_or_eq_of_mem_set ho with q|q
   ·rcases List.mem_append.1 q with q|q
    ·exact ak.b8 (by omega) (bB o q)
    rw[List.mem_singleton]at q;subst q;exact wY fun j id c h1 h2 h3=>by
     have:=(nT j id c h1 h2 h3).2.1;omega
   subst q;exact⟨trivial,show _<_ by omega,trivial⟩
  r0:=by rw[pr 0 (I h.r0) (by omega) (fun q=>by have:=R6 q;omega)];exact h.r0
  r1:=by rw[pr 1 (I h.r1) (by omega) (fun q=>by have:=R6 q;omega)];exact h.r1
  r3:=by rw[pr 3 (I h.r3) (by omega) (fun q=>by have:=R6 q;omega)];exact h.r3
  out:=by
   rw[List.getElem?_set_self (by rw[List.length_append];omega)];have:je O1.length (done++[b])=.os O1.length (done.length+1) 7:=by
    unfold je;rw[if_neg (by simp),List.length_append];rfl
   rw[this]
  blk:=fun _=>by
   refine⟨by omega,?_⟩;rw[List.getElem?_set_ne (by omega),List.getElem?_append_right (Nat.le_refl _),Nat.sub_self];rfl
  cp:={
   li:=by rw[List.length_append,List.length_append,SP];rfl
   own:=fun j id c h1 h2 h3=>by
    obtain⟨p1,p2,p3⟩:=nT j id c h1 h2 h3;refine⟨p1,?_⟩;rw[List.getElem?_set_ne (by omega),List.getElem?_append_left p2];exact p3
   inj:=fun i j id c d h1 h2 h3 h4 h5 h6=>by
    rcases L9 i id c h1 h3 with⟨p1,p2⟩|⟨p1,p2,p3⟩
    ·rcases L9 j id d h2 h4 with⟨q1,q2⟩|⟨q1,q2,q3⟩
     ·exact h.cp.inj i j id c d p1 q1 p2 q2 h5 h6
     have:=(po i id c p1 p2 h5).2.1;rw[q3]at h6;have:=(ht h6).1;omega
    rcases L9 j id d h2 h4 with⟨q1,q2⟩|⟨q1,q2,q3⟩
    ·have:=(po j id d q1 q2 h6).2.1;rw[p3]at h5;have:=(ht h5).1;omega
    omega }
  ne:=fun j id c h1 h2 h3=>by
   have:=(nT j id c h1 h2 h3).2.1;omega }
structure G2(O:List ak)(cs:List ae)(n:Nat)(O2:List ak):Prop where
 len:O2.length=O.length+2
 up:∀o∈O2,o.upto O2.length
 lF:∀k,k<O.length->O2[k]?=O[k]?
 cell:O2[O.length]?=some (.cells cs)
 sp:O2[O.length+1]?=some (.spare n)
theorem G2.start{O:List ak}(bB:∀o∈O,o.upto O.length){cs:List ae}(fA:av (O.length+2) cs):G2 O cs 0 (O++[.cells cs,.spare 0]) where
 len:=by simp
 up:=fun o ho=>by
  rw[List.length_append];rcases List.mem_append.1 ho with q|q
  ·exact ak.b8 (by omega) (bB o q)
  simp only[List.mem_cons,List.not_mem_nil,or_false]at q;rcases q with rfl|rfl
  ·exact fA
  trivial
 lF:=fun k hk=>by rw[List.getElem?_append_left hk]
 cell:=by
  rw[List.getElem?_append_right (Nat.le_refl _),Nat.sub_self];rfl
 sp:=by
  rw[List.getElem?_append_right (by omega),show O.length+1-O.length=1 by omega];rfl
theorem G2.one{O:List ak}{cs:List ae}{n:Nat}{O2:List ak}(h:G2 O cs n O2){cs':List ae}(fA:av (O.length+2) cs'):G2 O cs' n (O2.set O.length (.cells cs')) where
 len:=by rw[List.length_set,h.len]
 up:=by
  rw[List.length_set];exact bt h.up (by rw[h.len];exact fA)
 lF:=fun k hk=>by rw[List.getElem?_set_ne (by omega),h.lF k hk]
 cell:=by rw[List.getElem?_set_self (by rw[h.len];omega)]
 sp:=by rw[List.getElem?_set_ne (by omega),h.sp]
theorem G2.room{O:List ak}{cs:List ae}{n:Nat}{O2:List ak}(h:G2 O cs n O2)(m:Nat):G2 O cs m (O2.set (O.length+1) (.spare m)) where
 len:=by rw[List.length_set,h.len]
 up:=by
  rw[List.length_set];exact bt h.up trivial
 lF:=fun k hk=>by rw[List.getElem?_set_ne (by omega),h.lF k hk]
 cell:=by rw[List.getElem?_set_ne (by omega),h.cell]
 sp:=by rw[List.getElem?_set_self (by rw[h.len];omega)]
structure K4(O:List ak)(cs:ae->List ae)(tid:Nat)(es:List Edge)(O3:List ak):Prop where
 len:O.length+2<=O3.length
 up:∀o∈O3,o.upto O3.length
 lF:∀k,k<O.length->O3[k]?=O[k]?
 cell:O3[O.length]?=some (.cells (cs (Bj tid es)))
 own:es≠[]->O.length+2<=tid∧O3[tid]?=some (.cells (gy es))
theorem K4.start{O:List ak}{cs:ae->List ae}{n:Nat}{O2:List ak}(h:G2 O (cs (.aA 2 [] .ex)) n O2):K4 O cs 0 [] O2 where
 len:=by rw[h.len];omega
 up:=h.up
 lF:=h.lF
 cell:=h.cell
 own:=fun q=>absurd rfl q
theorem K4.push{O:List ak}{cs:ae->List ae}{tid:Nat}{es:List Edge}{O3 O4:List ak}(h:K4 O cs tid es O3)(e:Edge)(fA:∀v n,v.upto n->O.length+2<=n->av n (cs v))(hlen:O4.length=O3.length)(bB:∀o∈O4,o.upto O3.length)
  (eF:∀k,(es≠[]->k≠tid)->O4[k]?=O3[k]?) {c a:List ae} (hc:c=gy (es++[e])) (ha:a=cs (.os O3.length (es.length+1) 2)):K4 O cs O3.length (es++[e]) ((O4++[ak.cells c]).set O.length (.cells a)):=by
 have hl:=h.len;have hx:Bj O3.length (es++[e])=.os O3.length (es.length+1) 2:=by
  unfold Bj;rw[if_neg (by simp),List.length_append];rfl
 subst hc;subst ha;exact {
  len:=by rw[List.length_set,List.length_append,hlen];omega
  up:=by
   intro o ho;rw[List.length_set,List.length_append,List.length_singleton,hlen];rcases List.mem_or_eq_of_mem_set ho with q|q
   ·rcases List.mem_append.1 q with q|q
    ·exact ak.b8 (by omega) (bB o q)
    rw[List.mem_singleton]at q;subst q;exact uE _ _
   subst q;exact fA _ _ (show O3.length<O3.length+1 by omega) (by omega)
  lF:=fun k hk=>by
   rw[List.getElem?_set_ne (by omega),List.getElem?_append_left (by omega),eF k (fun q=>by have:=(h.own q).1;omega),h.lF k hk]
  cell:=by
   rw[List.getElem?_set_self (by rw[List.length_append];omega),hx]
  own:=fun _=>by
   refine⟨by omega,?_⟩;rw[List.getElem?_set_ne (by omega),List.getElem?_append_right (by omega),hlen,Nat.sub_self];rfl }
def UE(f:Func)(r:ae)(O:List ak):Prop:=∃(ids:List Nat) (dO:Nat),r=.agg [aI f.name,.os dO f.blocks.length 7]∧(∀o∈O,o.upto O.length)∧O[0]?=some .gone∧O[1]?=some (.cells [aI 0,.aA 7 [] .ex]) ∧
 (5<=dO∧O[dO]?=some (.cells (fh ids f.blocks)))∧UD 5 ids f.blocks O∧∀(j id:Nat) (b:Block),ids[j]?=some id->f.blocks[j]?=some b->b.term.to≠[]->id≠dO
theorem CA(f:Func):K5 f [] 0 [] [.gone,.cells [aI 0,.aA 7 [] .ex],.gone,.cells [aI 0,.aA 7 [] .ex],.cells [aI f.name,.aA 7 [] .ex]] where
 up:=fun o ho=>by
  simp only[List.mem_cons,List.not_mem_nil,or_false]at ho;rcases ho with rfl|rfl|rfl|rfl|rfl
  ·trivial
  ·exact⟨trivial,⟨trivial,trivial⟩,trivial⟩
  ·trivial
  ·exact⟨trivial,⟨trivial,trivial⟩,trivial⟩
  exact⟨trivial,⟨trivial,trivial⟩,trivial⟩
 r0:=rfl
 r1:=rfl
 r3:=rfl
 out:=rfl
 blk:=fun q=>absurd rfl q
 cp:=⟨rfl,fun j id b h=>by simp at h,fun i j id b c h=>by simp at h⟩
 ne:=fun j id b h=>by simp at h
theorem K5.done{f:Func}{dO:Nat}{ids:List Nat}{O:List ak}(h:K5 f f.blocks dO ids O)(cq:f.blocks≠[]){cs:List ae}(fA:av O.length cs):UE f (.agg [aI f.name,.os dO f.blocks.length 7]) (O.set 3 (.cells cs)):=by
 obtain⟨b1,b2⟩:=h.blk cq;refine⟨ids,dO,rfl,?_,?_,?_,⟨b1,?_⟩,⟨h.cp.li,fun j id b q1 q2 q3=>?_,h.cp.inj⟩,h.ne⟩
 ·rw[List.length_set];exact bt h.up fA
 ·rw[List.getElem?_set_ne (by omega)];exact h.r0
 ·rw[List.getElem?_set_ne (by omega)];exact h.r1
 ·rw[List.getElem?_set_ne (by omega)];exact b2
 obtain⟨o1,o2⟩:=h.cp.own j id b q1 q2 q3;exact⟨o1,by rw[List.getElem?_set_ne (by omega)];exact o2⟩
end Go.Proofs.YtjdnhamngpafmaaGreat
