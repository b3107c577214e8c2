/-
  Texts bound together by a program of mine: YtjdnhamngpafmaaGreatPt, YtjdnhamngpafmaaGreatT18, YtjdnhamngpafmaaGreatT19, YtjdnhamngpafmaaGreatT20, YtjdnhamngpafmaaGreatT21, YtjdnhamngpafmaaGreatT22, YtjdnhamngpafmaaGreatPu, YtjdnhamngpafmaaGreatPv, YtjdnhamngpafmaaGreatPw, YtjdnhamngpafmaaGreatPx, YtjdnhamngpafmaaGreatT23, YtjdnhamngpafmaaGreatT37, YtjdnhamngpafmaaGreatPf, YtjdnhamngpafmaaGreatT48, YtjdnhamngpafmaaGreatPc, YtjdnhamngpafmaaGreatT41, YtjdnhamngpafmaaGreatPj, YtjdnhamngpafmaaGreatT43, YtjdnhamngpafmaaGreatPg, YtjdnhamngpafmaaGreatPk, YtjdnhamngpafmaaGreatPun, YtjdnhamngpafmaaGreatPuo, YtjdnhamngpafmaaGreatT44, YtjdnhamngpafmaaGreatT45, YtjdnhamngpafmaaGreatT46, YtjdnhamngpafmaaGreatT54, YtjdnhamngpafmaaGreatPl, YtjdnhamngpafmaaGreatPdb, YtjdnhamngpafmaaGreatPdc, YtjdnhamngpafmaaGreatPdd, YtjdnhamngpafmaaGreatPua, YtjdnhamngpafmaaGreatPub, YtjdnhamngpafmaaGreatPuq.
-/
import Derived.Test.YtjdnhamngpafmaaGreatF3
import Derived.Sort.Grow
set_option linter.all false
set_option maxRecDepth 100000
set_option maxHeartbeats 4000000

namespace Go.Proofs.YtjdnhamngpafmaaGreat
open Go.Av
theorem mX.mono{u:bY}{m m':Mach}(h:∀a∈m.heap,∃b∈m'.heap,b.l8=a.l8){f:Fr}(k:mX u m f):mX u m' f :=
 ⟨k.fn,k.blk,k.pos,fun e he=>(k.vals e he).mono h⟩
theorem mX.of_heap{u:bY}{m m':Mach}(h:m'.heap=m.heap){f:Fr}(k:mX u m f):mX u m' f:=k.mono fun a ha=>⟨a,by rw[h];exact ha,rfl⟩
theorem ko{u:bY}{k:Int}(h0:0<=k)(h1:k<u.fns.length):aL u k∈u.fns:=List.mem_of_getElem? (kT h0 h1)
theorem gx{f:Func}{k:Int}(h0:0<=k)(h1:k<f.blocks.length):ax f k∈f.blocks:=List.mem_of_getElem? (ep h0 h1)
theorem Um{u:bY}(hu:gd u){k:Int}(h0:0<=k)(h1:k<u.fns.length):(0:Int)<=0∧(0:Int)<(aL u k).blocks.length:=by
 have:=List.length_pos_iff.2 (hu.ne _ (ko h0 h1)).1;omega
theorem bR.stop{u:bY}{m:Mach}(hm:bR u m){e n:Int}(he:0<=e∧e<=6)(hn:fU n)(hz:e≠0->n=0):bR u (m.stop e n) where
 frames:=fun f hf=>(hm.frames f hf).of_heap (by rfl)
 ig:=fun a ha=>⟨(hm.ig a ha).1,fun v hv=>((hm.ig a ha).2 v hv).of_heap (by rfl)⟩
 left:=hm.left
 depth:=hm.depth
 out:=hm.out
 words:=hm.words
 fin:=he
 val:=hn
 done:=hz
 over:=fun h=>by cases h
theorem bR.bu{u:bY}{m:Mach}(hm:bR u m){f:Fr}(ct:m.frames≠[])(hf:mX u m f):bR u (m.bu f) where
 frames:=fun g hg=>by
  rcases List.mem_cons.1 hg with rfl|hg
  ·exact hf.of_heap (by rfl)
  exact(hm.frames g (List.mem_of_mem_tail hg)).of_heap (by rfl)
 ig:=fun a ha=>⟨(hm.ig a ha).1,fun v hv=>((hm.ig a ha).2 v hv).of_heap (by rfl)⟩
 left:=hm.left
 depth:=by
  have h1:=hm.depth;have h2:=List.length_pos_iff.2 ct;have h3:(m.bu f).frames.length=m.frames.length:=by
   simp only[Mach.bu,List.length_cons,List.length_tail];omega
  rw[h3];exact h1
 out:=hm.out
 words:=hm.words
 fin:=hm.fin
 val:=hm.val
 done:=hm.done
 over:=fun h=>⟨by simp[Mach.bu],(hm.over h).2⟩
theorem bR.enter{u:bY}{m:Mach}(hu:gd u)(hm:bR u m)(hs:m.over=false->m.short=false)(hd:m.frames.length+m.left+1<=2 ^ 40){fn:Int}(mV:0<=fn∧fn<u.fns.length){args:List SV}(ha:∀v∈args,gH u m v)(to:Int) :
  bR u (m.enter u fn args to) where
 frames:=fun g hg=>by
  rcases List.mem_cons.1 hg with rfl|hg
  ·exact⟨mV,Um hu mV.1 mV.2,Nat.zero_le _,Bu (by simp) (fun v hv=>(ha v hv).of_heap (by rfl))⟩
  exact(hm.frames g hg).of_heap (by rfl)
 ig:=fun a ha=>⟨(hm.ig a ha).1,fun v hv=>((hm.ig a ha).2 v hv).of_heap (by rfl)⟩
 left:=hm.left
 depth:=by
  simp only[Mach.enter,List.length_cons];omega
 out:=hm.out
 words:=hm.words
 fin:=hm.fin
 val:=hm.val
 done:=hm.done
 over:=fun h=>⟨by simp[Mach.enter],hs h⟩
theorem bR.follow{u:bY}{m:Mach}(hm:bR u m)(ct:m.frames≠[]){f:Fr}(hf:mX u m f){e:Edge}(he:zz (aL u f.fn) e):bR u (m.follow u f e) :=
 hm.bu ct ⟨hf.fn,⟨he.lo,he.hi⟩,Nat.zero_le _,Bu hf.vals (pf hf.vals _)⟩
theorem bR.leave{u:bY}{m:Mach}(hm:bR u m)(ct:m.frames≠[]){f:Fr}{v:SV}(hv:gH u m v)(ho:m.over=false):bR u (m.leave f v):=by
 have hz:fU 0:=by unfold fU;omega
 unfold Mach.leave;cases ht:m.frames.tail with
 | nil =>
  simp only;have h0:bR u ({ m with frames:=[],over:=true }:Mach) :=
   ⟨by simp,fun a ha=>⟨(hm.ig a ha).1,fun v hv=>((hm.ig a ha).2 v hv).of_heap (by rfl)⟩,hm.left,by have:=hm.depth;simp;omega,hm.out,hm.words,hm.fin,hm.val,hm.done,fun h=>by cases h⟩
  refine h0.stop (e:=0) (by omega) ?_ (by simp);split
  ·exact SV.Wf.num hv (by assumption)
  exact hz
 | cons g r =>
  simp only;have hg:g∈m.frames:=List.mem_of_mem_tail (by rw[ht];simp);have hr:∀x∈r,x∈m.frames:=fun x hx=>List.mem_of_mem_tail (by rw[ht];simp[hx]);have hl:r.length+1<=m.frames.length:=by
   have h1:m.frames.tail.length=r.length+1:=by rw[ht];rfl
   simp at h1;omega
  have WS:=hm.frames g hg;exact⟨fun x hx=>by
   rcases List.mem_cons.1 hx with rfl|hx
   ·exact⟨WS.fn,WS.blk,WS.pos,fun e he=>(AJ WS.vals hv e he).of_heap (by rfl)⟩
   exact(hm.frames x (hr x hx)).of_heap (by rfl),fun a ha=>⟨(hm.ig a ha).1,fun v hv=>((hm.ig a ha).2 v hv).of_heap (by rfl)⟩,hm.left,by have:=hm.depth;simp only[List.length_cons];omega,hm.out,hm.words,hm.fin,hm.val,hm.done,fun h=>⟨by simp,(hm.over h).2⟩⟩
theorem sE{f:Func}{t:Term}(ht:zA f t)(h0:t.kind≠0)(h1:t.kind≠1)(h4:t.kind≠4)(n:Int):∃e,t.to[gJ t n]?=some e:=by
 have hk:=ht.kind;have bg:gJ t n<t.to.length:=by
  unfold gJ;by_cases h2:t.kind=2
  ·rw[if_pos h2,ht.cond h2];split<;>omega
  rw[if_neg h2,ht.switch (by omega)];have:=List.findIdx_le_length (xs:=t.cases) (p:=(· == n));omega
 exact⟨_,List.getElem?_eq_getElem bg⟩
theorem bR.finish{u:bY}{m:Mach}(hm:bR u m)(ho:m.over=false){f:Fr}(hf:mX u m f){t:Term}(ht:zA (aL u f.fn) t):bR u (m.finish u f t):=by
 have hz:fU 0:=by unfold fU;omega
 have ct:=(hm.over ho).1;unfold Mach.finish;split
 ·exact hm.stop ht.n hz (fun _=>rfl)
 rename_i h4;split
 ·rename_i h1;have hl:=ht.jump h1;have he:t.to[0]?=some (t.to[0]'(by omega)):=List.getElem?_eq_getElem _;rw[he];exact hm.follow ct hf (ht.fZ _ (List.getElem_mem _))
 rename_i h1;split
 ·exact hm.leave ct (z' hf.vals _) ho
 rename_i h0;split
 ·exact hm.stop (by omega) hz (fun _=>rfl)
 obtain⟨e,he⟩:=sE ht h0 h1 h4 (fk f.vals t.arg).n;rw[he];exact hm.follow ct hf (ht.fZ _ (List.mem_of_getElem? he))
theorem bR.settle{u:bY}{m:Mach}(hm:bR u m)(ct:m.frames≠[]){f:Fr}(hf:mX u m f){r:Mach×SV×Int}(hr:dY u m r)(to:Int):bR u (Mach.settle f to r):=by
 have hz:fU 0:=by unfold fU;omega
 have h1:bR u r.1:=⟨fun g hg=>(hm.frames g (hr.frames ▸ hg)).mono hr.mi,hr.ig,hr.left.1,by
  have:=hm.depth;have:=hr.left.2;rw[hr.frames];omega,hr.out,hr.words,by rw[hr.fin.1];exact hm.fin,by rw[hr.fin.2];exact hm.val,by rw[hr.fin.1,hr.fin.2];exact hm.done,fun h=>⟨by rw[hr.frames];exact ct,(hr.over h).2⟩⟩
 have dQ:mX u r.1 f:=hf.mono hr.mi;have OM:r.1.frames≠[]:=by rw[hr.frames];exact ct
 unfold Mach.settle;split
 ·refine(h1.stop hr.ML hz (fun _=>rfl)).bu OM ?_;have OA:mX u (r.1.stop r.2.2 0) f:=dQ.of_heap (by rfl);exact⟨OA.fn,OA.blk,OA.pos,AJ OA.vals (hr.val.of_heap (by rfl))⟩
 exact h1.bu OM ⟨dQ.fn,dQ.blk,dQ.pos,AJ dQ.vals hr.val⟩
theorem bR.step{u:bY}{m:Mach}(hu:gd u)(hm:bR u m)(ho:m.over=false)(hd:m.frames.length+m.left+1<=2 ^ 40):bR u (m.step u):=by
 have hz:fU 0:=by unfold fU;omega
 obtain⟨ct,kG⟩:=hm.over ho;unfold Mach.step;cases dQ:m.frames with
 | nil=>exact absurd dQ ct
 | cons f r =>
  have hf:=hm.frames f (by rw[dQ];simp);have hF:=ko hf.fn.1 hf.fn.2;have hB:=gx hf.blk.1 hf.blk.2;have hb:=hu.blocks _ hF _ hB;simp only;cases hi:(ax (aL u f.fn) f.blk).ins[f.pos]? with
  | none=>exact hm.finish ho hf hb.term
  | some i =>
   simp only;have Bg:=hb.ins i (List.mem_of_getElem? hi);have bg:=I hi;have nq:mX u m { f with pos:=f.pos+1 }:=⟨hf.fn,hf.blk,bg,hf.vals⟩
   have h1:=hm.bu ct nq;have HN:mX u (m.bu { f with pos:=f.pos+1 }) { f with pos:=f.pos+1 }:=nq.of_heap (by rfl);have Cf:(m.bu { f with pos:=f.pos+1 }).frames.length=m.frames.length:=by
    simp[Mach.bu,dQ]
   have ha:=pf HN.vals i.args;have lK:=pT f.vals i.args;unfold Mach.act;split
   ·rename_i vP;obtain⟨c1,c2,c3⟩:=Bg.call vP;exact h1.enter hu (fun _=>kG) (by rw[Cf];exact hd) ⟨c1,c2⟩ ha _
   split
   ·split
    ·rename_i hk;exact h1.enter hu (fun _=>kG) (by rw[Cf];exact hd) (SV.Wf.fn (jf ha 0) hk.1) ha _
    exact h1.stop (by omega) hz (fun _=>rfl)
   exact h1.settle (by simp[Mach.bu]) HN (uG h1 Bg lK ha) _
theorem tj(u:bY)(m:Mach)(hm:bR u m)(hu:gd u)(ho:m.over=false):(m.step u).left<=m.left:=by
 obtain⟨ct,kG⟩:=hm.over ho;have Sv:∀(m:Mach) f v,(m.leave f v).left=m.left:=fun m f v=>by
  unfold Mach.leave;split<;>rfl
 unfold Mach.step;cases dQ:m.frames with
 | nil=>exact absurd dQ ct
 | cons f r =>
  have hf:=hm.frames f (by rw[dQ];simp);have hb:=hu.blocks _ (ko hf.fn.1 hf.fn.2) _ (gx hf.blk.1 hf.blk.2);simp only;cases hi:(ax (aL u f.fn) f.blk).ins[f.pos]? with
  | none =>
   simp only;unfold Mach.finish
   repeat' split
   all_goals first
    | exact Int.le_refl _
    | exact Int.le_of_eq (Sv _ _ _)
  | some i =>
   simp only;have Bg:=hb.ins i (List.mem_of_getElem? hi);have bg:=I hi;have nq:mX u m { f with pos:=f.pos+1 }:=⟨hf.fn,hf.blk,bg,hf.vals⟩
   have h1:=hm.bu ct nq;unfold Mach.act;split
   ·exact Int.le_refl _
   split
   ·split<;>exact Int.le_refl _
   have hx:=uG h1 Bg (pT f.vals i.args) (pf (fun e he=>(hf.vals e he).of_heap (by rfl)) i.args);have hl:=hx.left.2;unfold Mach.settle;split<;>exact hl
def mN(cs:List ae)(n:Nat)(id:Nat):List ae:=cs.take n++[.mp id 0]
theorem mC(a b c:Nat):(ae.os a b c).cells=[.os a b c]:=rfl
theorem tx(a b:Nat):au [.mp a b]=[.mp a b]:=rfl
theorem Er{u:bY}{m:Mach}{O:List aj}(bG:∀o∈O,o.upto O.length)(h0:O[2]?=some (.cells (aE u m))){cs:List ae}(fq:O[m.sid]?=some (.cells cs))(fS:m.frames.length<=cs.length)(ct:m.sid≠2)(hN:O.length=m.next)
  (hd:m.frames.length<=2 ^ 41) (fn:Int) (mV:0<=fn∧fn<u.fns.length) (hb:(aL u fn).blocks≠[]) (args:List SV) (hl:∀v∈args,SV.bp O.length v) (hp:(ax (aL u fn) 0).params.length=args.length) (to:Int) :
  bd Tryz.prog 81 O [.mp 2 0,aI fn,.aC 4 (args.map SV.enc) .sh,aI to] (fun r O'=>r=.cD []∧O'=((O.set m.sid .gone).set 2 (.cells (aE u (m.enter u fn args to)))) ++
   [.map (.int .i64) ((cN [] (ax (aL u fn) 0).params args).map ic),.cells [aI fn,aI 0,aI 0,aI to,.mm O.length],.cells (mN cs m.frames.length (O.length+1))]):=by
 have hF:=kT mV.1 mV.2;have hB:=ep (f:=aL u fn) (k:=0) (by omega) (by
  have:=List.length_pos_iff.2 hb;omega)
 generalize UC:ax (aL u fn) 0=B at *;generalize hFF:aL u fn=F at *;have hB:F.blocks[0]?=some B:=hB;have Gn:∀X,(O++X)[2]?=some (.cells (aE u m)):=fun X=>cw h0;unfold aE at Gn;have fo:=I h0;have YQ:∀X,(O++X)[m.sid]?=some (.cells cs):=fun X=>cw fq;have OD:(O.set m.sid .gone)[2]?=some (.cells (aE u m)):=bx h0 ct;have e1:∀X,(O++X).set m.sid .gone=O.set m.sid .gone++X:=fun X=>lz fq;have e2:∀X,(O.set m.sid .gone++X)[2]?=some (.cells (aE u m)):=fun X=>cw OD;have e3:∀X y,(O.set m.sid .gone++X).set 2 y=(O.set m.sid .gone).set 2 y++X:=fun X y=>lz OD;unfold aE at e2;have Cf:m.frames.length*1<=cs.length:=by omega
 have eO:((m.frames.length:Nat):Int)+1=((m.frames.length+1:Nat):Int):=by omega
 have Q7:[bn u.fns,aI u.main,.os (O.length+2) (m.frames.length+1) 1,aI m.left,.v (.bool m.short),.v (.bool m.over),.aC 1 (m.out.map aI) (.tok 3),aI m.fin,aI m.val]=aE u (m.enter u fn args to):=by
  simp[aE,Mach.enter,hN]
 have fJ:=bw (n:=O.length+3) (ds:=aE u (m.enter u fn args to)) (bz (k:=m.sid) (x:=.gone) (fun o ho=>aj.cj (by omega) (bG o ho)) trivial) OD (fun h=>by
  simp only[aE,aw,ae.upto,az,Func.ag,true_and,and_true,Mach.enter]at h ⊢;omega)
 obtain⟨O2,uI⟩:∃O2,O2=(O.set m.sid .gone).set 2 (.cells (aE u (m.enter u fn args to))):=⟨_,rfl⟩
 have hlen:O.length=O2.length:=by rw[uI];simp
 simp only[<-uI]at fJ ⊢;rw[hlen]at fJ;refine zf true (O.length+3) Tryz.func81 Tryz.ntmps81 ?_;dsimp only[Tmp,TypeId,slotsOf];refine aA (ah ?_);refine c9 ?_;simp -dsimp only[simprocAttr,↓aa,zp,Gn,hF,hB]
 repeat(refine⟨by omega,?_⟩)
 refine ah ?_;refine gg 2 rfl (fun lK=>?_);simp only[List.length_map]at lK;refine ai (aO (ι:={j:Nat // j<=B.params.length}) (fun j=>⟨54,[(0,.mp 2 0),(2,.aC 4 (args.map SV.enc) .sh),(8,.mp (O.length+1) 0),(27,aK B.params),(28,aI B.params.length),(29,aI j.1)],O++[.map (.int .i64) ((cN [] (B.params.take j.1) (args.take j.1)).map ic),.cells [aI fn,aI 0,aI 0,aI to,.mm O.length]]⟩) (fun j=>B.params.length-j.1) ⟨0,by omega⟩ ?_ ?_)
 ·refine zq rfl ?_ ?_;simp -dsimp only[simprocAttr,↓aa,zp,zc];rw[vl];rfl
 rintro⟨j,hj⟩;refine aA (ah ?_);apply iz rfl<;>intro h
 ·refine cd ?_;have bg:j<B.params.length:=by simpa using h
  obtain⟨p,hp⟩:∃p,B.params[j]?=some p:=⟨B.params[j],by simp[bg]⟩
  obtain⟨a,ha⟩:∃a,args[j]?=some a:=⟨args[j]'(by omega),List.getElem?_eq_getElem _⟩
  refine aJ (ai ?_);refine aS ?_;simp -dsimp only[simprocAttr,↓aa,zp,hp];refine ah ?_;refine kC ?_;simp -dsimp only[simprocAttr,↓aa,zp,ha,rZ,<-qu hp ha]
  repeat(refine⟨by omega,?_⟩)
  refine⟨ob (by kernel_rfl),?_⟩;refine ah ?_;refine cT ?_
  repeat(refine⟨by omega,?_⟩)
  refine fK ?_;refine⟨⟨j+1,bg⟩,by simp;omega,?_⟩;refine zq rfl ?_ ?_;simp -dsimp only[simprocAttr,↓aa,zp,zc]
  ·exact Sub.int (by simp)
  rfl
 refine aM ?_;simp -dsimp only[bS,ne_eq,Nat.reduceEqDiff,reduceCtorEq];have rK:j=B.params.length:=by simp at h;omega
 subst rK;have Ac:args.take B.params.length=args:=List.take_of_length_le (by omega);refine Qw ?_;simp -dsimp only[simprocAttr,↓aa,zp,Gn,Ac,List.take_length,YQ,e1,e2,e3,Cf,List.length_set,mC,Q7,<-uI];refine⟨by omega,by omega,trivial,?_⟩;refine ba ?_;simp -dsimp only[simprocAttr,↓aa,zp,zr,Tryz.results81,pU,hlen,tx];refine⟨fun o ho=>?_,trivial,by simp[mN]⟩;rcases List.mem_append.1 ho with ho|ho
 ·exact fJ o ho
 have uJ:=bG _ (List.mem_of_getElem? fq);simp only[aj.upto,aV]at uJ;simp only[List.mem_cons,List.mem_nil_iff,or_false]at ho;rcases ho with rfl|rfl|rfl
 ·refine BU fun x hx=>?_;rcases k7 hx with q|q
  ·simp at q
  exact(hl _ q).mono (by omega)
 ·simp[aj.upto,aw,ae.upto]
 simp only[aj.upto,aV];intro x hx;rcases List.mem_append.1 hx with q|q
 ·exact ae.cj (by omega) _ (uJ x (List.mem_of_mem_take q))
 simp only[List.mem_singleton]at q;subst q;simp[ae.upto]
def As(u:bY)(fuel:Int):List ae:=[bn u.fns,aI u.main,.aC 1 [] .ex,aI fuel,.v (.bool false),.v (.bool false),.aC 1 [] (.tok 3),aI 0,aI 0]
theorem BW{u:bY}{fuel:Int}(yI:0<=u.main∧u.main<u.fns.length)(hb:(aL u u.main).blocks≠[])(hp:(ax (aL u u.main) 0).params=[])(sz:Nat)(ow:nR) :
  bd Tryz.prog 81 [.gone,.cells [.aC 1 [] .ex,aI 0,aI 0],.cells (As u fuel),.spare 0] [.mp 2 0,aI u.main,.aC sz [] ow,aI 0] (fun r O'=>r=.cD []∧O'=[.gone,.cells [.aC 1 [] .ex,aI 0,aI 0],.cells (aE u ((Mach.start fuel).enter u u.main [] 0)),.spare 0,.map (.int .i64) [],.cells [aI u.main,aI 0,aI 0,aI 0,.mm 4],.cells [.mp 5 0]]):=by
 have hF:=kT yI.1 yI.2;have hB:=ep (f:=aL u u.main) (k:=0) (by omega) (by
  have:=List.length_pos_iff.2 hb;omega)
 have Q7:aE u ((Mach.start fuel).enter u u.main [] 0)=[bn u.fns,aI u.main,.os 6 1 1,aI fuel,.v (.bool false),.v (.bool false),.aC 1 [] (.tok 3),aI 0,aI 0]:=by
  simp[aE,Mach.enter,Mach.start]
 rw[Q7];unfold As;generalize UC:ax (aL u u.main) 0=B at *;generalize hFF:aL u u.main=F at *;have hB:F.blocks[0]?=some B:=hB;have tH:B.params.length=0:=by rw[hp];rfl
 refine zf true 7 Tryz.func81 Tryz.ntmps81 ?_;dsimp only[Tmp,TypeId,slotsOf];refine aA (ah ?_);refine c9 ?_;simp -dsimp only[simprocAttr,↓aa,zp,hF,hB]
 repeat(refine⟨by omega,?_⟩)
 refine ah ?_;refine ai (aO (ι:=Unit) (fun _=>⟨54,[(0,.mp 2 0),(8,.mp 5 0),(27,aK B.params),(28,aI 0),(29,aI 0)],[.gone,.cells [.aC 1 [] .ex,aI 0,aI 0],.cells [bn u.fns,aI u.main,.aC 1 [] .ex,aI fuel,.v (.bool false),.v (.bool false),.aC 1 [] (.tok 3),aI 0,aI 0],.spare 0,.map (.int .i64) [],.cells [aI u.main,aI 0,aI 0,aI 0,.mm 4]]⟩) (fun _=>0) () ?_ ?_)
 ·refine zq rfl ?_ ?_;simp -dsimp only[simprocAttr,↓aa,zp,zc]
  ·exact Sub.int (by simp[tH])
  rfl
 rintro⟨⟩;refine aA (ah ?_);apply iz rfl<;>intro h
 ·simp at h
 refine aM ?_;simp -dsimp only[bS,ne_eq,Nat.reduceEqDiff,reduceCtorEq];refine Qw ?_;simp -dsimp only[simprocAttr,↓aa,zp,mC,tx];refine⟨trivial,?_⟩;refine ba ?_;simp -dsimp only[simprocAttr,↓aa,zp,zr,Tryz.results81];refine⟨?_,trivial⟩;simp[aj.upto,aw,lD,ae.upto,Func.ag]
theorem E9{u:bY}{m:Mach}{O:List aj}(bG:∀o∈O,o.upto O.length)(h0:O[2]?=some (.cells (aE u m)))(f:Fr)(dQ:m.frames=[f])(gL:f.bW<O.length)(v:SV)(hv:SV.bp O.length v) :
  bd Tryz.prog 130 O [.mp 2 0,.mp f.bW 0,v.enc] (fun r O'=>r=.cD []∧O'=O.set 2 (.cells (aE u (m.leave f v)))):=by
 have qH:=hv.aQ;rw[SV.gi]at qH;have fo:=I h0;have EV:[bn u.fns,aI u.main,.os m.sid 0 1,aI m.left,.v (.bool m.short),.v (.bool m.over),.aC 1 (m.out.map aI) (.tok 3),aI m.fin,aI m.val]=aE u { m with frames:=[] }:=rfl;have K2:=dz h0;have mq:O[2]?=some (.cells [bn u.fns,aI u.main,.os m.sid 1 1,aI m.left,.v (.bool m.short),.v (.bool m.over),.aC 1 (m.out.map aI) (.tok 3),aI m.fin,aI m.val]):=by
  rw[h0];unfold aE;rw[dQ];rfl
 obtain⟨O1,dV⟩:∃O1,O1=O.set 2 (.cells (aE u { m with frames:=[] })):=⟨_,rfl⟩
 have hlen:O.length=O1.length:=by rw[dV];simp
 have HF:O1[2]?=some (.cells (aE u { m with frames:=[] })):=by rw[dV];exact K2 _
 have eI:∀o∈O1,o.upto O1.length:=by
  rw[<-hlen,dV];exact bw bG h0 (fun h=>bZ h rfl)
 have kr:=fun e n=>k8 eI HF e n;have Si:∀n:Int,O1.set 2 (.cells (aE u (({ m with frames:=[] }:Mach).stop 0 n)))=O.set 2 (.cells (aE u (({ m with frames:=[] }:Mach).stop 0 n))):=fun n=>by
  rw[dV,List.set_set]
 have fJ:∀n:Int,∀o∈O.set 2 (.cells (aE u (({ m with frames:=[] }:Mach).stop 0 n))),o.upto O.length:=fun n=>bw bG h0 (fun h=>bZ h rfl);have oL:O1[2]?=some (.cells [bn u.fns,aI u.main,.os m.sid 0 1,aI m.left,.v (.bool m.short),.v (.bool m.over),.aC 1 (m.out.map aI) (.tok 3),aI m.fin,aI m.val]):=HF;have eX:m.leave f v=({ m with frames:=[] }:Mach).stop 0 (if v.kind=0∨v.kind=1 then v.n else 0):=by
  unfold Mach.leave;rw[dQ];rfl
 rw[eX];have eH:∀x,(O.set 2 x).take O1.length=O.set 2 x:=fun x=>by rw[<-hlen];exact cA
 by_cases hk:v.kind=0∨v.kind=1
 ·rw[if_pos hk];rcases(show v.kind=0∨(v.kind≠0∧v.kind=1) by omega)with e|⟨e,e1⟩
  ·have hd:decide (v.kind=0)=true:=decide_eq_true e;refine zf true O.length Tryz.func130 Tryz.ntmps130 ?_;dsimp only[Tmp,TypeId,slotsOf];refine aA (ah ?_);refine aY 5 ([aI v.kind,aI v.n,.aC 4 (v.list.map SV.enc) .sh,eP v.arr]) [(0,.mp 2 0),(1,.mp f.bW 0),(5,.ip none [aI v.kind,aI v.n,.aC 4 (v.list.map SV.enc) .sh,eP v.arr])] rfl (by simp only[List.map_cons,List.map_nil,cK,b9,dN,dO,dM,dK,dL,cn]) (by omega) (by simp[bF,bh,Go.Av.look]) ?_ ?_ ?_
   ·exact bG
   ·simp only[ae.upto]at qH;simp[ae.upto,gL,fo,qH]
   refine aS ?_;simp -dsimp only[simprocAttr,↓aa,zp,mq,mC,EV,<-dV];refine⟨trivial,?_⟩;refine⟨ob (by kernel_rfl),?_⟩;refine ah ?_;refine c9 ?_;simp -dsimp only[simprocAttr,↓aa,zp,oL];refine ah ?_;refine cr rfl ?_;refine cd ?_;refine aA (ah ?_);refine c9 ?_;simp -dsimp only[simprocAttr,↓aa,zp,hd];refine ah ?_;refine cH rfl ?_;refine cT (ah ?_);refine cT ?_;refine .inr (.inl ⟨_,_,kr 0 v.n,.inl (ao ?_)⟩);simp -dsimp only[simprocAttr,↓aa,zp,hlen,Si];refine ba ?_;simp -dsimp only[simprocAttr,↓aa,zp,zr,Tryz.results130,hlen,List.take_length,List.length_set,eH];exact⟨by rw[<-hlen];exact fJ v.n,trivial⟩
  have hd:decide (v.kind=0)=false:=decide_eq_false e;have sQ:decide (v.kind=1)=true:=decide_eq_true e1;refine zf true O.length Tryz.func130 Tryz.ntmps130 ?_;dsimp only[Tmp,TypeId,slotsOf];refine aA (ah ?_);refine aY 5 ([aI v.kind,aI v.n,.aC 4 (v.list.map SV.enc) .sh,eP v.arr]) [(0,.mp 2 0),(1,.mp f.bW 0),(5,.ip none [aI v.kind,aI v.n,.aC 4 (v.list.map SV.enc) .sh,eP v.arr])] rfl (by simp only[List.map_cons,List.map_nil,cK,b9,dN,dO,dM,dK,dL,cn]) (by omega) (by simp[bF,bh,Go.Av.look]) ?_ ?_ ?_
  ·exact bG
  ·simp only[ae.upto]at qH;simp[ae.upto,gL,fo,qH]
  refine aS ?_;simp -dsimp only[simprocAttr,↓aa,zp,mq,mC,EV,<-dV];refine⟨trivial,?_⟩;refine⟨ob (by kernel_rfl),?_⟩;refine ah ?_;refine c9 ?_;simp -dsimp only[simprocAttr,↓aa,zp,oL];refine ah ?_;refine cr rfl ?_;refine cd ?_;refine aA (ah ?_);refine c9 ?_;simp -dsimp only[simprocAttr,↓aa,zp,hd,sQ];refine ah ?_;refine cH rfl ?_;refine cT (ah ?_);refine cT ?_;refine .inr (.inl ⟨_,_,kr 0 v.n,.inl (ao ?_)⟩);simp -dsimp only[simprocAttr,↓aa,zp,hlen,Si];refine ba ?_;simp -dsimp only[simprocAttr,↓aa,zp,zr,Tryz.results130,hlen,List.take_length,List.length_set,eH];exact⟨by rw[<-hlen];exact fJ v.n,trivial⟩
 rw[if_neg hk];have hd:decide (v.kind=0)=false:=decide_eq_false (by omega);have sQ:decide (v.kind=1)=false:=decide_eq_false (by omega);refine zf true O.length Tryz.func130 Tryz.ntmps130 ?_;dsimp only[Tmp,TypeId,slotsOf];refine aA (ah ?_);refine aY 5 ([aI v.kind,aI v.n,.aC 4 (v.list.map SV.enc) .sh,eP v.arr]) [(0,.mp 2 0),(1,.mp f.bW 0),(5,.ip none [aI v.kind,aI v.n,.aC 4 (v.list.map SV.enc) .sh,eP v.arr])] rfl (by simp only[List.map_cons,List.map_nil,cK,b9,dN,dO,dM,dK,dL,cn]) (by omega) (by simp[bF,bh,Go.Av.look]) ?_ ?_ ?_
 ·exact bG
 ·simp only[ae.upto]at qH;simp[ae.upto,gL,fo,qH]
 refine aS ?_;simp -dsimp only[simprocAttr,↓aa,zp,mq,mC,EV,<-dV];refine⟨trivial,?_⟩;refine⟨ob (by kernel_rfl),?_⟩;refine ah ?_;refine c9 ?_;simp -dsimp only[simprocAttr,↓aa,zp,oL];refine ah ?_;refine cr rfl ?_;refine cd ?_;refine aA (ah ?_);refine c9 ?_;simp -dsimp only[simprocAttr,↓aa,zp,hd,sQ];refine ah ?_;refine cr rfl ?_;refine cd ?_;refine cT ?_;refine .inr (.inl ⟨_,_,kr 0 0,.inl (ao ?_)⟩);simp -dsimp only[simprocAttr,↓aa,zp,hlen,Si];refine ba ?_;simp -dsimp only[simprocAttr,↓aa,zp,zr,Tryz.results130,hlen,List.take_length,List.length_set,eH];exact⟨by rw[<-hlen];exact fJ 0,trivial⟩
theorem Fa{u:bY}{m:Mach}{O:List aj}(bG:∀o∈O,o.upto O.length)(h0:O[2]?=some (.cells (aE u m)))(f g:Fr)(r:List Fr)(dQ:m.frames=f::g::r)(hf:O[f.bW]?=some (.cells (aX f)))
  (hg:O[g.bW]?=some (.cells (aX g))) (hgm:O[g.dx]?=some (.map (.int .i64) (g.vals.map ic))) (WU:∀e∈g.vals,SV.bp O.length e.2) {cs:List ae} (fq:O[m.sid]?=some (.cells cs)) (fS:cs[r.length]?=some (.mp g.bW 0))
  (K2:m.sid≠2) (yJ:r.length<=2 ^ 40) (Vb:f.bW≠2) (OD:g.bW≠2) (mq:g.dx≠2) (v:SV) (hv:SV.bp O.length v) :
  bd Tryz.prog 130 O [.mp 2 0,.mp f.bW 0,v.enc] (fun r O'=>r=.cD []∧O'=(O.set 2 (.cells (aE u (m.leave f v)))).set g.dx (.map (.int .i64) ((cJ g.vals f.to v).map ic))):=by
 have qH:=hv.aQ;rw[SV.gi]at qH;have fo:=I h0;have gL:=I hf;have eX:aE u (m.leave f v)=[bn u.fns,aI u.main,.os m.sid (r.length+1) 1,aI m.left,.v (.bool m.short),.v (.bool m.over),.aC 1 (m.out.map aI) (.tok 3),aI m.fin,aI m.val]:=by
  simp[Mach.leave,dQ,aE]
 have hm:O[2]?=some (.cells [bn u.fns,aI u.main,.os m.sid (r.length+1+1) 1,aI m.left,.v (.bool m.short),.v (.bool m.over),.aC 1 (m.out.map aI) (.tok 3),aI m.fin,aI m.val]):=by
  rw[h0];unfold aE;rw[dQ];rfl
 obtain⟨O1,dV⟩:∃O1,O1=O.set 2 (.cells (aE u (m.leave f v))):=⟨_,rfl⟩
 have hlen:O.length=O1.length:=by rw[dV];simp
 have hs:=dz h0;have HF:O1[2]?=some (.cells (aE u (m.leave f v))):=by rw[dV];exact hs _
 have SK:O1[m.sid]?=some (.cells cs):=by rw[dV];exact bx fq K2.symm
 have nq:O1[f.bW]?=some (.cells (aX f)):=by rw[dV];exact bx hf Vb.symm
 have lH:O1[g.bW]?=some (.cells (aX g)):=by rw[dV];exact bx hg OD.symm
 have Yf:O1[g.dx]?=some (.map (.int .i64) (g.vals.map ic)):=by rw[dV];exact bx hgm mq.symm
 have eI:∀o∈O1,o.upto O1.length:=by
  rw[<-hlen,dV];refine bw bG h0 (fun h=>bZ h ?_);simp[Mach.leave,dQ]
 rw[<-dV];have fJ:∀o∈O1.set g.dx (.map (.int .i64) ((cJ g.vals f.to v).map ic)),o.upto O1.length:=by
  refine bz eI (BU fun x hx=>?_);rw[<-hlen];rcases jU hx with q|q
  ·exact WU x q
  rw[q];exact hv
 have eH:∀x,(O1.set g.dx x).take O1.length=O1.set g.dx x:=fun x=>cA;have lL:[bn u.fns,aI u.main,.os m.sid (r.length+1) 1,aI m.left,.v (.bool m.short),.v (.bool m.over),.aC 1 (m.out.map aI) (.tok 3),aI m.fin,aI m.val]=aE u (m.leave f v):=eX.symm;rw[eX]at HF;unfold aX at nq lH;have ux:((r.length+1+1:Nat):Int)-1=((r.length+1:Nat):Int):=by omega
 have Ra:((r.length+1:Nat):Int)-1=(r.length:Nat):=by omega
 have W8:decide ((0:Int)<((r.length+1:Nat):Int))=true:=decide_eq_true (by omega);refine zf true O.length Tryz.func130 Tryz.ntmps130 ?_;dsimp only[Tmp,TypeId,slotsOf];refine aA (ah ?_);refine aY 5 ([aI v.kind,aI v.n,.aC 4 (v.list.map SV.enc) .sh,eP v.arr]) [(0,.mp 2 0),(1,.mp f.bW 0),(5,.ip none [aI v.kind,aI v.n,.aC 4 (v.list.map SV.enc) .sh,eP v.arr])] rfl (by simp only[List.map_cons,List.map_nil,cK,b9,dN,dO,dM,dK,dL,cn]) (by omega) (by simp[bF,bh,Go.Av.look]) ?_ ?_ ?_
 ·exact bG
 ·simp only[ae.upto]at qH;simp[ae.upto,gL,fo,qH]
 refine aS ?_;simp -dsimp only[simprocAttr,↓aa,zp,hm,mC,ux,Int.toNat_natCast,lL,<-dV]
 repeat(refine⟨by omega,?_⟩)
 refine⟨trivial,?_⟩;refine⟨ob (by kernel_rfl),?_⟩;refine ah ?_;refine c9 ?_;simp -dsimp only[simprocAttr,↓aa,zp,HF,W8];refine ah ?_;refine cH rfl ?_;refine aS ?_;simp -dsimp only[simprocAttr,↓aa,zp,HF,SK,Ra,Nat.mul_one,fS,nq,lH,Yf,rZ]
 repeat(refine⟨by omega,?_⟩)
 refine⟨ob (by kernel_rfl),?_⟩;refine ah ?_;refine aq ?_;simp -dsimp only[simprocAttr,↓aa,zp,zr,Tryz.results130,hlen,eH,List.length_set];exact⟨fJ,trivial⟩
theorem kv{cs xs:List ae}{n:Nat}(h:xs.length=n)(hc:cs.length=n):bo cs 0 xs=xs:=by
 simp[bo];omega
theorem uc{x:ae}(h:x.flat):x.cells.map ae.bk=x.share.cells:=by
 cases x<;>rfl
theorem gv(es:List (Int×SV))(k:Int):(ku es k).cells.map ae.bk=(fk es k).enc.cells:=by
 rw[uc (jW es k),wM]
theorem Kb{u:bY}{m:Mach}{O:List aj}(bG:∀o∈O,o.upto O.length)(h0:O[2]?=some (.cells (aE u m)))(f:Fr)(hf:O[f.bW]?=some (.cells (aX f)))(hv:O[f.dx]?=some (.map (.int .i64) (f.vals.map ic)))
  (hu:∀e∈f.vals,SV.bp O.length e.2) (uT:f.bW≠f.dx) (t:Term) (hk:t.kind=4):bd Tryz.prog 112 O [.mp 2 0,.mp f.bW 0,t.enc] (fun r O'=>r=.cD []∧O'=O.set 2 (.cells (aE u (m.stop t.n 0)))):=by
 have gL:=I hf;have TW:=I hv;have fo:=I h0;have eh:=hf;unfold aX at eh;have we:(Option.map SV.enc (iu f.vals t.arg)).getD (.agg [aI 0,aI 0,.aC 4 [] .ex,.v (.pointer none)])=ku f.vals t.arg:=rfl;have sU:bo [ae.v (.int .i64 0),.v (.int .i64 0),.aC 4 [] .ex,.v (.pointer none)] 0 (ku f.vals t.arg).cells=(ku f.vals t.arg).cells:=kv (fV _ _) rfl;have kG:=gv f.vals t.arg;have Ad:=(jO hu t.arg).aQ;generalize fk f.vals t.arg=V at *;rw[SV.gi]at Ad;rw[SV.ak]at kG;have kr:=k8 bG h0 t.n 0;have fJ:=bw bG h0 (ds:=aE u (m.stop t.n 0)) (fun h=>bZ h rfl);have eH:=cA (O:=O) (k:=2) (x:=.cells (aE u (m.stop t.n 0)));refine zf true O.length Tryz.func112 Tryz.ntmps112 ?_;dsimp only[Tmp,TypeId,slotsOf];refine aA (ah ?_);refine aY 5 ([aI t.kind,aI t.arg,aI t.n,aK t.cases,aH t.to]) [(0,.mp 2 0),(1,.mp f.bW 0),(5,.ip none [aI t.kind,aI t.arg,aI t.n,aK t.cases,aH t.to])] rfl (by rfl) (by omega) (by simp[bF,bh,Go.Av.look]) ?_ ?_ ?_
 ·exact bG
 ·simp[ae.upto,aw,gL,fo,az,Edge.ag]
 refine aS ?_;simp -dsimp only[simprocAttr,↓aa,zp,eh,hv,mJ,we,jW,fV,sU];refine⟨cg [f.bW,f.dx] O.length [.pure,.pure,.pure,.rd 0,.pure,.pure,.rd 1,.wr 2 [],.wr 3 [2]] (by simp[uT]) (by simp;omega) rfl rfl (by kernel_rfl),ba ?_⟩;simp -dsimp only[bS,ne_eq,Nat.reduceEqDiff,reduceCtorEq];refine aY 6 [aI V.kind,aI V.n,.aC 4 (V.list.map SV.enc) .sh,eP V.arr] [(0,.mp 2 0),(1,.mp f.bW 0),(5,.ip none [aI t.kind,aI t.arg,aI t.n,aK t.cases,aH t.to]),(6,.ip none [aI V.kind,aI V.n,.aC 4 (V.list.map SV.enc) .sh,eP V.arr])] rfl kG (by omega) (by simp[bF,bh,Go.Av.look]) bG ?_ ?_
 ·simp only[aw,ae.upto,true_and,and_true]at Ad;simp[ae.upto,aw,gL,fo,az,Edge.ag,Ad]
 refine aA (ah ?_);refine ai ?_;refine aA (ah ?_);apply aP rfl<;>intro h
 ·refine cT ?_;refine .inr (.inl ⟨_,_,kr,.inl (ao (zj ?_))⟩)
  (refine ba ?_;simp -dsimp only[bS,ne_eq,Nat.reduceEqDiff,reduceCtorEq])
  skip
  simp -dsimp only[simprocAttr,↓aa,zp,zr,Tryz.results112,eH,List.length_set];exact⟨fJ,trivial⟩
 exact af h (by omega)
theorem Ka{u:bY}{m:Mach}{O:List aj}(bG:∀o∈O,o.upto O.length)(h0:O[2]?=some (.cells (aE u m)))(f:Fr)(hf:O[f.bW]?=some (.cells (aX f)))(hv:O[f.dx]?=some (.map (.int .i64) (f.vals.map ic)))
  (hu:∀e∈f.vals,SV.bp O.length e.2) (uT:f.bW≠f.dx) (t:Term) (hk:t.kind=1) (e:Edge) (he:t.to[0]?=some e) {O':List aj} (hC:bd Tryz.prog 129 O [.mp 2 0,.mp f.bW 0,e.enc] (fun r O1=>r=.cD []∧O1=O')) (hlen:O.length=O'.length) (oe:∀o∈O',o.upto O'.length):bd Tryz.prog 112 O [.mp 2 0,.mp f.bW 0,t.enc] (fun r O1=>r=.cD []∧O1=O'):=by
 have gL:=I hf;have TW:=I hv;have fo:=I h0;have eh:=hf;unfold aX at eh;have we:(Option.map SV.enc (iu f.vals t.arg)).getD (.agg [aI 0,aI 0,.aC 4 [] .ex,.v (.pointer none)])=ku f.vals t.arg:=rfl;have sU:bo [ae.v (.int .i64 0),.v (.int .i64 0),.aC 4 [] .ex,.v (.pointer none)] 0 (ku f.vals t.arg).cells=(ku f.vals t.arg).cells:=kv (fV _ _) rfl;have kG:=gv f.vals t.arg;have Ad:=(jO hu t.arg).aQ;generalize fk f.vals t.arg=V at *;rw[SV.gi]at Ad;rw[SV.ak]at kG;refine zf true O.length Tryz.func112 Tryz.ntmps112 ?_;dsimp only[Tmp,TypeId,slotsOf];refine aA (ah ?_);refine aY 5 ([aI t.kind,aI t.arg,aI t.n,aK t.cases,aH t.to]) [(0,.mp 2 0),(1,.mp f.bW 0),(5,.ip none [aI t.kind,aI t.arg,aI t.n,aK t.cases,aH t.to])] rfl (by rfl) (by omega) (by simp[bF,bh,Go.Av.look]) ?_ ?_ ?_
 ·exact bG
 ·simp[ae.upto,aw,gL,fo,az,Edge.ag]
 refine aS ?_;simp -dsimp only[simprocAttr,↓aa,zp,eh,hv,mJ,we,jW,fV,sU];refine⟨cg [f.bW,f.dx] O.length [.pure,.pure,.pure,.rd 0,.pure,.pure,.rd 1,.wr 2 [],.wr 3 [2]] (by simp[uT]) (by simp;omega) rfl rfl (by kernel_rfl),ba ?_⟩;simp -dsimp only[bS,ne_eq,Nat.reduceEqDiff,reduceCtorEq];refine aY 6 [aI V.kind,aI V.n,.aC 4 (V.list.map SV.enc) .sh,eP V.arr] [(0,.mp 2 0),(1,.mp f.bW 0),(5,.ip none [aI t.kind,aI t.arg,aI t.n,aK t.cases,aH t.to]),(6,.ip none [aI V.kind,aI V.n,.aC 4 (V.list.map SV.enc) .sh,eP V.arr])] rfl kG (by omega) (by simp[bF,bh,Go.Av.look]) bG ?_ ?_
 ·simp only[aw,ae.upto,true_and,and_true]at Ad;simp[ae.upto,aw,gL,fo,az,Edge.ag,Ad]
 refine aA (ah ?_);refine ai ?_;refine aA (ah ?_);apply aP rfl<;>intro h
 ·exact ab h (by omega)
 refine aA (ah ?_);apply aP rfl<;>intro h
 ·refine kC ?_;simp -dsimp only[simprocAttr,↓aa,zp,he];refine .inr (.inl ⟨_,_,hC,.inl (ao (zj ?_))⟩)
  (refine ba ?_;simp -dsimp only[bS,ne_eq,Nat.reduceEqDiff,reduceCtorEq])
  skip
  simp -dsimp only[simprocAttr,↓aa,zp,zr,Tryz.results112,hlen,List.take_length];exact⟨oe,trivial⟩
 exact af h (by omega)
theorem Gl{u:bY}{m:Mach}{O:List aj}(bG:∀o∈O,o.upto O.length)(h0:O[2]?=some (.cells (aE u m)))(f:Fr)(hf:O[f.bW]?=some (.cells (aX f)))(hv:O[f.dx]?=some (.map (.int .i64) (f.vals.map ic)))
  (hu:∀e∈f.vals,SV.bp O.length e.2) (uT:f.bW≠f.dx) (t:Term) (hk:t.kind=0) {O':List aj} (hC:bd Tryz.prog 130 O [.mp 2 0,.mp f.bW 0,(fk f.vals t.arg).enc] (fun r O1=>r=.cD []∧O1=O')) (hlen:O.length=O'.length) (oe:∀o∈O',o.upto O'.length):bd Tryz.prog 112 O [.mp 2 0,.mp f.bW 0,t.enc] (fun r O1=>r=.cD []∧O1=O'):=by
 have gL:=I hf;have TW:=I hv;have fo:=I h0;have eh:=hf;unfold aX at eh;have we:(Option.map SV.enc (iu f.vals t.arg)).getD (.agg [aI 0,aI 0,.aC 4 [] .ex,.v (.pointer none)])=ku f.vals t.arg:=rfl;have sU:bo [ae.v (.int .i64 0),.v (.int .i64 0),.aC 4 [] .ex,.v (.pointer none)] 0 (ku f.vals t.arg).cells=(ku f.vals t.arg).cells:=kv (fV _ _) rfl;have kG:=gv f.vals t.arg;have Ad:=(jO hu t.arg).aQ;generalize fk f.vals t.arg=V at *;rw[SV.gi]at Ad;rw[SV.ak]at kG;refine zf true O.length Tryz.func112 Tryz.ntmps112 ?_;dsimp only[Tmp,TypeId,slotsOf];refine aA (ah ?_);refine aY 5 ([aI t.kind,aI t.arg,aI t.n,aK t.cases,aH t.to]) [(0,.mp 2 0),(1,.mp f.bW 0),(5,.ip none [aI t.kind,aI t.arg,aI t.n,aK t.cases,aH t.to])] rfl (by rfl) (by omega) (by simp[bF,bh,Go.Av.look]) ?_ ?_ ?_
 ·exact bG
 ·simp[ae.upto,aw,gL,fo,az,Edge.ag]
 refine aS ?_;simp -dsimp only[simprocAttr,↓aa,zp,eh,hv,mJ,we,jW,fV,sU];refine⟨cg [f.bW,f.dx] O.length [.pure,.pure,.pure,.rd 0,.pure,.pure,.rd 1,.wr 2 [],.wr 3 [2]] (by simp[uT]) (by simp;omega) rfl rfl (by kernel_rfl),ba ?_⟩;simp -dsimp only[bS,ne_eq,Nat.reduceEqDiff,reduceCtorEq];refine aY 6 [aI V.kind,aI V.n,.aC 4 (V.list.map SV.enc) .sh,eP V.arr] [(0,.mp 2 0),(1,.mp f.bW 0),(5,.ip none [aI t.kind,aI t.arg,aI t.n,aK t.cases,aH t.to]),(6,.ip none [aI V.kind,aI V.n,.aC 4 (V.list.map SV.enc) .sh,eP V.arr])] rfl kG (by omega) (by simp[bF,bh,Go.Av.look]) bG ?_ ?_
 ·simp only[aw,ae.upto,true_and,and_true]at Ad;simp[ae.upto,aw,gL,fo,az,Edge.ag,Ad]
 refine aA (ah ?_);refine ai ?_;refine aA (ah ?_);apply aP rfl<;>intro h
 ·exact ab h (by omega)
 refine aA (ah ?_);apply aP rfl<;>intro h
 ·exact ab h (by omega)
 refine aA (ah ?_);apply aP rfl<;>intro h
 ·refine cT ?_;refine .inr (.inl ⟨_,_,hC,.inl (ao (zj ?_))⟩)
  (refine ba ?_;simp -dsimp only[bS,ne_eq,Nat.reduceEqDiff,reduceCtorEq])
  skip
  simp -dsimp only[simprocAttr,↓aa,zp,zr,Tryz.results112,hlen,List.take_length];exact⟨oe,trivial⟩
 exact af h (by omega)
theorem Kc{u:bY}{m:Mach}{O:List aj}(bG:∀o∈O,o.upto O.length)(h0:O[2]?=some (.cells (aE u m)))(f:Fr)(hf:O[f.bW]?=some (.cells (aX f)))(hv:O[f.dx]?=some (.map (.int .i64) (f.vals.map ic)))
  (hu:∀e∈f.vals,SV.bp O.length e.2) (uT:f.bW≠f.dx) (t:Term) (hk:t.kind≠0∧t.kind≠1∧t.kind≠4) (hV:(fk f.vals t.arg).kind≠0):bd Tryz.prog 112 O [.mp 2 0,.mp f.bW 0,t.enc] (fun r O'=>r=.cD []∧O'=O.set 2 (.cells (aE u (m.stop 5 0)))):=by
 have gL:=I hf;have TW:=I hv;have fo:=I h0;have eh:=hf;unfold aX at eh;have we:(Option.map SV.enc (iu f.vals t.arg)).getD (.agg [aI 0,aI 0,.aC 4 [] .ex,.v (.pointer none)])=ku f.vals t.arg:=rfl;have sU:bo [ae.v (.int .i64 0),.v (.int .i64 0),.aC 4 [] .ex,.v (.pointer none)] 0 (ku f.vals t.arg).cells=(ku f.vals t.arg).cells:=kv (fV _ _) rfl;have kG:=gv f.vals t.arg;have Ad:=(jO hu t.arg).aQ;generalize fk f.vals t.arg=V at *;rw[SV.gi]at Ad;rw[SV.ak]at kG;have kr:=k8 bG h0 5 0;have fJ:=bw bG h0 (ds:=aE u (m.stop 5 0)) (fun h=>bZ h rfl);have eH:=cA (O:=O) (k:=2) (x:=.cells (aE u (m.stop 5 0)));have hd:decide (V.kind=0)=false:=decide_eq_false hV;refine zf true O.length Tryz.func112 Tryz.ntmps112 ?_;dsimp only[Tmp,TypeId,slotsOf];refine aA (ah ?_);refine aY 5 ([aI t.kind,aI t.arg,aI t.n,aK t.cases,aH t.to]) [(0,.mp 2 0),(1,.mp f.bW 0),(5,.ip none [aI t.kind,aI t.arg,aI t.n,aK t.cases,aH t.to])] rfl (by rfl) (by omega) (by simp[bF,bh,Go.Av.look]) ?_ ?_ ?_
 ·exact bG
 ·simp[ae.upto,aw,gL,fo,az,Edge.ag]
 refine aS ?_;simp -dsimp only[simprocAttr,↓aa,zp,eh,hv,mJ,we,jW,fV,sU];refine⟨cg [f.bW,f.dx] O.length [.pure,.pure,.pure,.rd 0,.pure,.pure,.rd 1,.wr 2 [],.wr 3 [2]] (by simp[uT]) (by simp;omega) rfl rfl (by kernel_rfl),ba ?_⟩;simp -dsimp only[bS,ne_eq,Nat.reduceEqDiff,reduceCtorEq];refine aY 6 [aI V.kind,aI V.n,.aC 4 (V.list.map SV.enc) .sh,eP V.arr] [(0,.mp 2 0),(1,.mp f.bW 0),(5,.ip none [aI t.kind,aI t.arg,aI t.n,aK t.cases,aH t.to]),(6,.ip none [aI V.kind,aI V.n,.aC 4 (V.list.map SV.enc) .sh,eP V.arr])] rfl kG (by omega) (by simp[bF,bh,Go.Av.look]) bG ?_ ?_
 ·simp only[aw,ae.upto,true_and,and_true]at Ad;simp[ae.upto,aw,gL,fo,az,Edge.ag,Ad]
 refine aA (ah ?_);refine ai ?_;refine aA (ah ?_);apply aP rfl<;>intro h
 ·exact ab h (by omega)
 refine aA (ah ?_);apply aP rfl<;>intro h
 ·exact ab h (by omega)
 refine aA (ah ?_);apply aP rfl<;>intro h
 ·exact ab h (by omega)
 refine c9 ?_;simp -dsimp only[simprocAttr,↓aa,zp,hd];refine ah ?_;refine cH rfl ?_;refine aA ?_;refine .inr (.inl ⟨_,_,kr,.inl (ao (zj ?_))⟩);refine ah ?_;refine aq ?_;simp -dsimp only[simprocAttr,↓aa,zp,zr,Tryz.results112,eH,List.length_set];exact⟨fJ,trivial⟩
theorem Em{u:bY}{m:Mach}{O:List aj}(bG:∀o∈O,o.upto O.length)(h0:O[2]?=some (.cells (aE u m)))(f:Fr)(hf:O[f.bW]?=some (.cells (aX f)))(hv:O[f.dx]?=some (.map (.int .i64) (f.vals.map ic)))
  (hu:∀e∈f.vals,SV.bp O.length e.2) (uT:f.bW≠f.dx) (t:Term) (hk:t.kind≠0∧t.kind≠1∧t.kind≠4) (hV:(fk f.vals t.arg).kind=0) (gK:t.cases.length<=2 ^ 60) (e:Edge) (he:t.to[gJ t (fk f.vals t.arg).n]?=some e) {O':List aj} (hC:bd Tryz.prog 129 O [.mp 2 0,.mp f.bW 0,e.enc] (fun r O1=>r=.cD []∧O1=O')) (hlen:O.length=O'.length) (oe:∀o∈O',o.upto O'.length):bd Tryz.prog 112 O [.mp 2 0,.mp f.bW 0,t.enc] (fun r O1=>r=.cD []∧O1=O'):=by
 have gL:=I hf;have TW:=I hv;have fo:=I h0;have eh:=hf;unfold aX at eh;have we:(Option.map SV.enc (iu f.vals t.arg)).getD (.agg [aI 0,aI 0,.aC 4 [] .ex,.v (.pointer none)])=ku f.vals t.arg:=rfl;have sU:bo [ae.v (.int .i64 0),.v (.int .i64 0),.aC 4 [] .ex,.v (.pointer none)] 0 (ku f.vals t.arg).cells=(ku f.vals t.arg).cells:=kv (fV _ _) rfl;have kG:=gv f.vals t.arg;have Ad:=(jO hu t.arg).aQ;generalize fk f.vals t.arg=V at *;rw[SV.gi]at Ad;rw[SV.ak]at kG;have pD:=BK t V.n gK;generalize gJ t V.n=q at *;have hd:decide (V.kind=0)=true:=decide_eq_true hV;refine zf true O.length Tryz.func112 Tryz.ntmps112 ?_;dsimp only[Tmp,TypeId,slotsOf];refine aA (ah ?_);refine aY 5 ([aI t.kind,aI t.arg,aI t.n,aK t.cases,aH t.to]) [(0,.mp 2 0),(1,.mp f.bW 0),(5,.ip none [aI t.kind,aI t.arg,aI t.n,aK t.cases,aH t.to])] rfl (by rfl) (by omega) (by simp[bF,bh,Go.Av.look]) ?_ ?_ ?_
 ·exact bG
 ·simp[ae.upto,aw,gL,fo,az,Edge.ag]
 refine aS ?_;simp -dsimp only[simprocAttr,↓aa,zp,eh,hv,mJ,we,jW,fV,sU];refine⟨cg [f.bW,f.dx] O.length [.pure,.pure,.pure,.rd 0,.pure,.pure,.rd 1,.wr 2 [],.wr 3 [2]] (by simp[uT]) (by simp;omega) rfl rfl (by kernel_rfl),ba ?_⟩;simp -dsimp only[bS,ne_eq,Nat.reduceEqDiff,reduceCtorEq];refine aY 6 [aI V.kind,aI V.n,.aC 4 (V.list.map SV.enc) .sh,eP V.arr] [(0,.mp 2 0),(1,.mp f.bW 0),(5,.ip none [aI t.kind,aI t.arg,aI t.n,aK t.cases,aH t.to]),(6,.ip none [aI V.kind,aI V.n,.aC 4 (V.list.map SV.enc) .sh,eP V.arr])] rfl kG (by omega) (by simp[bF,bh,Go.Av.look]) bG ?_ ?_
 ·simp only[aw,ae.upto,true_and,and_true]at Ad;simp[ae.upto,aw,gL,fo,az,Edge.ag,Ad]
 refine aA (ah ?_);refine ai ?_;refine aA (ah ?_);apply aP rfl<;>intro h
 ·exact ab h (by omega)
 refine aA (ah ?_);apply aP rfl<;>intro h
 ·exact ab h (by omega)
 refine aA (ah ?_);apply aP rfl<;>intro h
 ·exact ab h (by omega)
 refine c9 ?_;simp -dsimp only[simprocAttr,↓aa,zp,hd];refine ah ?_;refine cr rfl ?_;refine cd ?_;refine cT ?_;refine .inl ⟨_,pD,by simp only[aw,ae.upto,zt,zu,az],ao ?_⟩;simp -dsimp only[simprocAttr,↓aa,zp,he];refine .inr (.inl ⟨_,_,hC,.inl (ao (zj ?_))⟩);refine⟨ob (by kernel_rfl),?_⟩
 (refine ba ?_;simp -dsimp only[bS,ne_eq,Nat.reduceEqDiff,reduceCtorEq])
 skip
 simp -dsimp only[simprocAttr,↓aa,zp,zr,Tryz.results112,hlen,List.take_length];exact⟨oe,trivial⟩
theorem qy(B:Block):ae.agg [aK B.params,bf B.ins,aI B.term.kind,aI B.term.arg,aI B.term.n,aK B.term.cases,aH B.term.to]=B.enc:=rfl
theorem step_end{u:bY}{m:Mach}{O:List aj}(bG:∀o∈O,o.upto O.length)(h0:O[2]?=some (.cells (aE u m)))(f:Fr)(r:List Fr)(dQ:m.frames=f::r)(hf:O[f.bW]?=some (.cells (aX f)))(vX:f.bW≠2)
  {cs:List ae} (fq:O[m.sid]?=some (.cells cs)) (fS:cs[r.length]?=some (.mp f.bW 0)) (yJ:r.length<=2 ^ 40) (F:Func) (hF:u.fns[f.fn.toNat]?=some F) (mV:0<=f.fn) (B:Block) (hB:F.blocks[f.blk.toNat]?=some B) (pW:0<=f.blk) (oN:f.pos=B.ins.length) {O':List aj} (hC:bd Tryz.prog 112 O [.mp 2 0,.mp f.bW 0,B.term.enc] (fun r O1=>r=.cD []∧O1=O')) (hlen:O.length<=O'.length) (oe:∀o∈O',o.upto O'.length) :
  bd Tryz.prog 83 O [.mp 2 0] (fun r O1=>r=.cD []∧O1=O'):=by
 have gL:=I hf;have fo:=I h0;have eh:=hf;unfold aX at eh;have mq:O[2]?=some (.cells [bn u.fns,aI u.main,.os m.sid (r.length+1) 1,aI m.left,.v (.bool m.short),.v (.bool m.over),.aC 1 (m.out.map aI) (.tok 3),aI m.fin,aI m.val]):=by
  rw[h0];unfold aE;rw[dQ];rfl
 have ux:((r.length+1:Nat):Int)-1=(r.length:Nat):=by omega
 refine dy hT true (O'.length) Tryz.func83 rfl (by kernel_rfl) (by simp[Tryz.ntmps83]) (by assumption) ?_;show cc Tryz.prog _ _ _ ⟨137,_,_⟩;dsimp only[Tmp,TypeId,slotsOf];refine aS ?_;simp -dsimp only[simprocAttr,↓aa,zp,mq,ux,Nat.mul_one,fq,fS]
 repeat(refine⟨by omega,?_⟩)
 refine⟨ob (by kernel_rfl),?_⟩;refine ah ?_;refine aS ?_;simp -dsimp only[simprocAttr,↓aa,zp,mq,eh,hF,hB,qy]
 repeat(refine⟨by omega,?_⟩)
 refine⟨cg [2,f.bW] O.length [.pure,.pure,.pure,.pure,.rd 0,.pure,.pure,.pure,.rd 1,.pure,.pure,.pure,.pure,.pure,.pure,.rd 1,.pure,.pure,.wr 2 [],.wr 3 [2]] (by simp;omega) (by simp;omega) rfl rfl (by kernel_rfl),ba ?_⟩;simp -dsimp only[bS,ne_eq,Nat.reduceEqDiff,reduceCtorEq];refine aY 3 ([aK B.params,bf B.ins,aI B.term.kind,aI B.term.arg,aI B.term.n,aK B.term.cases,aH B.term.to]) [(0,.mp 2 0),(2,.mp f.bW 0),(3,.ip none [aK B.params,bf B.ins,aI B.term.kind,aI B.term.arg,aI B.term.n,aK B.term.cases,aH B.term.to])] rfl (by rfl) (by omega) (by simp[bF,bh,Go.Av.look]) ?_ ?_ ?_
 ·exact bG
 ·simp[ae.upto,aw,gL,fo,az,Edge.ag,Ins.ag]
 refine c9 ?_;simp -dsimp only[simprocAttr,↓aa,zp,eh];refine⟨ob (by kernel_rfl),?_⟩;refine ah ?_;apply aP rfl<;>intro h
 ·refine aA ?_;refine .inr (.inl ⟨_,_,hC,.inl (ao (zj ?_))⟩);refine ah ?_;refine aq ?_;simp -dsimp only[simprocAttr,↓aa,zp,zr,Tryz.results83,List.take_length];exact⟨oe,trivial⟩
 exact af h (by omega)
theorem IS{u:bY}{m:Mach}{O:List aj}(bG:∀o∈O,o.upto O.length)(h0:O[2]?=some (.cells (aE u m)))(f:Fr)(r:List Fr)(dQ:m.frames=f::r)(hf:O[f.bW]?=some (.cells (aX f)))(vX:f.bW≠2)
  {cs:List ae} (fq:O[m.sid]?=some (.cells cs)) (fS:cs[r.length]?=some (.mp f.bW 0)) (yJ:r.length<=2 ^ 40) (F:Func) (hF:u.fns[f.fn.toNat]?=some F) (mV:0<=f.fn) (B:Block) (hB:F.blocks[f.blk.toNat]?=some B) (pW:0<=f.blk) (hv:O[f.dx]?=some (.map (.int .i64) (f.vals.map ic))) (uT:f.bW≠f.dx) (hu:∀e∈f.vals,SV.bp O.length e.2) (i:Ins) (hi:B.ins[f.pos]?=some i) (tH:f.pos<=2 ^ 41) (lK:i.args.length<=4096) (f':Fr) (fC:f' = { f with pos:=f.pos+1 }) (args:List SV) (fG:args=cB f.vals i.args) (O1:List aj) (dV:O1=O.set f.bW (.cells (aX f'))) (kq:i.op=13) {O':List aj} (hC:bd Tryz.prog 81 O1 [.mp 2 0,aI i.n,.aC 4 (args.map SV.enc) .sh,aI i.to] (fun r O2=>r=.cD []∧O2=O')) (hlen:O.length<=O'.length) (oe:∀o∈O',o.upto O'.length) :
  bd Tryz.prog 83 O [.mp 2 0] (fun r O1=>r=.cD []∧O1=O'):=by
 have gL:=I hf;have fo:=I h0;have eh:=hf;unfold aX at eh;have mq:O[2]?=some (.cells [bn u.fns,aI u.main,.os m.sid (r.length+1) 1,aI m.left,.v (.bool m.short),.v (.bool m.over),.aC 1 (m.out.map aI) (.tok 3),aI m.fin,aI m.val]):=by
  rw[h0];unfold aE;rw[dQ];rfl
 have ux:((r.length+1:Nat):Int)-1=(r.length:Nat):=by omega
 have KM:=I hi;have hs:=dz hf;have eO:O.length=O1.length:=by rw[dV];simp
 have lL:[aI f.fn,aI f.blk,aI ((f.pos:Int)+1),aI f.to,.mm f.dx]=aX f':=by
  rw[fC];simp[aX]
 have nq:O1[f'.bW]?=some (.cells (aX f')):=by rw[dV,fC];exact hs _
 have Co:O1[f'.dx]?=some (.map (.int .i64) (f'.vals.map ic)):=by rw[dV,fC];exact bx hv uT
 have eI:∀o∈O1,o.upto O1.length:=by
  rw[<-eO,dV];refine bw bG hf fun h=>?_;simp only[aX,aw,ae.upto,true_and,and_true]at h ⊢;rw[fC];exact h
 have ir:=jZ eI nq Co (by rw[fC,<-eO];exact hu) i.args lK;have kp:f'.bW=f.bW:=by rw[fC]
 have oP:f'.vals=f.vals:=by rw[fC]
 rw[kp,oP,<-fG]at ir;rw[kp]at nq;refine dy hT true (O'.length) Tryz.func83 rfl (by kernel_rfl) (by simp[Tryz.ntmps83]) (by assumption) ?_;show cc Tryz.prog _ _ _ ⟨137,_,_⟩;dsimp only[Tmp,TypeId,slotsOf];refine aS ?_;simp -dsimp only[simprocAttr,↓aa,zp,mq,ux,Nat.mul_one,fq,fS]
 repeat(refine⟨by omega,?_⟩)
 refine⟨ob (by kernel_rfl),?_⟩;refine ah ?_;refine aS ?_;simp -dsimp only[simprocAttr,↓aa,zp,mq,eh,hF,hB,qy]
 repeat(refine⟨by omega,?_⟩)
 refine⟨cg [2,f.bW] O.length [.pure,.pure,.pure,.pure,.rd 0,.pure,.pure,.pure,.rd 1,.pure,.pure,.pure,.pure,.pure,.pure,.rd 1,.pure,.pure,.wr 2 [],.wr 3 [2]] (by simp;omega) (by simp;omega) rfl rfl (by kernel_rfl),ba ?_⟩;simp -dsimp only[bS,ne_eq,Nat.reduceEqDiff,reduceCtorEq];refine aY 3 ([aK B.params,bf B.ins,aI B.term.kind,aI B.term.arg,aI B.term.n,aK B.term.cases,aH B.term.to]) [(0,.mp 2 0),(2,.mp f.bW 0),(3,.ip none [aK B.params,bf B.ins,aI B.term.kind,aI B.term.arg,aI B.term.n,aK B.term.cases,aH B.term.to])] rfl (by rfl) (by omega) (by simp[bF,bh,Go.Av.look]) ?_ ?_ ?_
 ·exact bG
 ·simp[ae.upto,aw,gL,fo,az,Edge.ag,Ins.ag]
 refine c9 ?_;simp -dsimp only[simprocAttr,↓aa,zp,eh];refine⟨ob (by kernel_rfl),?_⟩;refine ah ?_;apply aP rfl<;>intro h
 ·exact ab h (by omega)
 refine cd ?_;refine aS ?_;simp -dsimp only[simprocAttr,↓aa,zp,eh,hi,Int.toNat_natCast]
 repeat(refine⟨by omega,?_⟩)
 refine⟨cg [f.bW] O.length [.pure,.pure,.pure,.pure,.pure,.rd 0,.pure,.pure,.wr 1 [],.wr 2 [1]] (by simp) (by simp;omega) rfl rfl (by kernel_rfl),ba ?_⟩;simp -dsimp only[bS,ne_eq,Nat.reduceEqDiff,reduceCtorEq];refine aY 4 ([aI i.to,aI i.op,aI i.n,aK i.args]) [(0,.mp 2 0),(2,.mp f.bW 0),(4,.ip none [aI i.to,aI i.op,aI i.n,aK i.args])] rfl (by rfl) (by omega) (by simp[bF,bh,Go.Av.look]) ?_ ?_ ?_
 ·exact bG
 ·simp[ae.upto,aw,gL,fo,az]
 refine aS ?_;simp -dsimp only[simprocAttr,↓aa,zp,eh,hs,lL,<-dV]
 repeat(refine⟨by omega,?_⟩)
 refine ah ?_;refine aA ?_;refine .inr (.inr ⟨_,ir,ao (zj ?_)⟩);refine ah ?_;refine aA (ah ?_);refine ai ?_;refine aA (ah ?_);apply aP rfl<;>intro h
 ·refine cT ?_;refine .inr (.inl ⟨_,_,hC,.inl (ao (zj ?_))⟩)
  (refine ba ?_;simp -dsimp only[bS,ne_eq,Nat.reduceEqDiff,reduceCtorEq])
  skip
  simp -dsimp only[simprocAttr,↓aa,zp,zr,Tryz.results83,List.take_length];exact⟨oe,trivial⟩
 exact af h (by omega)
theorem L9{u:bY}{m:Mach}{O:List aj}(bG:∀o∈O,o.upto O.length)(h0:O[2]?=some (.cells (aE u m)))(f:Fr)(r:List Fr)(dQ:m.frames=f::r)(hf:O[f.bW]?=some (.cells (aX f)))(vX:f.bW≠2)
  {cs:List ae} (fq:O[m.sid]?=some (.cells cs)) (fS:cs[r.length]?=some (.mp f.bW 0)) (yJ:r.length<=2 ^ 40) (F:Func) (hF:u.fns[f.fn.toNat]?=some F) (mV:0<=f.fn) (B:Block) (hB:F.blocks[f.blk.toNat]?=some B) (pW:0<=f.blk) (hv:O[f.dx]?=some (.map (.int .i64) (f.vals.map ic))) (uT:f.bW≠f.dx) (hu:∀e∈f.vals,SV.bp O.length e.2) (i:Ins) (hi:B.ins[f.pos]?=some i) (tH:f.pos<=2 ^ 41) (lK:i.args.length<=4096) (f':Fr) (fC:f' = { f with pos:=f.pos+1 }) (args:List SV) (fG:args=cB f.vals i.args) (O1:List aj) (dV:O1=O.set f.bW (.cells (aX f'))) (kq:i.op=14) (c:SV) (Jb:args[0]?=some c) (hk:c.kind=2) (EI:0<=c.n) (G:Func) (hG:u.fns[c.n.toNat]?=some G) (D:Block) (hD:G.blocks[0]?=some D) (Jg:D.params.length=args.length) (Rf:∀v∈args,SV.bp O1.length v) {O':List aj} (hC:bd Tryz.prog 81 O1 [.mp 2 0,aI c.n,.aC 4 (args.map SV.enc) .sh,aI i.to] (fun r O2=>r=.cD []∧O2=O')) (hlen:O.length<=O'.length) (oe:∀o∈O',o.upto O'.length) (oL:O1[2]?=some (.cells (aE u m))) :
  bd Tryz.prog 83 O [.mp 2 0] (fun r O1=>r=.cD []∧O1=O'):=by
 have gL:=I hf;have fo:=I h0;have eh:=hf;unfold aX at eh;have mq:O[2]?=some (.cells [bn u.fns,aI u.main,.os m.sid (r.length+1) 1,aI m.left,.v (.bool m.short),.v (.bool m.over),.aC 1 (m.out.map aI) (.tok 3),aI m.fin,aI m.val]):=by
  rw[h0];unfold aE;rw[dQ];rfl
 have ux:((r.length+1:Nat):Int)-1=(r.length:Nat):=by omega
 have KM:=I hi;have hs:=dz hf;have eO:O.length=O1.length:=by rw[dV];simp
 have lL:[aI f.fn,aI f.blk,aI ((f.pos:Int)+1),aI f.to,.mm f.dx]=aX f':=by
  rw[fC];simp[aX]
 have nq:O1[f'.bW]?=some (.cells (aX f')):=by rw[dV,fC];exact hs _
 have Co:O1[f'.dx]?=some (.map (.int .i64) (f'.vals.map ic)):=by rw[dV,fC];exact bx hv uT
 have eI:∀o∈O1,o.upto O1.length:=by
  rw[<-eO,dV];refine bw bG hf fun h=>?_;simp only[aX,aw,ae.upto,true_and,and_true]at h ⊢;rw[fC];exact h
 have ir:=jZ eI nq Co (by rw[fC,<-eO];exact hu) i.args lK;have kp:f'.bW=f.bW:=by rw[fC]
 have oP:f'.vals=f.vals:=by rw[fC]
 rw[kp,oP,<-fG]at ir;rw[kp]at nq;unfold aE at oL;have hd:decide (c.kind=2)=true:=decide_eq_true hk;have pE:decide ((D.params.length:Int)=args.length)=true:=decide_eq_true (by omega);refine dy hT true (O'.length) Tryz.func83 rfl (by kernel_rfl) (by simp[Tryz.ntmps83]) (by assumption) ?_;show cc Tryz.prog _ _ _ ⟨137,_,_⟩;dsimp only[Tmp,TypeId,slotsOf];refine aS ?_;simp -dsimp only[simprocAttr,↓aa,zp,mq,ux,Nat.mul_one,fq,fS]
 repeat(refine⟨by omega,?_⟩)
 refine⟨ob (by kernel_rfl),?_⟩;refine ah ?_;refine aS ?_;simp -dsimp only[simprocAttr,↓aa,zp,mq,eh,hF,hB,qy]
 repeat(refine⟨by omega,?_⟩)
 refine⟨cg [2,f.bW] O.length [.pure,.pure,.pure,.pure,.rd 0,.pure,.pure,.pure,.rd 1,.pure,.pure,.pure,.pure,.pure,.pure,.rd 1,.pure,.pure,.wr 2 [],.wr 3 [2]] (by simp;omega) (by simp;omega) rfl rfl (by kernel_rfl),ba ?_⟩;simp -dsimp only[bS,ne_eq,Nat.reduceEqDiff,reduceCtorEq];refine aY 3 ([aK B.params,bf B.ins,aI B.term.kind,aI B.term.arg,aI B.term.n,aK B.term.cases,aH B.term.to]) [(0,.mp 2 0),(2,.mp f.bW 0),(3,.ip none [aK B.params,bf B.ins,aI B.term.kind,aI B.term.arg,aI B.term.n,aK B.term.cases,aH B.term.to])] rfl (by rfl) (by omega) (by simp[bF,bh,Go.Av.look]) ?_ ?_ ?_
 ·exact bG
 ·simp[ae.upto,aw,gL,fo,az,Edge.ag,Ins.ag]
 refine c9 ?_;simp -dsimp only[simprocAttr,↓aa,zp,eh];refine⟨ob (by kernel_rfl),?_⟩;refine ah ?_;apply aP rfl<;>intro h
 ·exact ab h (by omega)
 refine cd ?_;refine aS ?_;simp -dsimp only[simprocAttr,↓aa,zp,eh,hi,Int.toNat_natCast]
 repeat(refine⟨by omega,?_⟩)
 refine⟨cg [f.bW] O.length [.pure,.pure,.pure,.pure,.pure,.rd 0,.pure,.pure,.wr 1 [],.wr 2 [1]] (by simp) (by simp;omega) rfl rfl (by kernel_rfl),ba ?_⟩;simp -dsimp only[bS,ne_eq,Nat.reduceEqDiff,reduceCtorEq];refine aY 4 ([aI i.to,aI i.op,aI i.n,aK i.args]) [(0,.mp 2 0),(2,.mp f.bW 0),(4,.ip none [aI i.to,aI i.op,aI i.n,aK i.args])] rfl (by rfl) (by omega) (by simp[bF,bh,Go.Av.look]) ?_ ?_ ?_
 ·exact bG
 ·simp[ae.upto,aw,gL,fo,az]
 refine aS ?_;simp -dsimp only[simprocAttr,↓aa,zp,eh,hs,lL,<-dV]
 repeat(refine⟨by omega,?_⟩)
 refine ah ?_;refine aA ?_;refine .inr (.inr ⟨_,ir,ao (zj ?_)⟩);refine ah ?_;refine aA (ah ?_);refine ai ?_;refine aA (ah ?_);apply aP rfl<;>intro h
 ·exact ab h (by omega)
 refine aA (ah ?_);apply aP rfl<;>intro h
 ·refine aS ?_;simp -dsimp only[simprocAttr,↓aa,zp,Jb];refine ah ?_;refine aY 6 [aI c.kind,aI c.n,.aC 4 (c.list.map SV.enc) .sh,eP c.arr] [(0,.mp 2 0),(2,.mp f.bW 0),(4,.ip none [aI i.to,aI i.op,aI i.n,aK i.args]),(5,.aC 4 (args.map SV.enc) .sh),(6,.ip none [aI c.kind,aI c.n,.aC 4 (c.list.map SV.enc) .sh,eP c.arr])] rfl (by simp only[List.map_cons,List.map_nil,cK,b9,cn]) (by omega) (by simp[bF,bh,Go.Av.look]) eI ?_ ?_
  ·have uJ:=(Rf c (List.mem_of_getElem? Jb)).aQ;rw[SV.gi]at uJ;simp only[aw,ae.upto,true_and,and_true]at uJ;have Q2:=SV.ag Rf;simp[ae.upto,aw,<-eO,gL,fo,az,uJ,Q2];simp[eO,uJ,Q2]
  refine aS ?_;simp -dsimp only[simprocAttr,↓aa,zp,hd,oL,hG,hD,pE]
  repeat(refine⟨by omega,?_⟩)
  refine⟨ob (by kernel_rfl),?_⟩;refine ah ?_;refine cH rfl ?_;refine cT ?_;refine .inr (.inl ⟨_,_,hC,.inl (ao (zj ?_))⟩)
  (refine ba ?_;simp -dsimp only[bS,ne_eq,Nat.reduceEqDiff,reduceCtorEq])
  skip
  simp -dsimp only[simprocAttr,↓aa,zp,zr,Tryz.results83,List.take_length];exact⟨oe,trivial⟩
 exact af h (by omega)
theorem x9{u:bY}{m:Mach}{O:List aj}(bG:∀o∈O,o.upto O.length)(h0:O[2]?=some (.cells (aE u m)))(f:Fr)(r:List Fr)(dQ:m.frames=f::r)(hf:O[f.bW]?=some (.cells (aX f)))(vX:f.bW≠2)
  {cs:List ae} (fq:O[m.sid]?=some (.cells cs)) (fS:cs[r.length]?=some (.mp f.bW 0)) (yJ:r.length<=2 ^ 40) (F:Func) (hF:u.fns[f.fn.toNat]?=some F) (mV:0<=f.fn) (B:Block) (hB:F.blocks[f.blk.toNat]?=some B) (pW:0<=f.blk) (hv:O[f.dx]?=some (.map (.int .i64) (f.vals.map ic))) (uT:f.bW≠f.dx) (hu:∀e∈f.vals,SV.bp O.length e.2) (i:Ins) (hi:B.ins[f.pos]?=some i) (tH:f.pos<=2 ^ 41) (lK:i.args.length<=4096) (f':Fr) (fC:f' = { f with pos:=f.pos+1 }) (args:List SV) (fG:args=cB f.vals i.args) (O1:List aj) (dV:O1=O.set f.bW (.cells (aX f'))) (kq:i.op=14) (c:SV) (Jb:args[0]?=some c) (hk:c.kind≠2) (Rf:∀v∈args,SV.bp O1.length v) (oL:O1[2]?=some (.cells (aE u m))) :
  bd Tryz.prog 83 O [.mp 2 0] (fun r O2=>r=.cD []∧O2=O1.set 2 (.cells (aE u (m.stop 5 0)))):=by
 have gL:=I hf;have fo:=I h0;have eh:=hf;unfold aX at eh;have mq:O[2]?=some (.cells [bn u.fns,aI u.main,.os m.sid (r.length+1) 1,aI m.left,.v (.bool m.short),.v (.bool m.over),.aC 1 (m.out.map aI) (.tok 3),aI m.fin,aI m.val]):=by
  rw[h0];unfold aE;rw[dQ];rfl
 have ux:((r.length+1:Nat):Int)-1=(r.length:Nat):=by omega
 have KM:=I hi;have hs:=dz hf;have eO:O.length=O1.length:=by rw[dV];simp
 have lL:[aI f.fn,aI f.blk,aI ((f.pos:Int)+1),aI f.to,.mm f.dx]=aX f':=by
  rw[fC];simp[aX]
 have nq:O1[f'.bW]?=some (.cells (aX f')):=by rw[dV,fC];exact hs _
 have Co:O1[f'.dx]?=some (.map (.int .i64) (f'.vals.map ic)):=by rw[dV,fC];exact bx hv uT
 have eI:∀o∈O1,o.upto O1.length:=by
  rw[<-eO,dV];refine bw bG hf fun h=>?_;simp only[aX,aw,ae.upto,true_and,and_true]at h ⊢;rw[fC];exact h
 have ir:=jZ eI nq Co (by rw[fC,<-eO];exact hu) i.args lK;have kp:f'.bW=f.bW:=by rw[fC]
 have oP:f'.vals=f.vals:=by rw[fC]
 rw[kp,oP,<-fG]at ir;rw[kp]at nq;have gl:O.length<=O.length:=Nat.le_refl _;have kr:=k8 eI oL 5 0;have fJ:=bw eI oL (ds:=aE u (m.stop 5 0)) (fun h=>bZ h rfl);have eH:=cA (O:=O1) (k:=2) (x:=.cells (aE u (m.stop 5 0)));unfold aE at oL;have hd:decide (c.kind=2)=false:=decide_eq_false hk;refine dy hT true (O.length) Tryz.func83 rfl (by kernel_rfl) (by simp[Tryz.ntmps83]) (by assumption) ?_;show cc Tryz.prog _ _ _ ⟨137,_,_⟩;dsimp only[Tmp,TypeId,slotsOf];refine aS ?_;simp -dsimp only[simprocAttr,↓aa,zp,mq,ux,Nat.mul_one,fq,fS]
 repeat(refine⟨by omega,?_⟩)
 refine⟨ob (by kernel_rfl),?_⟩;refine ah ?_;refine aS ?_;simp -dsimp only[simprocAttr,↓aa,zp,mq,eh,hF,hB,qy]
 repeat(refine⟨by omega,?_⟩)
 refine⟨cg [2,f.bW] O.length [.pure,.pure,.pure,.pure,.rd 0,.pure,.pure,.pure,.rd 1,.pure,.pure,.pure,.pure,.pure,.pure,.rd 1,.pure,.pure,.wr 2 [],.wr 3 [2]] (by simp;omega) (by simp;omega) rfl rfl (by kernel_rfl),ba ?_⟩;simp -dsimp only[bS,ne_eq,Nat.reduceEqDiff,reduceCtorEq];refine aY 3 ([aK B.params,bf B.ins,aI B.term.kind,aI B.term.arg,aI B.term.n,aK B.term.cases,aH B.term.to]) [(0,.mp 2 0),(2,.mp f.bW 0),(3,.ip none [aK B.params,bf B.ins,aI B.term.kind,aI B.term.arg,aI B.term.n,aK B.term.cases,aH B.term.to])] rfl (by rfl) (by omega) (by simp[bF,bh,Go.Av.look]) ?_ ?_ ?_
 ·exact bG
 ·simp[ae.upto,aw,gL,fo,az,Edge.ag,Ins.ag]
 refine c9 ?_;simp -dsimp only[simprocAttr,↓aa,zp,eh];refine⟨ob (by kernel_rfl),?_⟩;refine ah ?_;apply aP rfl<;>intro h
 ·exact ab h (by omega)
 refine cd ?_;refine aS ?_;simp -dsimp only[simprocAttr,↓aa,zp,eh,hi,Int.toNat_natCast]
 repeat(refine⟨by omega,?_⟩)
 refine⟨cg [f.bW] O.length [.pure,.pure,.pure,.pure,.pure,.rd 0,.pure,.pure,.wr 1 [],.wr 2 [1]] (by simp) (by simp;omega) rfl rfl (by kernel_rfl),ba ?_⟩;simp -dsimp only[bS,ne_eq,Nat.reduceEqDiff,reduceCtorEq];refine aY 4 ([aI i.to,aI i.op,aI i.n,aK i.args]) [(0,.mp 2 0),(2,.mp f.bW 0),(4,.ip none [aI i.to,aI i.op,aI i.n,aK i.args])] rfl (by rfl) (by omega) (by simp[bF,bh,Go.Av.look]) ?_ ?_ ?_
 ·exact bG
 ·simp[ae.upto,aw,gL,fo,az]
 refine aS ?_;simp -dsimp only[simprocAttr,↓aa,zp,eh,hs,lL,<-dV]
 repeat(refine⟨by omega,?_⟩)
 refine ah ?_;refine aA ?_;refine .inr (.inr ⟨_,ir,ao (zj ?_)⟩);refine ah ?_;refine aA (ah ?_);refine ai ?_;refine aA (ah ?_);apply aP rfl<;>intro h
 ·exact ab h (by omega)
 refine aA (ah ?_);apply aP rfl<;>intro h
 ·refine aS ?_;simp -dsimp only[simprocAttr,↓aa,zp,Jb];refine ah ?_;refine aY 6 [aI c.kind,aI c.n,.aC 4 (c.list.map SV.enc) .sh,eP c.arr] [(0,.mp 2 0),(2,.mp f.bW 0),(4,.ip none [aI i.to,aI i.op,aI i.n,aK i.args]),(5,.aC 4 (args.map SV.enc) .sh),(6,.ip none [aI c.kind,aI c.n,.aC 4 (c.list.map SV.enc) .sh,eP c.arr])] rfl (by simp only[List.map_cons,List.map_nil,cK,b9,cn]) (by omega) (by simp[bF,bh,Go.Av.look]) eI ?_ ?_
  ·have uJ:=(Rf c (List.mem_of_getElem? Jb)).aQ;rw[SV.gi]at uJ;simp only[aw,ae.upto,true_and,and_true]at uJ;have Q2:=SV.ag Rf;simp[ae.upto,aw,<-eO,gL,fo,az,uJ,Q2];simp[eO,uJ,Q2]
  refine aS ?_;simp -dsimp only[simprocAttr,↓aa,zp,hd]
  repeat(refine⟨by omega,?_⟩)
  refine⟨ob (by kernel_rfl),?_⟩;refine ah ?_;refine cr rfl ?_;refine cT ?_;refine .inr (.inl ⟨_,_,kr,.inl (ao ?_)⟩);simp -dsimp only[simprocAttr,↓aa,zp,eO]
  (refine ba ?_;simp -dsimp only[bS,ne_eq,Nat.reduceEqDiff,reduceCtorEq])
  skip
  simp -dsimp only[simprocAttr,↓aa,zp,zr,Tryz.results83,eH,List.length_set,eO];exact⟨fJ,trivial⟩
 exact af h (by omega)
theorem A1{u:bY}{m:Mach}{O:List aj}(bG:∀o∈O,o.upto O.length)(h0:O[2]?=some (.cells (aE u m)))(f:Fr)(r:List Fr)(dQ:m.frames=f::r)(hf:O[f.bW]?=some (.cells (aX f)))(vX:f.bW≠2)
  {cs:List ae} (fq:O[m.sid]?=some (.cells cs)) (fS:cs[r.length]?=some (.mp f.bW 0)) (yJ:r.length<=2 ^ 40) (F:Func) (hF:u.fns[f.fn.toNat]?=some F) (mV:0<=f.fn) (B:Block) (hB:F.blocks[f.blk.toNat]?=some B) (pW:0<=f.blk) (hv:O[f.dx]?=some (.map (.int .i64) (f.vals.map ic))) (uT:f.bW≠f.dx) (hu:∀e∈f.vals,SV.bp O.length e.2) (i:Ins) (hi:B.ins[f.pos]?=some i) (tH:f.pos<=2 ^ 41) (lK:i.args.length<=4096) (f':Fr) (fC:f' = { f with pos:=f.pos+1 }) (args:List SV) (fG:args=cB f.vals i.args) (O1:List aj) (dV:O1=O.set f.bW (.cells (aX f'))) (kq:i.op=14) (c:SV) (Jb:args[0]?=some c) (hk:c.kind=2) (EI:0<=c.n) (G:Func) (hG:u.fns[c.n.toNat]?=some G) (D:Block) (hD:G.blocks[0]?=some D) (Jg:D.params.length≠args.length) (Rf:∀v∈args,SV.bp O1.length v) (oL:O1[2]?=some (.cells (aE u m))) :
  bd Tryz.prog 83 O [.mp 2 0] (fun r O2=>r=.cD []∧O2=O1.set 2 (.cells (aE u (m.stop 5 0)))):=by
 have gL:=I hf;have fo:=I h0;have eh:=hf;unfold aX at eh;have mq:O[2]?=some (.cells [bn u.fns,aI u.main,.os m.sid (r.length+1) 1,aI m.left,.v (.bool m.short),.v (.bool m.over),.aC 1 (m.out.map aI) (.tok 3),aI m.fin,aI m.val]):=by
  rw[h0];unfold aE;rw[dQ];rfl
 have ux:((r.length+1:Nat):Int)-1=(r.length:Nat):=by omega
 have KM:=I hi;have hs:=dz hf;have eO:O.length=O1.length:=by rw[dV];simp
 have lL:[aI f.fn,aI f.blk,aI ((f.pos:Int)+1),aI f.to,.mm f.dx]=aX f':=by
  rw[fC];simp[aX]
 have nq:O1[f'.bW]?=some (.cells (aX f')):=by rw[dV,fC];exact hs _
 have Co:O1[f'.dx]?=some (.map (.int .i64) (f'.vals.map ic)):=by rw[dV,fC];exact bx hv uT
 have eI:∀o∈O1,o.upto O1.length:=by
  rw[<-eO,dV];refine bw bG hf fun h=>?_;simp only[aX,aw,ae.upto,true_and,and_true]at h ⊢;rw[fC];exact h
 have ir:=jZ eI nq Co (by rw[fC,<-eO];exact hu) i.args lK;have kp:f'.bW=f.bW:=by rw[fC]
 have oP:f'.vals=f.vals:=by rw[fC]
 rw[kp,oP,<-fG]at ir;rw[kp]at nq;have gl:O.length<=O.length:=Nat.le_refl _;have kr:=k8 eI oL 5 0;have fJ:=bw eI oL (ds:=aE u (m.stop 5 0)) (fun h=>bZ h rfl);have eH:=cA (O:=O1) (k:=2) (x:=.cells (aE u (m.stop 5 0)));unfold aE at oL;have hd:decide (c.kind=2)=true:=decide_eq_true hk;have pE:decide ((D.params.length:Int)=args.length)=false:=decide_eq_false (by omega);refine dy hT true (O.length) Tryz.func83 rfl (by kernel_rfl) (by simp[Tryz.ntmps83]) (by assumption) ?_;show cc Tryz.prog _ _ _ ⟨137,_,_⟩;dsimp only[Tmp,TypeId,slotsOf];refine aS ?_;simp -dsimp only[simprocAttr,↓aa,zp,mq,ux,Nat.mul_one,fq,fS]
 repeat(refine⟨by omega,?_⟩)
 refine⟨ob (by kernel_rfl),?_⟩;refine ah ?_;refine aS ?_;simp -dsimp only[simprocAttr,↓aa,zp,mq,eh,hF,hB,qy]
 repeat(refine⟨by omega,?_⟩)
 refine⟨cg [2,f.bW] O.length [.pure,.pure,.pure,.pure,.rd 0,.pure,.pure,.pure,.rd 1,.pure,.pure,.pure,.pure,.pure,.pure,.rd 1,.pure,.pure,.wr 2 [],.wr 3 [2]] (by simp;omega) (by simp;omega) rfl rfl (by kernel_rfl),ba ?_⟩;simp -dsimp only[bS,ne_eq,Nat.reduceEqDiff,reduceCtorEq];refine aY 3 ([aK B.params,bf B.ins,aI B.term.kind,aI B.term.arg,aI B.term.n,aK B.term.cases,aH B.term.to]) [(0,.mp 2 0),(2,.mp f.bW 0),(3,.ip none [aK B.params,bf B.ins,aI B.term.kind,aI B.term.arg,aI B.term.n,aK B.term.cases,aH B.term.to])] rfl (by rfl) (by omega) (by simp[bF,bh,Go.Av.look]) ?_ ?_ ?_
 ·exact bG
 ·simp[ae.upto,aw,gL,fo,az,Edge.ag,Ins.ag]
 refine c9 ?_;simp -dsimp only[simprocAttr,↓aa,zp,eh];refine⟨ob (by kernel_rfl),?_⟩;refine ah ?_;apply aP rfl<;>intro h
 ·exact ab h (by omega)
 refine cd ?_;refine aS ?_;simp -dsimp only[simprocAttr,↓aa,zp,eh,hi,Int.toNat_natCast]
 repeat(refine⟨by omega,?_⟩)
 refine⟨cg [f.bW] O.length [.pure,.pure,.pure,.pure,.pure,.rd 0,.pure,.pure,.wr 1 [],.wr 2 [1]] (by simp) (by simp;omega) rfl rfl (by kernel_rfl),ba ?_⟩;simp -dsimp only[bS,ne_eq,Nat.reduceEqDiff,reduceCtorEq];refine aY 4 ([aI i.to,aI i.op,aI i.n,aK i.args]) [(0,.mp 2 0),(2,.mp f.bW 0),(4,.ip none [aI i.to,aI i.op,aI i.n,aK i.args])] rfl (by rfl) (by omega) (by simp[bF,bh,Go.Av.look]) ?_ ?_ ?_
 ·exact bG
 ·simp[ae.upto,aw,gL,fo,az]
 refine aS ?_;simp -dsimp only[simprocAttr,↓aa,zp,eh,hs,lL,<-dV]
 repeat(refine⟨by omega,?_⟩)
 refine ah ?_;refine aA ?_;refine .inr (.inr ⟨_,ir,ao (zj ?_)⟩);refine ah ?_;refine aA (ah ?_);refine ai ?_;refine aA (ah ?_);apply aP rfl<;>intro h
 ·exact ab h (by omega)
 refine aA (ah ?_);apply aP rfl<;>intro h
 ·refine aS ?_;simp -dsimp only[simprocAttr,↓aa,zp,Jb];refine ah ?_;refine aY 6 [aI c.kind,aI c.n,.aC 4 (c.list.map SV.enc) .sh,eP c.arr] [(0,.mp 2 0),(2,.mp f.bW 0),(4,.ip none [aI i.to,aI i.op,aI i.n,aK i.args]),(5,.aC 4 (args.map SV.enc) .sh),(6,.ip none [aI c.kind,aI c.n,.aC 4 (c.list.map SV.enc) .sh,eP c.arr])] rfl (by simp only[List.map_cons,List.map_nil,cK,b9,cn]) (by omega) (by simp[bF,bh,Go.Av.look]) eI ?_ ?_
  ·have uJ:=(Rf c (List.mem_of_getElem? Jb)).aQ;rw[SV.gi]at uJ;simp only[aw,ae.upto,true_and,and_true]at uJ;have Q2:=SV.ag Rf;simp[ae.upto,aw,<-eO,gL,fo,az,uJ,Q2];simp[eO,uJ,Q2]
  refine aS ?_;simp -dsimp only[simprocAttr,↓aa,zp,hd,oL,hG,hD,pE]
  repeat(refine⟨by omega,?_⟩)
  refine⟨ob (by kernel_rfl),?_⟩;refine ah ?_;refine cr rfl ?_;refine cT ?_;refine .inr (.inl ⟨_,_,kr,.inl (ao ?_)⟩);simp -dsimp only[simprocAttr,↓aa,zp,eO]
  (refine ba ?_;simp -dsimp only[bS,ne_eq,Nat.reduceEqDiff,reduceCtorEq])
  skip
  simp -dsimp only[simprocAttr,↓aa,zp,zr,Tryz.results83,eH,List.length_set,eO];exact⟨fJ,trivial⟩
 exact af h (by omega)
theorem IT{u:bY}{m:Mach}{O:List aj}(bG:∀o∈O,o.upto O.length)(h0:O[2]?=some (.cells (aE u m)))(f:Fr)(r:List Fr)(dQ:m.frames=f::r)(hf:O[f.bW]?=some (.cells (aX f)))(vX:f.bW≠2)
  {cs:List ae} (fq:O[m.sid]?=some (.cells cs)) (fS:cs[r.length]?=some (.mp f.bW 0)) (yJ:r.length<=2 ^ 40) (F:Func) (hF:u.fns[f.fn.toNat]?=some F) (mV:0<=f.fn) (B:Block) (hB:F.blocks[f.blk.toNat]?=some B) (pW:0<=f.blk) (hv:O[f.dx]?=some (.map (.int .i64) (f.vals.map ic))) (uT:f.bW≠f.dx) (hu:∀e∈f.vals,SV.bp O.length e.2) (i:Ins) (hi:B.ins[f.pos]?=some i) (tH:f.pos<=2 ^ 41) (lK:i.args.length<=4096) (f':Fr) (fC:f' = { f with pos:=f.pos+1 }) (args:List SV) (fG:args=cB f.vals i.args) (O1:List aj) (dV:O1=O.set f.bW (.cells (aX f'))) (kq:i.op≠13∧i.op≠14) {O2:List aj} (v:SV) (t:Int) (hC:bd Tryz.prog 115 O1 [.mp 2 0,i.enc,.aC 4 (args.map SV.enc) .sh] (fun r O3=>r=.cD [v.enc,aI t]∧O3=O2)) (hlen:O.length<=O2.length) (fJ:∀o∈O2,o.upto O2.length) (qH:SV.bp O2.length v) (m2:Mach) (Uy:O2[2]?=some (.cells (aE u m2)))
  (HN:O2[f.bW]?=some (.cells (aX f'))) (Wa:O2[f.dx]?=some (.map (.int .i64) (f.vals.map ic))) (uO:∀e∈f.vals,SV.bp O2.length e.2) (nm0:f.dx≠2) (ht:t=0) :
  bd Tryz.prog 83 O [.mp 2 0] (fun r O3=>r=.cD []∧O3=O2.set f.dx (.map (.int .i64) ((cJ f.vals i.to v).map ic))):=by
 have gL:=I hf;have fo:=I h0;have eh:=hf;unfold aX at eh;have mq:O[2]?=some (.cells [bn u.fns,aI u.main,.os m.sid (r.length+1) 1,aI m.left,.v (.bool m.short),.v (.bool m.over),.aC 1 (m.out.map aI) (.tok 3),aI m.fin,aI m.val]):=by
  rw[h0];unfold aE;rw[dQ];rfl
 have ux:((r.length+1:Nat):Int)-1=(r.length:Nat):=by omega
 have KM:=I hi;have hs:=dz hf;have eO:O.length=O1.length:=by rw[dV];simp
 have lL:[aI f.fn,aI f.blk,aI ((f.pos:Int)+1),aI f.to,.mm f.dx]=aX f':=by
  rw[fC];simp[aX]
 have nq:O1[f'.bW]?=some (.cells (aX f')):=by rw[dV,fC];exact hs _
 have Co:O1[f'.dx]?=some (.map (.int .i64) (f'.vals.map ic)):=by rw[dV,fC];exact bx hv uT
 have eI:∀o∈O1,o.upto O1.length:=by
  rw[<-eO,dV];refine bw bG hf fun h=>?_;simp only[aX,aw,ae.upto,true_and,and_true]at h ⊢;rw[fC];exact h
 have ir:=jZ eI nq Co (by rw[fC,<-eO];exact hu) i.args lK;have kp:f'.bW=f.bW:=by rw[fC]
 have oP:f'.vals=f.vals:=by rw[fC]
 rw[kp,oP,<-fG]at ir;rw[kp]at nq;have Sj:=I HN;have Sx:=I Uy;have SQ:=qH.aQ;rw[SV.gi]at SQ;simp only[aw,ae.upto,true_and,and_true]at SQ;have hd:decide (t=0)=true:=decide_eq_true ht;have Vh:aX f'=[aI f.fn,aI f.blk,aI ((f.pos:Int)+1),aI f.to,.mm f.dx]:=lL.symm;have KR:lD O2.length ((cJ f.vals i.to v).map ic):=BU fun x hx=>by
  rcases jU hx with q|q
  ·exact uO x q
  rw[q];exact qH
 rw[Vh]at HN;have Cm:=bz (k:=f.dx) (x:=.map (.int .i64) ((cJ f.vals i.to v).map ic)) fJ KR;have eH:=cA (O:=O2) (k:=f.dx) (x:=.map (.int .i64) ((cJ f.vals i.to v).map ic));refine dy hT true (O2.length) Tryz.func83 rfl (by kernel_rfl) (by simp[Tryz.ntmps83]) (by assumption) ?_;show cc Tryz.prog _ _ _ ⟨137,_,_⟩;dsimp only[Tmp,TypeId,slotsOf];refine aS ?_;simp -dsimp only[simprocAttr,↓aa,zp,mq,ux,Nat.mul_one,fq,fS]
 repeat(refine⟨by omega,?_⟩)
 refine⟨ob (by kernel_rfl),?_⟩;refine ah ?_;refine aS ?_;simp -dsimp only[simprocAttr,↓aa,zp,mq,eh,hF,hB,qy]
 repeat(refine⟨by omega,?_⟩)
 refine⟨cg [2,f.bW] O.length [.pure,.pure,.pure,.pure,.rd 0,.pure,.pure,.pure,.rd 1,.pure,.pure,.pure,.pure,.pure,.pure,.rd 1,.pure,.pure,.wr 2 [],.wr 3 [2]] (by simp;omega) (by simp;omega) rfl rfl (by kernel_rfl),ba ?_⟩;simp -dsimp only[bS,ne_eq,Nat.reduceEqDiff,reduceCtorEq];refine aY 3 ([aK B.params,bf B.ins,aI B.term.kind,aI B.term.arg,aI B.term.n,aK B.term.cases,aH B.term.to]) [(0,.mp 2 0),(2,.mp f.bW 0),(3,.ip none [aK B.params,bf B.ins,aI B.term.kind,aI B.term.arg,aI B.term.n,aK B.term.cases,aH B.term.to])] rfl (by rfl) (by omega) (by simp[bF,bh,Go.Av.look]) ?_ ?_ ?_
 ·exact bG
 ·simp[ae.upto,aw,gL,fo,az,Edge.ag,Ins.ag]
 refine c9 ?_;simp -dsimp only[simprocAttr,↓aa,zp,eh];refine⟨ob (by kernel_rfl),?_⟩;refine ah ?_;apply aP rfl<;>intro h
 ·exact ab h (by omega)
 refine cd ?_;refine aS ?_;simp -dsimp only[simprocAttr,↓aa,zp,eh,hi,Int.toNat_natCast]
 repeat(refine⟨by omega,?_⟩)
 refine⟨cg [f.bW] O.length [.pure,.pure,.pure,.pure,.pure,.rd 0,.pure,.pure,.wr 1 [],.wr 2 [1]] (by simp) (by simp;omega) rfl rfl (by kernel_rfl),ba ?_⟩;simp -dsimp only[bS,ne_eq,Nat.reduceEqDiff,reduceCtorEq];refine aY 4 ([aI i.to,aI i.op,aI i.n,aK i.args]) [(0,.mp 2 0),(2,.mp f.bW 0),(4,.ip none [aI i.to,aI i.op,aI i.n,aK i.args])] rfl (by rfl) (by omega) (by simp[bF,bh,Go.Av.look]) ?_ ?_ ?_
 ·exact bG
 ·simp[ae.upto,aw,gL,fo,az]
 refine aS ?_;simp -dsimp only[simprocAttr,↓aa,zp,eh,hs,lL,<-dV]
 repeat(refine⟨by omega,?_⟩)
 refine ah ?_;refine aA ?_;refine .inr (.inr ⟨_,ir,ao (zj ?_)⟩);refine ah ?_;refine aA (ah ?_);refine ai ?_;refine aA (ah ?_);apply aP rfl<;>intro h
 ·exact ab h (by omega)
 refine aA (ah ?_);apply aP rfl<;>intro h
 ·exact ab h (by omega)
 refine aA ?_;refine .inr (.inl ⟨_,_,hC,.inl (ao (zj ?_))⟩);refine ah ?_;refine aY 7 [aI v.kind,aI v.n,.aC 4 (v.list.map SV.enc) .sh,eP v.arr] [(0,.mp 2 0),(2,.mp f.bW 0),(4,.ip none [aI i.to,aI i.op,aI i.n,aK i.args]),(7,.ip none [aI v.kind,aI v.n,.aC 4 (v.list.map SV.enc) .sh,eP v.arr]),(8,aI t)] rfl (by simp only[List.map_cons,List.map_nil,cK,b9,cn]) (by omega) (by simp[bF,bh,Go.Av.look]) fJ ?_ ?_
 ·simp[ae.upto,aw,Sj,Sx,az,SQ]
 refine c9 ?_;simp -dsimp only[simprocAttr,↓aa,zp,hd];refine ah ?_;refine cr rfl ?_;refine cd ?_;refine kC ?_;simp -dsimp only[simprocAttr,↓aa,zp,HN,Wa,rZ];refine⟨ob (by kernel_rfl),?_⟩
 (refine ba ?_;simp -dsimp only[bS,ne_eq,Nat.reduceEqDiff,reduceCtorEq])
 skip
 simp -dsimp only[simprocAttr,↓aa,zp,zr,Tryz.results83,eH,List.length_set];exact⟨Cm,trivial⟩
theorem IV{u:bY}{m:Mach}{O:List aj}(bG:∀o∈O,o.upto O.length)(h0:O[2]?=some (.cells (aE u m)))(f:Fr)(r:List Fr)(dQ:m.frames=f::r)(hf:O[f.bW]?=some (.cells (aX f)))(vX:f.bW≠2)
  {cs:List ae} (fq:O[m.sid]?=some (.cells cs)) (fS:cs[r.length]?=some (.mp f.bW 0)) (yJ:r.length<=2 ^ 40) (F:Func) (hF:u.fns[f.fn.toNat]?=some F) (mV:0<=f.fn) (B:Block) (hB:F.blocks[f.blk.toNat]?=some B) (pW:0<=f.blk) (hv:O[f.dx]?=some (.map (.int .i64) (f.vals.map ic))) (uT:f.bW≠f.dx) (hu:∀e∈f.vals,SV.bp O.length e.2) (i:Ins) (hi:B.ins[f.pos]?=some i) (tH:f.pos<=2 ^ 41) (lK:i.args.length<=4096) (f':Fr) (fC:f' = { f with pos:=f.pos+1 }) (args:List SV) (fG:args=cB f.vals i.args) (O1:List aj) (dV:O1=O.set f.bW (.cells (aX f'))) (kq:i.op≠13∧i.op≠14) {O2:List aj} (v:SV) (t:Int) (hC:bd Tryz.prog 115 O1 [.mp 2 0,i.enc,.aC 4 (args.map SV.enc) .sh] (fun r O3=>r=.cD [v.enc,aI t]∧O3=O2)) (hlen:O.length<=O2.length) (fJ:∀o∈O2,o.upto O2.length) (qH:SV.bp O2.length v) (m2:Mach) (Uy:O2[2]?=some (.cells (aE u m2)))
  (HN:O2[f.bW]?=some (.cells (aX f'))) (Wa:O2[f.dx]?=some (.map (.int .i64) (f.vals.map ic))) (uO:∀e∈f.vals,SV.bp O2.length e.2) (nm0:f.dx≠2) (ht:t≠0) :
  bd Tryz.prog 83 O [.mp 2 0] (fun r O3=>r=.cD []∧O3=(O2.set 2 (.cells (aE u (m2.stop t 0)))).set f.dx (.map (.int .i64) ((cJ f.vals i.to v).map ic))):=by
 have gL:=I hf;have fo:=I h0;have eh:=hf;unfold aX at eh;have mq:O[2]?=some (.cells [bn u.fns,aI u.main,.os m.sid (r.length+1) 1,aI m.left,.v (.bool m.short),.v (.bool m.over),.aC 1 (m.out.map aI) (.tok 3),aI m.fin,aI m.val]):=by
  rw[h0];unfold aE;rw[dQ];rfl
 have ux:((r.length+1:Nat):Int)-1=(r.length:Nat):=by omega
 have KM:=I hi;have hs:=dz hf;have eO:O.length=O1.length:=by rw[dV];simp
 have lL:[aI f.fn,aI f.blk,aI ((f.pos:Int)+1),aI f.to,.mm f.dx]=aX f':=by
  rw[fC];simp[aX]
 have nq:O1[f'.bW]?=some (.cells (aX f')):=by rw[dV,fC];exact hs _
 have Co:O1[f'.dx]?=some (.map (.int .i64) (f'.vals.map ic)):=by rw[dV,fC];exact bx hv uT
 have eI:∀o∈O1,o.upto O1.length:=by
  rw[<-eO,dV];refine bw bG hf fun h=>?_;simp only[aX,aw,ae.upto,true_and,and_true]at h ⊢;rw[fC];exact h
 have ir:=jZ eI nq Co (by rw[fC,<-eO];exact hu) i.args lK;have kp:f'.bW=f.bW:=by rw[fC]
 have oP:f'.vals=f.vals:=by rw[fC]
 rw[kp,oP,<-fG]at ir;rw[kp]at nq;have Sj:=I HN;have Sx:=I Uy;have SQ:=qH.aQ;rw[SV.gi]at SQ;simp only[aw,ae.upto,true_and,and_true]at SQ;have hd:decide (t=0)=false:=decide_eq_false ht;have Vh:aX f'=[aI f.fn,aI f.blk,aI ((f.pos:Int)+1),aI f.to,.mm f.dx]:=lL.symm;have KR:lD O2.length ((cJ f.vals i.to v).map ic):=BU fun x hx=>by
  rcases jU hx with q|q
  ·exact uO x q
  rw[q];exact qH
 have kr:=k8 fJ Uy t 0;obtain⟨O3,UG⟩:∃O3,O3=O2.set 2 (.cells (aE u (m2.stop t 0))):=⟨_,rfl⟩
 have Q0:O2.length=O3.length:=by rw[UG];simp
 rw[<-UG]at kr ⊢;have ZX:O3[f.bW]?=some (.cells (aX f')):=by rw[UG];exact bx HN vX.symm
 have hv3:O3[f.dx]?=some (.map (.int .i64) (f.vals.map ic)):=by rw[UG];exact bx Wa nm0.symm
 rw[Vh]at ZX;have Cm:∀o∈O3.set f.dx (.map (.int .i64) ((cJ f.vals i.to v).map ic)),o.upto O3.length:=by
  rw[<-Q0];refine bz ?_ KR;rw[UG];exact bw fJ Uy (fun h=>bZ h rfl)
 have eH:=cA (O:=O3) (k:=f.dx) (x:=.map (.int .i64) ((cJ f.vals i.to v).map ic));refine dy hT true (O2.length) Tryz.func83 rfl (by kernel_rfl) (by simp[Tryz.ntmps83]) (by assumption) ?_;show cc Tryz.prog _ _ _ ⟨137,_,_⟩;dsimp only[Tmp,TypeId,slotsOf];refine aS ?_;simp -dsimp only[simprocAttr,↓aa,zp,mq,ux,Nat.mul_one,fq,fS]
 repeat(refine⟨by omega,?_⟩)
 refine⟨ob (by kernel_rfl),?_⟩;refine ah ?_;refine aS ?_;simp -dsimp only[simprocAttr,↓aa,zp,mq,eh,hF,hB,qy]
 repeat(refine⟨by omega,?_⟩)
 refine⟨cg [2,f.bW] O.length [.pure,.pure,.pure,.pure,.rd 0,.pure,.pure,.pure,.rd 1,.pure,.pure,.pure,.pure,.pure,.pure,.rd 1,.pure,.pure,.wr 2 [],.wr 3 [2]] (by simp;omega) (by simp;omega) rfl rfl (by kernel_rfl),ba ?_⟩;simp -dsimp only[bS,ne_eq,Nat.reduceEqDiff,reduceCtorEq];refine aY 3 ([aK B.params,bf B.ins,aI B.term.kind,aI B.term.arg,aI B.term.n,aK B.term.cases,aH B.term.to]) [(0,.mp 2 0),(2,.mp f.bW 0),(3,.ip none [aK B.params,bf B.ins,aI B.term.kind,aI B.term.arg,aI B.term.n,aK B.term.cases,aH B.term.to])] rfl (by rfl) (by omega) (by simp[bF,bh,Go.Av.look]) ?_ ?_ ?_
 ·exact bG
 ·simp[ae.upto,aw,gL,fo,az,Edge.ag,Ins.ag]
 refine c9 ?_;simp -dsimp only[simprocAttr,↓aa,zp,eh];refine⟨ob (by kernel_rfl),?_⟩;refine ah ?_;apply aP rfl<;>intro h
 ·exact ab h (by omega)
 refine cd ?_;refine aS ?_;simp -dsimp only[simprocAttr,↓aa,zp,eh,hi,Int.toNat_natCast]
 repeat(refine⟨by omega,?_⟩)
 refine⟨cg [f.bW] O.length [.pure,.pure,.pure,.pure,.pure,.rd 0,.pure,.pure,.wr 1 [],.wr 2 [1]] (by simp) (by simp;omega) rfl rfl (by kernel_rfl),ba ?_⟩;simp -dsimp only[bS,ne_eq,Nat.reduceEqDiff,reduceCtorEq];refine aY 4 ([aI i.to,aI i.op,aI i.n,aK i.args]) [(0,.mp 2 0),(2,.mp f.bW 0),(4,.ip none [aI i.to,aI i.op,aI i.n,aK i.args])] rfl (by rfl) (by omega) (by simp[bF,bh,Go.Av.look]) ?_ ?_ ?_
 ·exact bG
 ·simp[ae.upto,aw,gL,fo,az]
 refine aS ?_;simp -dsimp only[simprocAttr,↓aa,zp,eh,hs,lL,<-dV]
 repeat(refine⟨by omega,?_⟩)
 refine ah ?_;refine aA ?_;refine .inr (.inr ⟨_,ir,ao (zj ?_)⟩);refine ah ?_;refine aA (ah ?_);refine ai ?_;refine aA (ah ?_);apply aP rfl<;>intro h
 ·exact ab h (by omega)
 refine aA (ah ?_);apply aP rfl<;>intro h
 ·exact ab h (by omega)
 refine aA ?_;refine .inr (.inl ⟨_,_,hC,.inl (ao (zj ?_))⟩);refine ah ?_;refine aY 7 [aI v.kind,aI v.n,.aC 4 (v.list.map SV.enc) .sh,eP v.arr] [(0,.mp 2 0),(2,.mp f.bW 0),(4,.ip none [aI i.to,aI i.op,aI i.n,aK i.args]),(7,.ip none [aI v.kind,aI v.n,.aC 4 (v.list.map SV.enc) .sh,eP v.arr]),(8,aI t)] rfl (by simp only[List.map_cons,List.map_nil,cK,b9,cn]) (by omega) (by simp[bF,bh,Go.Av.look]) fJ ?_ ?_
 ·simp[ae.upto,aw,Sj,Sx,az,SQ]
 refine c9 ?_;simp -dsimp only[simprocAttr,↓aa,zp,hd];refine ah ?_;refine cH rfl ?_;refine cT ?_;refine .inr (.inl ⟨_,_,kr,.inl (ao (zj ?_))⟩);refine ah ?_;refine kC ?_;simp -dsimp only[simprocAttr,↓aa,zp,ZX,hv3,rZ];refine⟨ob (by kernel_rfl),?_⟩
 (refine ba ?_;simp -dsimp only[bS,ne_eq,Nat.reduceEqDiff,reduceCtorEq])
 skip
 simp -dsimp only[simprocAttr,↓aa,zp,zr,Tryz.results83,Q0,eH,List.length_set];exact⟨Cm,trivial⟩
end Go.Proofs.YtjdnhamngpafmaaGreat
namespace Go.Proofs.YtjdnhamngpafmaaGreat
open Go.Av
def Holds(L:List (Nat×aj))(O:List aj):Prop:=∀p∈L,O[p.1]?=some p.2
def eU(L:List (Nat×aj)):List Nat:=L.map Prod.fst
theorem eJ(A B:List (Nat×aj)):eU (A++B)=eU A++eU B:=by simp[eU]
theorem jR(p:Nat×aj)(B:List (Nat×aj)):eU (p::B)=p.1::eU B:=rfl
theorem il{L:List (Nat×aj)}{p:Nat×aj}(h:p∈L):p.1∈eU L:=List.mem_map.2 ⟨p,h,rfl⟩
theorem ik{A B:List (Nat×aj)}{id:Nat}{y x:aj}{O:List aj}(h:Holds (A++(id,y)::B) O)(hn:(eU (A++(id,y)::B)).Nodup):Holds (A++(id,x)::B) (O.set id x):=by
 rw[eJ,jR,List.nodup_append]at hn;obtain⟨_,hB,Ob⟩:=hn;rw[List.nodup_cons]at hB;intro p hp;rcases List.mem_append.1 hp with q|q
 ·have ct:id≠p.1:=fun e=>Ob p.1 (il q) id List.mem_cons_self e.symm;exact bx (h p (by simp[q])) ct
 rcases List.mem_cons.1 q with rfl|q
 ·exact ox (h (id,y) (by simp))
 have ct:id≠p.1:=fun e=>hB.1 (by
  show id∈eU B;rw[e];exact il q)
 exact bx (h p (by simp[q])) ct
theorem jS(A B:List (Nat×aj))(id:Nat)(y x:aj):eU (A++(id,y)::B)=eU (A++(id,x)::B):=by simp[eU]
theorem Holds.sub{L M:List (Nat×aj)}{O:List aj}(h:Holds L O)(hs:∀p∈M,p∈L):Holds M O:=fun p hp=>h p (hs p hp)
theorem Holds.lt{L:List (Nat×aj)}{O:List aj}(h:Holds L O):∀k∈eU L,k<O.length:=fun k hk=>by
 obtain⟨p,hp,rfl⟩:=List.mem_map.1 hk;exact I (h p hp)
def mT:List Fr->List (Nat×aj)
 | []=>[]
 | f::r=>(f.bW,.cells (aX f))::(f.dx,.map (.int .i64) (f.vals.map ic))::mT r
def dP:List DF->List (Nat×aj)
 | []=>[]
 | a::r=>(a.l8,.cells [.ms a.eg 0 a.l.length a.l.length])::(a.eg,.cells (au (a.l.map SV.enc)))::dP r
theorem qt(A B:List DF):dP (A++B)=dP A++dP B:=by
 induction A with
 | nil=>rfl
 | cons a r ih=>simp[dP,ih]
def ca(u:bY)(m:Mach)(rest:List ae):List (Nat×aj) :=
 (1,.cells [.aC 1 [] .ex,aI 0,aI 0])::(2,.cells (aE u m))::(3,.spare m.out.length)::(m.sid,.cells (fp m.frames++rest))::(mT m.frames++dP m.heap)
structure Tl(u:bY)(m:Mach)(rest:List ae)(O:List aj):Prop where
 len:O.length=m.next
 upto:∀o∈O,o.upto O.length
 holds:Holds (ca u m rest) O
 nodup:(eU (ca u m rest)).Nodup
namespace Tl
variable {u:bY} {m:Mach} {rest:List ae} {O:List aj}
theorem gO(h:Tl u m rest O):O[2]?=some (.cells (aE u m)):=h.holds (2,_) (by simp[ca])
theorem outs(h:Tl u m rest O):O[3]?=some (.spare m.out.length):=h.holds (3,_) (by simp[ca])
theorem stack(h:Tl u m rest O):O[m.sid]?=some (.cells (fp m.frames++rest)):=h.holds (m.sid,_) (by simp[ca])
theorem pB{l:List Fr}{f:Fr}(hf:f∈l):(f.bW,aj.cells (aX f))∈mT l∧(f.dx,aj.map (.int .i64) (f.vals.map ic))∈mT l:=by
 induction l with
 | nil=>simp at hf
 | cons g r ih =>
  rcases List.mem_cons.1 hf with rfl|hf
  ·simp[mT]
  simp[mT,ih hf]
theorem zF{l:List DF}{a:DF}(ha:a∈l):(a.l8,aj.cells [.ms a.eg 0 a.l.length a.l.length])∈dP l∧(a.eg,aj.cells (au (a.l.map SV.enc)))∈dP l:=by
 induction l with
 | nil=>simp at ha
 | cons g r ih =>
  rcases List.mem_cons.1 ha with rfl|ha
  ·simp[dP]
  simp[dP,ih ha]
theorem frame(h:Tl u m rest O){f:Fr}(hf:f∈m.frames):O[f.bW]?=some (.cells (aX f))∧O[f.dx]?=some (.map (.int .i64) (f.vals.map ic)) :=
 ⟨h.holds (f.bW,_) (by simp[ca,pB hf]),h.holds (f.dx,_) (by simp[ca,pB hf])⟩
theorem arr(h:Tl u m rest O){a:DF}(ha:a∈m.heap):O[a.l8]?=some (.cells [.ms a.eg 0 a.l.length a.l.length])∧O[a.eg]?=some (.cells (au (a.l.map SV.enc))) :=
 ⟨h.holds (a.l8,_) (by simp[ca,zF ha]),h.holds (a.eg,_) (by simp[ca,zF ha])⟩
theorem under(h:Tl u m rest O){v:SV}(hv:gH u m v):SV.bp O.length v :=
 SV.Wf.under (fun id ⟨a,ha,e⟩=>by
  rw[<-e];exact I (h.arr ha).1) hv
theorem pR(h:Tl u m rest O)(m':Mach)(h1:m'.sid=m.sid)(h2:m'.frames=m.frames)(h3:m'.heap=m.heap)(h4:m'.out.length=m.out.length)(h5:m'.next=m.next):Tl u m' rest (O.set 2 (.cells (aE u m'))):=by
 have e:ca u m' rest=[(1,.cells [.aC 1 [] .ex,aI 0,aI 0])]++(2,.cells (aE u m'))::((3,.spare m.out.length)::(m.sid,.cells (fp m.frames++rest))::(mT m.frames++dP m.heap)):=by
  simp[ca,h1,h2,h3,h4]
 refine⟨by simp[h.len,h5],?_,?_,?_⟩
 ·rw[List.length_set];exact bw h.upto h.gO (fun q=>bZ q h1)
 ·rw[e];exact ik (A:=[_]) (y:=.cells (aE u m)) h.holds h.nodup
 rw[e,<-jS _ _ _ (.cells (aE u m))];exact h.nodup
theorem S3(h:Tl u m rest O)(m':Mach)(h1:m'.sid=m.sid)(h2:m'.frames=m.frames)(h3:m'.heap=m.heap)(h5:m'.next=m.next):Tl u m' rest ((O.set 3 (.spare m'.out.length)).set 2 (.cells (aE u m'))):=by
 have e:ca u m' rest=[(1,.cells [.aC 1 [] .ex,aI 0,aI 0])]++(2,.cells (aE u m'))::((3,.spare m'.out.length)::(m.sid,.cells (fp m.frames++rest))::(mT m.frames++dP m.heap)):=by
  simp[ca,h1,h2,h3]
 have hs:=ik (A:=[(1,.cells [.aC 1 [] .ex,aI 0,aI 0]),(2,.cells (aE u m))]) (x:=.spare m'.out.length) (y:=.spare m.out.length) h.holds h.nodup;have hk:=jS [(1,.cells [.aC 1 [] .ex,aI 0,aI 0]),(2,.cells (aE u m))] ((m.sid,.cells (fp m.frames++rest))::(mT m.frames++dP m.heap)) 3 (.spare m.out.length) (.spare m'.out.length);have hn:(eU ([(1,.cells [.aC 1 [] .ex,aI 0,aI 0]),(2,.cells (aE u m))]++(3,.spare m'.out.length)::((m.sid,.cells (fp m.frames++rest))::(mT m.frames++dP m.heap)))).Nodup:=by
  rw[<-hk];exact h.nodup
 refine⟨by simp[h.len,h5],?_,?_,?_⟩
 ·rw[List.length_set,List.length_set];exact bw (bz h.upto trivial) (bx h.gO (by omega)) (fun q=>bZ q h1)
 ·rw[e];exact ik (A:=[_]) (y:=.cells (aE u m)) hs hn
 rw[e,<-jS _ _ _ (.cells (aE u m))];exact hn
theorem bu(h:Tl u m rest O){f f':Fr}{r:List Fr}(dQ:m.frames=f::r)(h1:f'.bW=f.bW)(h2:f'.dx=f.dx)(h3:f'.vals=f.vals):Tl u (m.bu f') rest (O.set f.bW (.cells (aX f'))):=by
 have hm:aE u (m.bu f')=aE u m:=by simp[aE,Mach.bu,dQ]
 have hp:fp (f'::r)=fp (f::r):=by simp[fp,h1]
 have e:ca u (m.bu f') rest=[(1,.cells [.aC 1 [] .ex,aI 0,aI 0]),(2,.cells (aE u m)),(3,.spare m.out.length),(m.sid,.cells (fp m.frames++rest))]++(f.bW,.cells (aX f'))::((f.dx,.map (.int .i64) (f.vals.map ic))::(mT r++dP m.heap)):=by
  unfold ca;rw[hm];simp[Mach.bu,dQ,mT,h1,h2,h3,hp]
 have e0:ca u m rest=[(1,.cells [.aC 1 [] .ex,aI 0,aI 0]),(2,.cells (aE u m)),(3,.spare m.out.length),(m.sid,.cells (fp m.frames++rest))]++(f.bW,.cells (aX f))::((f.dx,.map (.int .i64) (f.vals.map ic))::(mT r++dP m.heap)):=by
  simp[ca,dQ,mT]
 have hh:=h.holds;have hn:=h.nodup;rw[e0]at hh hn;refine⟨by simp[h.len,Mach.bu],?_,?_,?_⟩
 ·rw[List.length_set];refine bw h.upto (h.frame (f:=f) (by rw[dQ];simp)).1 (fun q=>?_);simp only[aX,aw,ae.upto,true_and,and_true,h2]at q ⊢;exact q
 ·rw[e];exact ik hh hn
 rw[e,<-jS _ _ _ (.cells (aX f))];exact hn
theorem AR(h:Tl u m rest O){f f':Fr}{r:List Fr}(dQ:m.frames=f::r)(h1:f' = { f with vals:=f'.vals })(hu:∀e∈f'.vals,SV.bp O.length e.2):Tl u (m.bu f') rest (O.set f.dx (.map (.int .i64) (f'.vals.map ic))):=by
 have hm:aE u (m.bu f')=aE u m:=by simp[aE,Mach.bu,dQ]
 have kp:f'.bW=f.bW:=by rw[h1]
 have xN:f'.dx=f.dx:=by rw[h1]
 have KG:aX f'=aX f:=by rw[h1];rfl
 have hp:fp (f'::r)=fp (f::r):=by simp[fp,kp]
 have e:ca u (m.bu f') rest=[(1,.cells [.aC 1 [] .ex,aI 0,aI 0]),(2,.cells (aE u m)),(3,.spare m.out.length),(m.sid,.cells (fp m.frames++rest)),(f.bW,.cells (aX f))]++(f.dx,.map (.int .i64) (f'.vals.map ic))::(mT r++dP m.heap):=by
  unfold ca;rw[hm];simp[Mach.bu,dQ,mT,kp,xN,KG,hp]
 have e0:ca u m rest=[(1,.cells [.aC 1 [] .ex,aI 0,aI 0]),(2,.cells (aE u m)),(3,.spare m.out.length),(m.sid,.cells (fp m.frames++rest)),(f.bW,.cells (aX f))]++(f.dx,.map (.int .i64) (f.vals.map ic))::(mT r++dP m.heap):=by
  simp[ca,dQ,mT]
 have hh:=h.holds;have hn:=h.nodup;rw[e0]at hh hn;refine⟨by simp[h.len,Mach.bu],?_,?_,?_⟩
 ·rw[List.length_set];exact bz h.upto (BU hu)
 ·rw[e];exact ik hh hn
 rw[e,<-jS _ _ _ (.map (.int .i64) (f.vals.map ic))];exact hn
theorem pop(h:Tl u m rest O){f g g':Fr}{r:List Fr}(dQ:m.frames=f::g::r)(h1:g' = { g with vals:=g'.vals })(hu:∀e∈g'.vals,SV.bp O.length e.2)(m':Mach)(eF:m' = { m with frames:=g'::r }) :
  Tl u m' (.mp f.bW 0::rest) ((O.set 2 (.cells (aE u m'))).set g.dx (.map (.int .i64) (g'.vals.map ic))):=by
 have kp:g'.bW=g.bW:=by rw[h1]
 have xN:g'.dx=g.dx:=by rw[h1]
 have KG:aX g'=aX g:=by rw[h1];rfl
 have hp:fp (f::g::r)++rest=fp (g'::r)++.mp f.bW 0::rest:=by simp[fp,kp]
 have e0:ca u m rest=[(1,.cells [.aC 1 [] .ex,aI 0,aI 0])]++(2,.cells (aE u m))::((3,.spare m.out.length)::(m.sid,.cells (fp (g'::r)++.mp f.bW 0::rest))::(f.bW,.cells (aX f))::(f.dx,.map (.int .i64) (f.vals.map ic))::(g.bW,.cells (aX g))::(g.dx,.map (.int .i64) (g.vals.map ic))::(mT r++dP m.heap)):=by
  simp[ca,dQ,mT,<-hp]
 have e1:ca u m' (.mp f.bW 0::rest)=[(1,.cells [.aC 1 [] .ex,aI 0,aI 0]),(2,.cells (aE u m')),(3,.spare m.out.length),(m.sid,.cells (fp (g'::r)++.mp f.bW 0::rest)),(g.bW,.cells (aX g))]++(g.dx,.map (.int .i64) (g'.vals.map ic))::(mT r++dP m.heap):=by
  rw[eF];simp[ca,mT,kp,xN,KG]
 have hh:=h.holds;have hn:=h.nodup;rw[e0]at hh hn;have h2:=ik (x:=.cells (aE u m')) hh hn;have wo:∀p∈[(1,aj.cells [.aC 1 [] .ex,aI 0,aI 0]),(2,.cells (aE u m')),(3,.spare m.out.length),(m.sid,.cells (fp (g'::r)++.mp f.bW 0::rest)),(g.bW,.cells (aX g))]++(g.dx,.map (.int .i64) (g.vals.map ic))::(mT r++dP m.heap),p∈[(1,.cells [.aC 1 [] .ex,aI 0,aI 0])]++(2,.cells (aE u m'))::((3,.spare m.out.length)::(m.sid,.cells (fp (g'::r)++.mp f.bW 0::rest))::(f.bW,.cells (aX f))::(f.dx,.map (.int .i64) (f.vals.map ic))::(g.bW,.cells (aX g))::(g.dx,.map (.int .i64) (g.vals.map ic))::(mT r++dP m.heap)):=by
  intro p hp;simp only[List.cons_append,List.nil_append,List.mem_cons]at hp ⊢;rcases hp with q|q|q|q|q|q|q
  all_goals simp[q]
 have hn3:(eU ([(1,aj.cells [.aC 1 [] .ex,aI 0,aI 0]),(2,.cells (aE u m')),(3,.spare m.out.length),(m.sid,.cells (fp (g'::r)++.mp f.bW 0::rest)),(g.bW,.cells (aX g))]++(g.dx,.map (.int .i64) (g.vals.map ic))::(mT r++dP m.heap))).Nodup:=by
  refine List.Nodup.sublist ?_ hn;simp only[eU,List.map_cons,List.map_append,List.map_nil,List.cons_append,List.nil_append];exact((((List.Sublist.refl _).cons _).cons _).cons₂ _ |>.cons₂ _ |>.cons₂ _ |>.cons₂ _)
 have hg:=h2.sub wo;refine⟨by rw[eF];simp[h.len],?_,?_,?_⟩
 ·rw[List.length_set,List.length_set];refine bz (bw h.upto h.gO (fun q=>bZ q (by rw[eF]))) (BU hu)
 ·rw[e1];exact ik hg hn3
 rw[e1,<-jS _ _ _ (.map (.int .i64) (g.vals.map ic))];exact hn3
theorem last(h:Tl u m rest O){f:Fr}(dQ:m.frames=[f])(m':Mach)(h1:m'.sid=m.sid)(h2:m'.frames=[])(h3:m'.heap=m.heap)(h4:m'.out.length=m.out.length)(h5:m'.next=m.next):Tl u m' (.mp f.bW 0::rest) (O.set 2 (.cells (aE u m'))):=by
 have e0:ca u m rest=[(1,.cells [.aC 1 [] .ex,aI 0,aI 0])]++(2,.cells (aE u m))::((3,.spare m.out.length)::(m.sid,.cells (.mp f.bW 0::rest))::(f.bW,.cells (aX f))::(f.dx,.map (.int .i64) (f.vals.map ic))::dP m.heap):=by
  simp[ca,dQ,mT,fp]
 have e1:ca u m' (.mp f.bW 0::rest)=[(1,.cells [.aC 1 [] .ex,aI 0,aI 0]),(2,.cells (aE u m')),(3,.spare m.out.length),(m.sid,.cells (.mp f.bW 0::rest))]++dP m.heap:=by
  simp[ca,h1,h2,h3,h4,mT,fp]
 have hh:=h.holds;have hn:=h.nodup;rw[e0]at hh hn;refine⟨by simp[h.len,h5],?_,?_,?_⟩
 ·rw[List.length_set];exact bw h.upto h.gO (fun q=>bZ q h1)
 ·rw[e1];refine(ik (x:=.cells (aE u m')) hh hn).sub fun p hp=>?_;simp only[List.cons_append,List.nil_append,List.mem_cons]at hp ⊢;rcases hp with q|q|q|q|q
  all_goals simp[q]
 rw[e1];refine List.Nodup.sublist ?_ hn;simp only[eU,List.map_cons,List.map_append,List.map_nil,List.cons_append,List.nil_append];exact((((List.Sublist.refl _).cons _).cons _).cons₂ _ |>.cons₂ _ |>.cons₂ _ |>.cons₂ _)
end Tl
end Go.Proofs.YtjdnhamngpafmaaGreat
namespace Go.Proofs.YtjdnhamngpafmaaGreat
open Go.Av
namespace Tl
variable {u:bY} {m:Mach} {rest:List ae} {O:List aj}
theorem keys(u:bY)(m:Mach)(rest:List ae):eU (ca u m rest)=1::2::3::m.sid::eU (mT m.frames++dP m.heap):=rfl
theorem others(h:Tl u m rest O):Holds (mT m.frames++dP m.heap) O∧(∀k∈eU (mT m.frames++dP m.heap),k≠1∧k≠2∧k≠3∧k≠m.sid∧k<O.length)∧(eU (mT m.frames++dP m.heap)).Nodup∧m.sid≠1∧m.sid≠2∧m.sid≠3∧m.sid<O.length∧3<O.length:=by
 have hn:=h.nodup;have bg:=h.holds.lt;rw[keys]at hn bg;simp only[List.nodup_cons,List.mem_cons,not_or]at hn;obtain⟨⟨a1,a2,a3,a4⟩,⟨b1,b2,b3⟩,⟨c1,c2⟩,d,e⟩:=hn;refine⟨fun p hp=>h.holds p (by simp only[ca,List.mem_cons];exact .inr (.inr (.inr (.inr hp)))),fun k hk=>⟨?_,?_,?_,?_,bg k (by simp[hk])⟩,e,fun q=>a3 q.symm,fun q=>b2 q.symm,fun q=>c1 q.symm,bg _ (by simp),bg 3 (by simp)⟩
 ·rintro rfl;exact a4 hk
 ·rintro rfl;exact b3 hk
 ·rintro rfl;exact c2 hk
 rintro rfl;exact d hk
theorem push(h:Tl u m rest O)(fn to:Int)(args:List SV)(m':Mach)(eF:m'=m.enter u fn args to)(hu:∀v∈args,SV.bp O.length v) :
  Tl u m' [] (((O.set m.sid .gone).set 2 (.cells (aE u m'))) ++
   [.map (.int .i64) ((cN [] (ax (aL u fn) 0).params args).map ic),.cells [aI fn,aI 0,aI 0,aI to,.mm O.length],.cells (mN (fp m.frames++rest) m.frames.length (O.length+1))]):=by
 obtain⟨ho,hk,uM,s1,s2,s3,s4,s5⟩:=h.others;have hN:=h.len;have tH:(fp m.frames).length=m.frames.length:=by simp[fp]
 obtain⟨O2,uI⟩:∃O2,O2=(O.set m.sid .gone).set 2 (.cells (aE u m')):=⟨_,rfl⟩
 have Bi:O2.length=O.length:=by rw[uI];simp
 have TP:mN (fp m.frames++rest) m.frames.length (O.length+1)=fp m'.frames++[]:=by
  rw[eF];unfold mN;rw[List.take_append_of_le_length (by omega),List.take_of_length_le (by omega)];simp[fp,Mach.enter,hN]
 rw[TP,<-uI];have e1:ca u m' []=(1,.cells [.aC 1 [] .ex,aI 0,aI 0])::(2,.cells (aE u m'))::(3,.spare m.out.length)::(O.length+2,.cells (fp m'.frames++[]))::(O.length+1,.cells [aI fn,aI 0,aI 0,aI to,.mm O.length])::(O.length,.map (.int .i64) ((cN [] (ax (aL u fn) 0).params args).map ic))::(mT m.frames++dP m.heap):=by
  rw[eF];simp[ca,Mach.enter,mT,hN,aX]
 have hold:∀k o,O[k]?=some o->k≠m.sid->k≠2->∀X,(O2++X)[k]?=some o:=fun k o hk h1 h2 X=>by
  refine cw ?_;rw[uI];exact bx (bx hk (Ne.symm h1)) (Ne.symm h2)
 refine⟨by rw[eF];simp[Bi,Mach.enter,hN],?_,?_,?_⟩
 ·have hlen:(O2++[aj.map (.int .i64) ((cN [] (ax (aL u fn) 0).params args).map ic),.cells [aI fn,aI 0,aI 0,aI to,.mm O.length],.cells (fp m'.frames++[])]).length=O.length+3:=by simp[Bi]
  rw[hlen];intro o je;rcases List.mem_append.1 je with q|q
  ·rw[uI]at q;refine bw (n:=O.length+3) (ds:=aE u m') (bz (k:=m.sid) (x:=.gone) (fun o ho=>aj.cj (by omega) (h.upto o ho)) trivial) (bx h.gO s2) (fun q=>?_) o q;simp only[aE,aw,ae.upto,az,Func.ag,true_and,and_true,eF,Mach.enter]at q ⊢;omega
  simp only[List.mem_cons,List.mem_nil_iff,or_false]at q;rcases q with rfl|rfl|rfl
  ·refine BU fun x hx=>?_;rcases k7 hx with q|q
   ·simp at q
   exact(hu _ q).mono (by omega)
  ·simp[aj.upto,aw,ae.upto]
  simp only[aj.upto,List.append_nil,aV];intro x hx;simp only[fp,List.mem_map,List.mem_reverse]at hx;obtain⟨f,hf,rfl⟩:=hx;rw[eF]at hf;simp only[Mach.enter,List.mem_cons]at hf;rcases hf with rfl|hf
  ·simp[ae.upto,hN]
  have:=I (h.frame hf).1;simp only[ae.upto];omega
 ·rw[e1];intro p hp;simp only[List.mem_cons]at hp;rcases hp with rfl|rfl|rfl|rfl|rfl|rfl|hp
  ·exact hold 1 _ (h.holds (1,_) (by simp[ca])) (fun e=>s1 e.symm) (by omega) _
  ·refine cw ?_;rw[uI];exact ox (bx h.gO s2)
  ·exact hold 3 _ h.outs (fun e=>s3 e.symm) (by omega) _
  ·show(O2++_)[O.length+2]?=_;rw[<-Bi,lQ];rfl
  ·show(O2++_)[O.length+1]?=_;rw[<-Bi,lQ];rfl
  ·show(O2++_)[O.length]?=_;rw[<-Bi,Gc];rfl
  have:=hk p.1 (il hp);exact hold p.1 _ (ho p hp) this.2.2.2.1 this.2.1 _
 rw[e1];simp only[jR,List.nodup_cons,List.mem_cons,not_or];refine⟨⟨by omega,by omega,by omega,by omega,by omega,fun q=>(hk 1 q).1 rfl⟩,⟨by omega,by omega,by omega,by omega,fun q=>(hk 2 q).2.1 rfl⟩,⟨by omega,by omega,by omega,fun q=>(hk 3 q).2.2.1 rfl⟩,⟨by omega,by omega,fun q=>?_⟩,⟨by omega,fun q=>?_⟩,fun q=>?_,uM⟩
 ·have:=(hk _ q).2.2.2.2;omega
 ·have:=(hk _ q).2.2.2.2;omega
 have:=(hk _ q).2.2.2.2;omega
theorem sd:∀(l:List DF) (a:DF) (x:List SV),a∈l->(eU (dP l)).Nodup->∃X Y,l=X++a::Y∧Mach.kK l (some a.l8) x=X++⟨a.l8,a.eg,x⟩::Y
 | [],_,_,h,_=>by simp at h
 | b::r,a,x,h,hn=>by
  unfold Mach.kK;rcases List.mem_cons.1 h with rfl|h
  ·exact⟨[],r,rfl,by simp⟩
  have ct:some a.l8≠some b.l8:=fun e=>by
   simp only[Option.some.injEq]at e;simp only[dP,jR,List.nodup_cons,List.mem_cons,not_or]at hn;exact hn.1.2 (by
    rw[<-e];exact il (zF h).1)
  rw[if_neg ct];simp only[dP,jR,List.nodup_cons]at hn;obtain⟨X,Y,h1,h2⟩:=sd r a x h hn.2.2;exact⟨b::X,Y,by simp[h1],by simp[h2]⟩
theorem Pn(h:Tl u m rest O){a:DF}(ha:a∈m.heap)(l:List SV)(hl:l.length=a.l.length)(hu:∀v∈l,SV.bp O.length v)(m':Mach)(eF:m' = { m with heap:=Mach.kK m.heap (some a.l8) l }):Tl u m' rest (O.set a.eg (.cells (au (l.map SV.enc)))):=by
 obtain⟨ho,hk,uM,s1,s2,s3,s4,s5⟩:=h.others;obtain⟨X,Y,e1,e2⟩:=sd m.heap a l ha (by
  rw[eJ,List.nodup_append]at uM;exact uM.2.1)
 have Je:aE u m'=aE u m:=by rw[eF];rfl
 have e0:ca u m rest=((1,.cells [.aC 1 [] .ex,aI 0,aI 0])::(2,.cells (aE u m))::(3,.spare m.out.length)::(m.sid,.cells (fp m.frames++rest))::(mT m.frames++(dP X++[(a.l8,.cells [.ms a.eg 0 a.l.length a.l.length])])))++(a.eg,.cells (au (a.l.map SV.enc)))::dP Y:=by
  unfold ca;rw[e1,qt];simp[dP]
 have e3:ca u m' rest=((1,.cells [.aC 1 [] .ex,aI 0,aI 0])::(2,.cells (aE u m))::(3,.spare m.out.length)::(m.sid,.cells (fp m.frames++rest))::(mT m.frames++(dP X++[(a.l8,.cells [.ms a.eg 0 a.l.length a.l.length])])))++(a.eg,.cells (au (l.map SV.enc)))::dP Y:=by
  unfold ca;rw[Je,eF];simp only[e2,qt];simp[dP,hl]
 have hh:=h.holds;have hn:=h.nodup;rw[e0]at hh hn;refine⟨by rw[eF];simp[h.len],?_,?_,?_⟩
 ·rw[List.length_set];exact bz h.upto (SV.jM hu)
 ·rw[e3];exact ik hh hn
 rw[e3,<-jS _ _ _ (.cells (au (a.l.map SV.enc)))];exact hn
theorem NB(h:Tl u m rest O)(l:List SV)(m':Mach)(J:List aj)(hJ:J.length=7)(hJu:∀o∈J,o.upto (O.length+9))(hu:∀v∈l,SV.bp O.length v)(h1:m'.sid=m.sid)(h2:m'.frames=m.frames)(h3:m'.heap=m.heap++[⟨m.next+8,m.next+7,l⟩])(h4:m'.out=m.out)(h5:m'.next=m.next+9) :
  Tl u m' rest (O.set 2 (.cells (aE u m'))++(J++[.cells (au (l.map SV.enc)),.cells [.ms (O.length+7) 0 l.length l.length]])):=by
 obtain⟨ho,hk,uM,s1,s2,s3,s4,s5⟩:=h.others;have hN:=h.len;obtain⟨O2,uI⟩:∃O2,O2=O.set 2 (.cells (aE u m')):=⟨_,rfl⟩
 have Bi:O2.length=O.length:=by rw[uI];simp
 rw[<-uI];have e1:ca u m' rest=(1,.cells [.aC 1 [] .ex,aI 0,aI 0])::(2,.cells (aE u m'))::(3,.spare m.out.length)::(m.sid,.cells (fp m.frames++rest))::((mT m.frames++dP m.heap)++[(O.length+8,.cells [.ms (O.length+7) 0 l.length l.length]),(O.length+7,.cells (au (l.map SV.enc)))]):=by
  simp[ca,h1,h2,h3,h4,qt,dP,hN]
 have hold:∀k o,O[k]?=some o->k≠2->∀X,(O2++X)[k]?=some o:=fun k o hk h2 X=>by
  refine cw ?_;rw[uI];exact bx hk (Ne.symm h2)
 refine⟨by simp[Bi,h5,hN,hJ],?_,?_,?_⟩
 ·have hlen:(O2++(J++[aj.cells (au (l.map SV.enc)),.cells [.ms (O.length+7) 0 l.length l.length]])).length=O.length+9:=by simp[Bi,hJ]
  rw[hlen];intro o je;rcases List.mem_append.1 je with q|q
  ·rw[uI]at q;exact bw (fun o ho=>aj.cj (by omega) (h.upto o ho)) h.gO (fun q=>bZ q h1) o q
  rcases List.mem_append.1 q with q|q
  ·exact hJu o q
  simp only[List.mem_cons,List.mem_nil_iff,or_false]at q;rcases q with rfl|rfl
  ·exact SV.jM fun v hv=>(hu v hv).mono (by omega)
  simp[aj.upto,aw,ae.upto]
 ·rw[e1];intro p hp;simp only[List.mem_cons,List.mem_append,List.mem_nil_iff,or_false]at hp;have ZB:∀k,(J++[aj.cells (au (l.map SV.enc)),.cells [.ms (O.length+7) 0 l.length l.length]])[7+k]?=[aj.cells (au (l.map SV.enc)),.cells [.ms (O.length+7) 0 l.length l.length]][k]?:=fun k=>by
   rw[<-hJ];exact lQ
  rcases hp with rfl|rfl|rfl|rfl|hp|rfl|rfl
  ·exact hold 1 _ (h.holds (1,_) (by simp[ca])) (by omega) _
  ·refine cw ?_;rw[uI];exact ox h.gO
  ·exact hold 3 _ h.outs (by omega) _
  ·exact hold m.sid _ h.stack s2 _
  ·have:=hk p.1 (il (List.mem_append.2 hp));exact hold p.1 _ (ho p (List.mem_append.2 hp)) this.2.1 _
  ·show(O2++_)[O.length+8]?=_;have hx:O.length+8=O2.length+8:=by omega
   rw[hx,lQ];exact ZB 1
  show(O2++_)[O.length+7]?=_;have hx:=lQ (O:=O2) (k:=7) (X:=J++[aj.cells (au (l.map SV.enc)),.cells [.ms (O.length+7) 0 l.length l.length]]);rw[Bi]at hx;rw[hx];exact ZB 0
 rw[e1];simp only[jR,eJ,List.nodup_cons,List.mem_cons,not_or,List.mem_append];have pF:∀k,(k∈eU (mT m.frames)∨k∈eU (dP m.heap))->k≠1∧k≠2∧k≠3∧k≠m.sid∧k<O.length:=fun k q=>hk k (by rw[eJ];exact List.mem_append.2 q);refine⟨⟨by omega,by omega,by omega,⟨fun q=>(pF 1 (.inl q)).1 rfl,fun q=>(pF 1 (.inr q)).1 rfl⟩,by omega,by omega,by simp[eU]⟩,⟨by omega,by omega,⟨fun q=>(pF 2 (.inl q)).2.1 rfl,fun q=>(pF 2 (.inr q)).2.1 rfl⟩,by omega,by omega,by simp[eU]⟩,⟨by omega,⟨fun q=>(pF 3 (.inl q)).2.2.1 rfl,fun q=>(pF 3 (.inr q)).2.2.1 rfl⟩,by omega,by omega,by simp[eU]⟩,⟨⟨fun q=>(pF _ (.inl q)).2.2.2.1 rfl,fun q=>(pF _ (.inr q)).2.2.2.1 rfl⟩,by omega,by omega,by simp[eU]⟩,?_⟩;rw[List.nodup_append];rw[eJ]at uM;refine⟨uM,by simp[eU],?_⟩;intro x hx y hy e;have:=(pF x (List.mem_append.1 hx)).2.2.2.2;simp only[eU,List.map_nil,List.mem_cons,List.mem_nil_iff,or_false]at hy;omega
end Tl
end Go.Proofs.YtjdnhamngpafmaaGreat
namespace Go.Proofs.YtjdnhamngpafmaaGreat
open Go.Av
theorem lg{l:List SV}{n:Nat}(h:l.length=n){k:Nat}(hk:k<n):∃x,l[k]?=some x:=⟨l[k]'(by omega),List.getElem?_eq_getElem _⟩
theorem FY{l:List SV}(h:l.length=2):∃x y,l=[x,y]:=by
 match l,h with
 | [x,y],_=>exact⟨x,y,rfl⟩
theorem DO{O:List aj}{u:bY}{m:Mach}{rest:List ae}(ht:Tl u m rest O)(hm:bR u m){v:SV}(hv:gH u m v)(id:Option Nat)(h:id=v.arr):∀x∈Mach.iW m.heap id,SV.bp O.length x:=fun x hx=>by
 subst h;cases GD:v.arr with
 | none =>
  rw[GD]at hx;have:∀l:List DF,Mach.iW l none=[]:=fun l=>by
   induction l with
   | nil=>rfl
   | cons a r ih=>simp[Mach.iW,ih]
  rw[this]at hx;simp at hx
 | some id =>
  obtain⟨a,ha,h1,h2⟩:=pt m.heap id (SV.Wf.ref hv id GD);rw[GD,h2]at hx;exact ht.under ((hm.ig a ha).2 x hx)
theorem Ev{u:bY}{m:Mach}{rest:List ae}{O:List aj}(ht:Tl u m rest O)(hm:bR u m)(kG:m.short=false){i:Ins}(hi:Jp u i)(vP:i.op≠13)(xG:i.op≠14){args:List SV}(lK:args.length=i.args.length)(ha:∀v∈args,gH u m v) :
  ∃O2,bd Tryz.prog 115 O [.mp 2 0,i.enc,.aC 4 (args.map SV.enc) .sh] (fun r O3=>r=.cD [(m.exec i args).2.1.enc,aI (m.exec i args).2.2]∧O3=O2)∧Tl u (m.exec i args).1 rest O2∧O.length<=O2.length:=by
 have bG:=ht.upto;have hl:∀v∈args,SV.bp O.length v:=fun v hv=>ht.under (ha v hv);have Rh:∀v∈args,v.kind=0->fU v.n:=fun v hv hk=>SV.Wf.num (ha v hv) (.inl hk);have pE:m.left<=2 ^ 40:=by have:=hm.depth;omega
 have kq:=hi.op;have stay:∀{v:SV} {t:Int},m.exec i args=(m,v,t)->bd Tryz.prog 115 O [.mp 2 0,i.enc,.aC 4 (args.map SV.enc) .sh] (fun r O3=>r=.cD [(m.exec i args).2.1.enc,aI (m.exec i args).2.2]∧O3=O) ->
   ∃O2,bd Tryz.prog 115 O [.mp 2 0,i.enc,.aC 4 (args.map SV.enc) .sh] (fun r O3=>r=.cD [(m.exec i args).2.1.enc,aI (m.exec i args).2.2]∧O3=O2)∧Tl u (m.exec i args).1 rest O2∧O.length<=O2.length:=fun e hC =>
  ⟨O,hC,by rw[e];exact ht,Nat.le_refl _⟩
 by_cases h0:i.op=0
 ·exact stay (v:=.word i.n) (t:=0) (by simp[Mach.exec,h0]) (Kg (u:=u) bG i args hl h0)
 by_cases h1:1<=i.op∧i.op<=7
 ·have Bi:=hi.c2 (.inl h1);obtain⟨x,hx⟩:=lg (lK.trans Bi) (k:=0) (by omega);obtain⟨y,hy⟩:=lg (lK.trans Bi) (k:=1) (by omega);have hC:=Eu (u:=u) (m:=m) bG i args hl h1 x y hx hy (Rh x (List.mem_of_getElem? hx)) (Rh y (List.mem_of_getElem? hy));refine⟨O,hC,?_,Nat.le_refl _⟩;have e:(m.exec i args).1=m:=by
   unfold Mach.exec;rw[if_neg h0,if_pos h1];split<;>rfl
  rw[e];exact ht
 by_cases h8:i.op=8
 ·exact stay (v:=.mk 1 i.n args none) (t:=0) (by simp[Mach.exec,h8]) (Kf (u:=u) bG i args hl h8)
 by_cases h9:i.op=9
 ·exact stay (v:=.mk 2 i.n args none) (t:=0) (by simp[Mach.exec,h9]) (HA (u:=u) bG i args hl h9)
 by_cases yA:i.op=10∨i.op=11∨i.op=12∨i.op=21
 ·have hlen:0<args.length∧(i.op=21->args.length=2):=by
   rcases yA with q|q|q|q
   ·have:=hi.c1 (by omega);omega
   ·have:=hi.c1 (by omega);omega
   ·have:=hi.c1 (by omega);omega
   have:=hi.c2 (by omega);omega
  obtain⟨x,hx⟩:=lg rfl hlen.1;obtain⟨q1,q2⟩:=wD (i:=i) ha;have hC:=CO bG i args hl x hx (fun a b c=>lg (hlen.2 (by omega)) (by omega)) (fun e=>hi.Wq (.inl e));refine stay (v:=(cV i args).1) (t:=(cV i args).2) ?_ (Kh (u:=u) (m:=m) bG i args hl yA hC (ht.under q1));unfold Mach.exec;rw[if_neg h0,if_neg h1,if_neg h8,if_neg h9,if_pos yA]
 by_cases Ez:i.op=22∨i.op=23∨i.op=24
 ·have h2:i.op≠22->i.op≠24->∃x y,args=[x,y]:=fun a b=>FY (lK.trans (hi.c2 (by omega)));obtain⟨q1,q2⟩:=xg (i:=i) ha (fun e=>by have:=hi.pack e;omega) h2;have hC:=Dm bG i args hl (fun e=>lg (lK.trans (hi.c1 (by omega))) (by omega)) h2 (fun e=>hi.Wq (.inr e)) (fun v hv hk=>tm (ha v hv) hk);refine stay (v:=(di i args).1) (t:=(di i args).2) ?_ (Ki (u:=u) (m:=m) bG i args hl Ez hC (ht.under q1));unfold Mach.exec;rw[if_neg h0,if_neg h1,if_neg h8,if_neg h9,if_neg yA,if_pos Ez]
 by_cases dH:i.op=100
 ·obtain⟨x,hx⟩:=lg (lK.trans (hi.c1 (by omega))) (k:=0) (by omega);refine stay (v:=b8 args 0) (t:=0) (by simp[Mach.exec,dH]) (HB (u:=u) (m:=m) bG i args hl dH x hx)
 have HT:i.op≠10∧i.op≠11∧i.op≠12∧i.op≠21:=by omega
 have HU:i.op≠22∧i.op≠23∧i.op≠24:=by omega
 have mq:2<O.length:=I ht.gO;have Ox:=BZ m i args h0 h1 h8 h9 HT HU dH;have lM:=yu hm (i:=i) ha;by_cases yB:i.op=16
 ·obtain⟨x,y,e⟩:=FY (lK.trans (hi.c2 (by omega)));subst e;have GI:=hl x (by simp);have We:=hl y (by simp);have he:m.exec i [x,y]=m.bA x y:=by
   rw[Ox];simp[Mach.effect,yB,b8]
  rw[he];by_cases Gt:x.kind=0∧0<=x.n∧x.n<=1024∧x.n<=m.left
  ·obtain⟨g1,g2,g3,g4⟩:=Gt;have rL:(m.cU x.n).short=false:=by simp[Mach.cU,show ¬m.left<x.n by omega,kG]
   have eX:m.bA x y=({ m.cU x.n with heap:=m.heap++[⟨m.next+8,m.next+7,List.replicate x.n.toNat y⟩],next:=m.next+9 },.mk 3 0 [] (some (m.next+8)),0):=by
    unfold Mach.bA;rw[if_neg (by omega),if_neg (by omega),if_neg (by simp[rL])]
   have hC:=NZ bG ht.gO i x y GI We yB hm.left pE kG g1 g2 g3 g4;rw[eX];obtain⟨p1,p2,p3,p4,p5,p6,p7⟩:=gW m x.n;have Je:aE u ({ m.cU x.n with heap:=m.heap++[⟨m.next+8,m.next+7,List.replicate x.n.toNat y⟩],next:=m.next+9 }:Mach)=aE u (m.cU x.n):=rfl;have jD:=ht.NB (List.replicate x.n.toNat y) ({ m.cU x.n with heap:=m.heap++[⟨m.next+8,m.next+7,List.replicate x.n.toNat y⟩],next:=m.next+9 }:Mach)
    [.gone,.cells [aI 3,aI 0,.aC 4 [] .sh,.mp (O.length+8) 0],.gone,.cells [aI 3,aI 0,.aC 4 [] .sh,.mp (O.length+8) 0],.gone,.gone,.cells [aI 3,aI 0,.aC 4 [] .ex,.mp (O.length+8) 0]] rfl (fun o ho=>by
     simp only[List.mem_cons,List.mem_nil_iff,or_false]at ho;rcases ho with rfl|rfl|rfl|rfl|rfl|rfl|rfl
     all_goals simp[aj.upto,aw,ae.upto]) (fun v hv=>by
     rw[(List.mem_replicate.1 hv).2];exact We) p6 p1 rfl p3 rfl
   rw[Je]at jD;simp only[List.length_replicate]at jD;have Sg:(SV.mk 3 0 [] (some (m.next+8))).enc=.agg [aI 3,aI 0,.aC 4 [] .sh,.mp (O.length+8) 0]:=by
    rw[SV.jN,ht.len];rfl
   refine⟨_,?_,jD,by simp⟩;simp only[Sg];exact hC
  have ew:(m.bA x y).2.1=.zero∧(m.bA x y).1.sid=m.sid∧(m.bA x y).1.frames=m.frames∧(m.bA x y).1.heap=m.heap∧(m.bA x y).1.out=m.out∧(m.bA x y).1.next=m.next:=by
   obtain⟨p1,p2,p3,p4,p5,p6,p7⟩:=gW m x.n;unfold Mach.bA;split
   ·simp
   split
   ·simp
   split
   ·exact⟨rfl,p6,p1,p2,p3,p7⟩
   rename_i a1 a2 a3;exfalso;refine Gt ⟨by omega,by omega,by omega,?_⟩;by_cases q:m.left<x.n
   ·exact absurd (show(m.cU x.n).short=true by simp[Mach.cU,q]) a3
   omega
  obtain⟨b0,b1,b2,b3,b4,b5⟩:=ew;have hC:=BR bG ht.gO i x y GI We yB hm.left pE kG (fun z=>by rw[b0];simp[SV.zero,SV.arr]);have jD:=ht.pR (m.bA x y).1 b1 b2 b3 (by rw[b4]) b5;exact⟨_,oD bG i [x,y] hl h0 h1 h8 h9 HT HU dH mq _ _ (by rw[b0];exact qX _) hC (by simp) jD.upto,jD,by simp⟩
 rw[Ox];by_cases Aa:i.op=15
 ·obtain⟨x,hx⟩:=lg (lK.trans (hi.c1 (by omega))) (k:=0) (by omega);have hC:=zU bG ht.gO ht.outs i args hl Aa x hx hm.out;have ew:(m.effect i args).1.sid=m.sid∧(m.effect i args).1.frames=m.frames∧(m.effect i args).1.heap=m.heap∧(m.effect i args).1.next=m.next:=by
   unfold Mach.effect;rw[if_pos Aa];split
   ·simp
   split<;>simp
  obtain⟨b1,b2,b3,b4⟩:=ew;have jD:=ht.S3 (m.effect i args).1 b1 b2 b3 b4;have hv:SV.bp O.length (m.effect i args).2.1:=ht.under (lM.val.of_heap (by rw[b3]));exact⟨_,oD bG i args hl h0 h1 h8 h9 HT HU dH mq _ _ hv hC (by simp) jD.upto,jD,by simp⟩
 by_cases Bf:i.op=18
 ·obtain⟨x,y,e⟩:=FY (lK.trans (hi.c2 (by omega)));subst e;have hC:=zT (u:=u) (m:=m) bG i x y (hl x (by simp)) (hl y (by simp)) mq Bf;have ew:(m.effect i [x,y]).1=m:=by
   unfold Mach.effect;rw[if_neg (by omega),if_neg (by omega),if_pos Bf];split
   ·rfl
   split<;>rfl
  have hv:SV.bp O.length (m.effect i [x,y]).2.1:=ht.under (lM.val.of_heap (by rw[ew]));exact⟨O,oD bG i [x,y] hl h0 h1 h8 h9 HT HU dH mq _ _ hv hC rfl bG,by rw[ew];exact ht,Nat.le_refl _⟩
 have hlen:0<args.length∧(i.op≠17->2<=args.length)∧(i.op≠17->i.op≠19->3<=args.length):=by
  rcases(show i.op=17∨i.op=19∨i.op=20 by omega)with q|q|q
  ·have:=hi.c1 (by omega);omega
  ·have:=hi.c2 (by omega);omega
  have:=hi.c3 (by omega);omega
 obtain⟨x,hx⟩:=lg rfl hlen.1;have Nk:=List.mem_of_getElem? hx;obtain⟨O',hC,fq⟩:=Ej (m:=m) bG i args hl x hx Aa yB Bf (fun a=>lg rfl (hlen.2.1 a)) (fun a b=>lg rfl (hlen.2.2 a b)) (DO ht hm (ha x Nk) _ rfl) (fun hk=>by
  obtain⟨a,Ja,e1,e2⟩:=Jw hm (ha x Nk) hk;obtain⟨r1,r2⟩:=ht.arr Ja;refine⟨a.l8,a.eg,e1,?_,?_⟩
  ·rw[e2];exact r1
  rw[e2];exact r2)
 rcases fq with⟨e1,e2⟩|⟨l8,eg,k,z,l,e1,e2,e3,e4,e5,e6,e7,e8⟩
 ·have hv:SV.bp O.length (m.effect i args).2.1:=ht.under (lM.val.of_heap (by rw[e2]));subst e1;exact⟨O',oD bG i args hl h0 h1 h8 h9 HT HU dH mq _ _ hv hC rfl bG,by rw[e2];exact ht,Nat.le_refl _⟩
 obtain⟨a,Ja,f1,f2⟩:=pt m.heap l8 (SV.Wf.ref (ha x Nk) l8 e1);have hla:l=a.l:=by rw[e5,e1,f2]
 obtain⟨r1,r2⟩:=ht.arr Ja;have hb:eg=a.eg:=by
  rw[f1,e2]at r1;simp only[Option.some.injEq,aj.cells.injEq,List.cons.injEq,ae.ms.injEq]at r1;exact r1.1.1
 have jD:=ht.Pn Ja (l.set k z) (by rw[List.length_set,hla]) (fun v hv=>by
  rcases List.mem_or_eq_of_mem_set hv with q|q
  ·rw[hla]at q;exact ht.under ((hm.ig a Ja).2 v q)
  rw[q];exact e6) (m.effect i args).1 (by rw[e8,e1,f1])
 rw[<-hb,<-e7]at jD;have hlO:O.length=O'.length:=by rw[e7];simp
 have hv:SV.bp O.length (m.effect i args).2.1:=by
  have:=jD.under lM.val;rw[<-hlO]at this;exact this
 exact⟨O',oD bG i args hl h0 h1 h8 h9 HT HU dH mq _ _ hv hC hlO jD.upto,jD,by omega⟩
theorem Tl.of_eq{u:bY}{m m':Mach}{rest:List ae}{O O':List aj}(h:Tl u m rest O)(e:m'=m)(e':O'=O):Tl u m' rest O':=by
 subst e;subst e';exact h
theorem ky{f:Fr}{r:List Fr}{rest:List ae}:(fp (f::r)++rest)[r.length]?=some (.mp f.bW 0):=by
 have h:fp (f::r)=r.reverse.map (fun f=>ae.mp f.bW 0)++[.mp f.bW 0]:=by simp[fp]
 rw[h,List.append_assoc];have hl:(r.reverse.map (fun f=>ae.mp f.bW 0)).length=r.length:=by simp
 rw[List.getElem?_append_right (by omega),hl,Nat.sub_self];rfl
theorem IP{f g:Fr}{r:List Fr}{rest:List ae}:(fp (f::g::r)++rest)[r.length]?=some (.mp g.bW 0):=by
 have h:fp (f::g::r)++rest=fp (g::r)++(.mp f.bW 0::rest):=by simp[fp]
 rw[h];exact ky
theorem Tl.apart{u:bY}{m:Mach}{rest:List ae}{O:List aj}(ht:Tl u m rest O){f:Fr}{r:List Fr}(dQ:m.frames=f::r):f.bW≠2∧f.dx≠2∧f.bW≠f.dx:=by
 obtain⟨_,hk,uM,_⟩:=ht.others;rw[dQ]at hk uM;refine⟨(hk f.bW ?_).2.1,(hk f.dx ?_).2.1,?_⟩
 ·rw[eJ];exact List.mem_append.2 (.inl (il (Tl.pB (f:=f) (by simp)).1))
 ·rw[eJ];exact List.mem_append.2 (.inl (il (Tl.pB (f:=f) (by simp)).2))
 simp only[mT,List.cons_append,jR,List.nodup_cons,List.mem_cons,not_or]at uM;exact uM.1.1
theorem Tl.RA{u:bY}{m:Mach}{rest:List ae}{O:List aj}(ht:Tl u m rest O){g:Fr}(hg:g∈m.frames):g.bW≠2∧g.dx≠2:=by
 obtain⟨_,hk,uM,_⟩:=ht.others;refine⟨(hk g.bW ?_).2.1,(hk g.dx ?_).2.1⟩
 ·rw[eJ];exact List.mem_append.2 (.inl (il (Tl.pB hg).1))
 rw[eJ];exact List.mem_append.2 (.inl (il (Tl.pB hg).2))
theorem xZ(m:Mach)(f g:Fr):(m.bu f).bu g=m.bu g:=rfl
theorem rF{u:bY}{m:Mach}{rest:List ae}{O:List aj}(ht:Tl u m rest O)(hm:bR u m){f:Fr}{r:List Fr}(dQ:m.frames=f::r){e:Edge}(he:zz (aL u f.fn) e) :
  ∃O',bd Tryz.prog 129 O [.mp 2 0,.mp f.bW 0,e.enc] (fun r O1=>r=.cD []∧O1=O')∧Tl u (m.follow u f e) rest O'∧O.length=O'.length:=by
 have eh:=hm.frames f (by rw[dQ];simp);obtain⟨t1,t2⟩:=ht.frame (f:=f) (by rw[dQ];simp);obtain⟨n1,n2,n3⟩:=ht.apart dQ;have hu:∀e∈f.vals,SV.bp O.length e.2:=fun e he=>ht.under (eh.vals e he);obtain⟨f',fC⟩:∃f',f' = { f with blk:=e.block,pos:=0,vals:=cN f.vals (ax (aL u f.fn) e.block).params (cB f.vals e.args) }:=⟨_,rfl⟩
 have hC:=B1 ht.upto ht.gO f t1 t2 hu n1.symm n2.symm n3 eh.fn e he f' fC;have h1:=ht.bu (f':={ f' with vals:=f.vals }) dQ (by rw[fC]) (by rw[fC]) rfl;have KG:aX { f' with vals:=f.vals }=aX f':=rfl;rw[KG]at h1;have h2:=h1.AR (f:={ f' with vals:=f.vals }) (f':=f') (r:=r) (by simp[Mach.bu,dQ]) rfl (by
  rw[List.length_set,fC];intro x hx;rcases k7 hx with q|q
  ·exact hu x q
  exact pg hu e.args _ q)
 rw[xZ]at h2;have xN:f'.dx=f.dx:=by rw[fC]
 have eX:m.follow u f e=m.bu f':=by rw[fC];rfl
 rw[eX];refine⟨_,hC,?_,by simp⟩;exact h2.of_eq rfl (by rw[<-xN])
theorem z8{u:bY}{m:Mach}{rest:List ae}{O:List aj}(ht:Tl u m rest O)(hm:bR u m){f:Fr}{r:List Fr}(dQ:m.frames=f::r){t:Term}(rO:zA (aL u f.fn) t) :
  ∃O' C3,bd Tryz.prog 112 O [.mp 2 0,.mp f.bW 0,t.enc] (fun r O1=>r=.cD []∧O1=O')∧Tl u (m.finish u f t) C3 O'∧O.length=O'.length:=by
 have eh:=hm.frames f (by rw[dQ];simp);obtain⟨t1,t2⟩:=ht.frame (f:=f) (by rw[dQ];simp);obtain⟨n1,n2,n3⟩:=ht.apart dQ;obtain⟨_,_,_,s1,s2,s3,s4,s5⟩:=ht.others;have hu:∀e∈f.vals,SV.bp O.length e.2:=fun e he=>ht.under (eh.vals e he);have hk:=rO.kind;unfold Mach.finish;by_cases h4:t.kind=4
 ·rw[if_pos h4];exact⟨_,rest,Kb ht.upto ht.gO f t1 t2 hu n3 t h4,ht.pR (m.stop t.n 0) rfl rfl rfl rfl rfl,by simp⟩
 rw[if_neg h4];by_cases h1:t.kind=1
 ·rw[if_pos h1];have hl:=rO.jump h1;have he:t.to[0]?=some (t.to[0]'(by omega)):=List.getElem?_eq_getElem _;obtain⟨O',q1,q2,q3⟩:=rF ht hm dQ (rO.fZ _ (List.mem_of_getElem? he));refine⟨O',rest,Ka ht.upto ht.gO f t1 t2 hu n3 t h1 _ he q1 q3 q2.upto,?_,q3⟩;rw[he];exact q2
 rw[if_neg h1];by_cases h0:t.kind=0
 ·rw[if_pos h0];have hv:=z' eh.vals t.arg;have qH:=ht.under hv;cases hr:r with
  | nil =>
   subst hr;have hC:=E9 ht.upto ht.gO f dQ (I t1) _ qH;have jD:=ht.last dQ (m.leave f (fk f.vals t.arg)) (by simp[Mach.leave,dQ,Mach.stop]) (by simp[Mach.leave,dQ,Mach.stop]) (by simp[Mach.leave,dQ,Mach.stop]) (by simp[Mach.leave,dQ,Mach.stop]) (by simp[Mach.leave,dQ,Mach.stop]);exact⟨_,_,Gl ht.upto ht.gO f t1 t2 hu n3 t h0 hC (by simp) jD.upto,jD,by simp⟩
  | cons g r' =>
   subst hr;have hg:g∈m.frames:=by rw[dQ];simp
   obtain⟨g1,g2⟩:=ht.frame hg;obtain⟨k1,k2⟩:=ht.RA hg;have WU:∀e∈g.vals,SV.bp O.length e.2:=fun e he=>ht.under ((hm.frames g hg).vals e he);have ll:r'.length<=2 ^ 40:=by
    have h1:=hm.depth;have h2:=hm.left;rw[dQ]at h1;simp only[List.length_cons]at h1;omega
   have fq:=ht.stack;rw[dQ]at fq;have hC:=Fa ht.upto ht.gO f g r' dQ t1 g1 g2 WU fq IP s2 ll n1 k1 k2 _ qH;have eX:m.leave f (fk f.vals t.arg) = { m with frames:={ g with vals:=cJ g.vals f.to (fk f.vals t.arg) }::r' }:=by
    unfold Mach.leave;rw[dQ];rfl
   have jD:=ht.pop (g':={ g with vals:=cJ g.vals f.to (fk f.vals t.arg) }) dQ rfl (fun x hx=>by
    rcases jU hx with q|q
    ·exact WU x q
    rw[q];exact qH) _ eX
   exact⟨_,_,Gl ht.upto ht.gO f t1 t2 hu n3 t h0 hC (by simp) jD.upto,jD,by simp⟩
 rw[if_neg h0];by_cases hV:(fk f.vals t.arg).kind=0
 ·rw[if_neg (by simp[hV])];obtain⟨e,he⟩:=sE rO h0 h1 h4 (fk f.vals t.arg).n;obtain⟨O',q1,q2,q3⟩:=rF ht hm dQ (rO.fZ _ (List.mem_of_getElem? he));refine⟨O',rest,Em ht.upto ht.gO f t1 t2 hu n3 t ⟨h0,h1,h4⟩ hV (by have:=rO.cl;omega) e he q1 q3 q2.upto,?_,q3⟩;rw[he];exact q2
 rw[if_pos hV];exact⟨_,rest,Kc ht.upto ht.gO f t1 t2 hu n3 t ⟨h0,h1,h4⟩ hV,ht.pR (m.stop 5 0) rfl rfl rfl rfl rfl,by simp⟩
theorem FT{u:bY}{m:Mach}{rest:List ae}{O:List aj}(hu:gd u)(ht:Tl u m rest O)(hm:bR u m)(ho:m.over=false)(hd:m.frames.length+m.left+1<=2 ^ 40) :
  ∃O' C3,bd Tryz.prog 83 O [.mp 2 0] (fun r O1=>r=.cD []∧O1=O')∧Tl u (m.step u) C3 O'∧O.length<=O'.length:=by
 obtain⟨ct,kG⟩:=hm.over ho;unfold Mach.step;cases dQ:m.frames with
 | nil=>exact absurd dQ ct
 | cons f r =>
  have eh:=hm.frames f (by rw[dQ];simp);obtain⟨t1,t2⟩:=ht.frame (f:=f) (by rw[dQ];simp);obtain⟨n1,n2,n3⟩:=ht.apart dQ;obtain⟨_,_,_,s1,s2,s3,s4,s5⟩:=ht.others;have SN:∀e∈f.vals,SV.bp O.length e.2:=fun e he=>ht.under (eh.vals e he);have fq:=ht.stack;rw[dQ]at fq;have ll:r.length<=2 ^ 40:=by
   have h2:=hm.left;rw[dQ]at hd;simp only[List.length_cons]at hd;omega
  have hF:=kT eh.fn.1 eh.fn.2;have hB:=ep eh.blk.1 eh.blk.2;have R6:=hu.blocks _ (ko eh.fn.1 eh.fn.2) _ (gx eh.blk.1 eh.blk.2);simp only;cases hi:(ax (aL u f.fn) f.blk).ins[f.pos]? with
  | none =>
   have oN:f.pos=(ax (aL u f.fn) f.blk).ins.length:=by
    have:=List.getElem?_eq_none_iff.1 hi;have:=eh.pos;omega
   obtain⟨O',C3,q1,q2,q3⟩:=z8 ht hm dQ R6.term;exact⟨O',C3,step_end ht.upto ht.gO f r dQ t1 n1 fq ky ll _ hF eh.fn.1 _ hB eh.blk.1 oN q1 (by omega) q2.upto,q2,by omega⟩
  | some i =>
   simp only;have Bg:=R6.ins i (List.mem_of_getElem? hi);have bg:=I hi;have pW:=R6.len;obtain⟨f',fC⟩:∃f',f' = { f with pos:=f.pos+1 }:=⟨_,rfl⟩
   rw[<-fC];have TV:f'.vals=f.vals:=by rw[fC]
   have kp:f'.bW=f.bW:=by rw[fC]
   have xN:f'.dx=f.dx:=by rw[fC]
   obtain⟨O1,dV⟩:∃O1,O1=O.set f.bW (.cells (aX f')):=⟨_,rfl⟩
   have h1:=ht.bu (f':=f') dQ kp xN TV;rw[<-dV]at h1;have eO:O.length=O1.length:=by rw[dV];simp
   have nq:mX u m f':=by
    rw[fC];exact⟨eh.fn,eh.blk,bg,eh.vals⟩
   have oL:bR u (m.bu f'):=hm.bu ct nq;have xJ:(m.bu f').frames=f'::r:=by simp[Mach.bu,dQ]
   have Je:aE u (m.bu f')=aE u m:=by simp[aE,Mach.bu,dQ]
   have uw:O1[2]?=some (.cells (aE u m)):=by rw[<-Je];exact h1.gO
   obtain⟨args,fG⟩:∃args,args=cB f.vals i.args:=⟨_,rfl⟩
   rw[<-fG];have lK:args.length=i.args.length:=by rw[fG];exact pT _ _
   have R4:∀v∈args,gH u (m.bu f') v:=by
    rw[fG];exact fun v hv=>(pf eh.vals i.args v hv).of_heap (by rfl)
   have R3:∀v∈args,SV.bp O1.length v:=fun v hv=>h1.under (R4 v hv);have SK:=h1.stack;have X4:(m.bu f').frames.length<=2 ^ 41:=by
    rw[xJ];simp only[List.length_cons];omega
   have Q8:∀fn:Int,0<=fn∧fn<u.fns.length->(ax (aL u fn) 0).params.length=args.length ->
     ∃O',bd Tryz.prog 81 O1 [.mp 2 0,aI fn,.aC 4 (args.map SV.enc) .sh,aI i.to] (fun r O2=>r=.cD []∧O2=O')∧Tl u ((m.bu f').enter u fn args i.to) [] O'∧O.length<=O'.length:=fun fn mV hp=>by
    have hC:=Er h1.upto h1.gO SK (by simp[fp]) s2 h1.len X4 fn mV (hu.ne _ (ko mV.1 mV.2)).1 args R3 hp i.to;have jD:=h1.push fn i.to args _ rfl R3;exact⟨_,hC,jD,by simp;omega⟩
   unfold Mach.act;by_cases vP:i.op=13
   ·rw[if_pos vP];obtain⟨c1,c2,c3⟩:=Bg.call vP;obtain⟨O',q1,q2,q3⟩:=Q8 i.n ⟨c1,c2⟩ (by rw[lK];exact c3);exact⟨O',[],IS ht.upto ht.gO f r dQ t1 n1 fq ky ll _ hF eh.fn.1 _ hB eh.blk.1 t2 n3 SN i hi (by omega) Bg.len f' fC args fG O1 dV vP q1 q3 q2.upto,q2,q3⟩
   rw[if_neg vP];by_cases xG:i.op=14
   ·rw[if_pos xG];obtain⟨c,hc⟩:=lg (lK.trans rfl) (k:=0) (by have:=Bg.app xG;omega);have hac:=gf hc;rw[hac];have Jb:=R4 c (List.mem_of_getElem? hc);have jD:=h1.pR ((m.bu f').stop 5 0) rfl rfl rfl rfl rfl;have kr:aE u ((m.bu f').stop 5 0)=aE u (m.stop 5 0):=by simp[aE,Mach.bu,Mach.stop,dQ]
    by_cases hk:c.kind=2
    ·obtain⟨k1,k2⟩:=SV.Wf.fn Jb hk;have hG:=kT k1 k2;have hD:(aL u c.n).blocks[0]?=some (ax (aL u c.n) 0):=by
      obtain⟨z1,z2⟩:=Um hu k1 k2;exact ep z1 z2
     by_cases hp:(ax (aL u c.n) 0).params.length=args.length
     ·rw[if_pos ⟨hk,hp⟩];obtain⟨O',q1,q2,q3⟩:=Q8 c.n ⟨k1,k2⟩ hp;exact⟨O',[],L9 ht.upto ht.gO f r dQ t1 n1 fq ky ll _ hF eh.fn.1 _ hB eh.blk.1 t2 n3 SN i hi (by omega) Bg.len f' fC args fG O1 dV xG c hc hk k1 _ hG _ hD hp R3 q1 q3 q2.upto uw,q2,q3⟩
     rw[if_neg (fun q=>hp q.2)];refine⟨_,rest,A1 ht.upto ht.gO f r dQ t1 n1 fq ky ll _ hF eh.fn.1 _ hB eh.blk.1 t2 n3 SN i hi (by omega) Bg.len f' fC args fG O1 dV xG c hc hk k1 _ hG _ hD hp R3 uw,?_,by simp;omega⟩;rw[<-kr];exact jD
    rw[if_neg (fun q=>hk q.1)];refine⟨_,rest,x9 ht.upto ht.gO f r dQ t1 n1 fq ky ll _ hF eh.fn.1 _ hB eh.blk.1 t2 n3 SN i hi (by omega) Bg.len f' fC args fG O1 dV xG c hc hk R3 uw,?_,by simp;omega⟩;rw[<-kr];exact jD
   rw[if_neg xG];have YL:(m.bu f').short=false:=kG;obtain⟨O2,q1,q2,q3⟩:=Ev h1 oL YL Bg vP xG lK R4;have lM:=uG oL Bg lK R4;generalize (m.bu f').exec i args=R at *;have HO:R.1.frames=f'::r:=by rw[lM.frames,xJ]
   obtain⟨w1,w2⟩:=q2.frame (f:=f') (by rw[HO];simp);rw[kp]at w1;rw[xN,TV]at w2;have qH:=q2.under lM.val;have uO:∀e∈f.vals,SV.bp O2.length e.2:=fun e he=>(SN e he).mono (by omega);have huP:∀e∈cJ f.vals i.to R.2.1,SV.bp O2.length e.2:=fun x hx=>by
    rcases jU hx with q|q
    ·exact uO x q
    rw[q];exact qH
   unfold Mach.settle;rw[TV];by_cases TT:R.2.2=0
   ·rw[if_neg (by simp[TT])];have hC:=IT ht.upto ht.gO f r dQ t1 n1 fq ky ll _ hF eh.fn.1 _ hB eh.blk.1 t2 n3 SN i hi (by omega) Bg.len f' fC args fG O1 dV ⟨vP,xG⟩ R.2.1 R.2.2 q1 (by omega) q2.upto qH R.1 q2.gO w1 w2 uO n2 TT;have jD:=q2.AR (f':={ f' with vals:=cJ f.vals i.to R.2.1 }) HO rfl huP;exact⟨_,rest,hC,jD.of_eq rfl (by rw[xN]),by simp;omega⟩
   rw[if_pos TT];have hC:=IV ht.upto ht.gO f r dQ t1 n1 fq ky ll _ hF eh.fn.1 _ hB eh.blk.1 t2 n3 SN i hi (by omega) Bg.len f' fC args fG O1 dV ⟨vP,xG⟩ R.2.1 R.2.2 q1 (by omega) q2.upto qH R.1 q2.gO w1 w2 uO n2 TT;have q4:=q2.pR (R.1.stop R.2.2 0) rfl rfl rfl rfl rfl;have jD:=q4.AR (f':={ f' with vals:=cJ f.vals i.to R.2.1 }) HO rfl (by
    rw[List.length_set];exact huP)
   exact⟨_,rest,hC,jD.of_eq rfl (by rw[xN]),by simp;omega⟩
def Nr.enc(a:Nr):ae:=.cD [.agg [.aC 1 (a.out.map aI) .sh,aI a.fin,aI a.val],aI a.n,aI a.e]
theorem Eh{f:FuncId}{O:List aj}{a b d:ae}{sz:Nat}{R:ae->List aj->Prop}(h:bd Tryz.prog f O [a,b,.aC sz [] .sh,d] R):bd Tryz.prog f O [a,b,.v (.slice none 0 0),d] R :=
 ⟨h.1,fun g vs hg ho ha=>h.2 g vs hg ho ⟨ha.1,fun i c u hc hu=>by
  match i,hc,hu with
  | 0,hc,hu=>exact ha.2 0 c u hc hu
  | 1,hc,hu=>exact ha.2 1 c u hc hu
  | 2,hc,hu =>
   simp only[List.getElem?_cons_succ,List.getElem?_cons_zero,Option.some.injEq]at hc;subst hc;have:=(ha.2 2 _ u rfl hu).cb.1;subst this;exact .nil (fun id e=>by cases e) (by simp)
  | 3,hc,hu=>exact ha.2 3 c u hc hu
  | i+4,hc,_=>simp at hc⟩⟩
theorem w7{u:bY}(hu:gd u){fuel:Int}(h0:0<=fuel)(h1:fuel<=1000000):bR u ((Mach.start fuel).enter u u.main [] 0):=by
 have hs:bR u { Mach.start fuel with over:=true } :=
  ⟨by simp[Mach.start],by simp[Mach.start],h0,by simp[Mach.start];omega,by simp[Mach.start],by simp[Mach.start],by simp[Mach.start],by simp[Mach.start,fU],by simp[Mach.start],by simp⟩
 have h:=hs.enter hu (by simp) (by simp[Mach.start];omega) hu.main (args:=[]) (by simp) 0;exact⟨fun f hf=>(h.frames f hf).of_heap (by rfl),fun a ha=>by simp[Mach.start,Mach.enter]at ha,h.left,h.depth,h.out,h.words,h.fin,h.val,h.done,fun _=>⟨by simp[Mach.enter],rfl⟩⟩
theorem Di{u:bY}(hu:gd u){fuel:Int}(hp:(ax (aL u u.main) 0).params=[]):Tl u ((Mach.start fuel).enter u u.main [] 0) [] [.gone,.cells [.aC 1 [] .ex,aI 0,aI 0],.cells (aE u ((Mach.start fuel).enter u u.main [] 0)),.spare 0,.map (.int .i64) [],.cells [aI u.main,aI 0,aI 0,aI 0,.mm 4],.cells [.mp 5 0]] where
 len:=rfl
 upto:=by simp[aj.upto,aw,lD,ae.upto,aE,Func.ag,Mach.enter,Mach.start]
 holds:=by
  intro p Q7;simp only[ca,Mach.enter,Mach.start,mT,dP,hp,cN,List.append_nil,List.mem_cons,List.mem_nil_iff,or_false,List.mem_append]at Q7;rcases Q7 with rfl|rfl|rfl|rfl|rfl|rfl
  all_goals rfl
 nodup:=by
  simp[eU,ca,Mach.enter,Mach.start,mT,dP]
theorem LO{u:bY}{m:Mach}(h:m.over=true)(k:Nat):Mach.run u k m=m:=by
 cases k with
 | zero=>rfl
 | succ k=>simp[Mach.run,h]
theorem rX{u:bY}(hu:gd u){fuel:Int}(Vb:0<=fuel)(nq:fuel<=1000000):bD Tryz.prog 54 [u.enc,aI fuel] (bI u fuel).enc:=by
 have hp:=hu.none;have HM:=Eh (BW (fuel:=fuel) hu.main (hu.ne _ (ko hu.main.1 hu.main.2)).1 hp 4 .sh);have fq:=Di hu (fuel:=fuel) hp;have YP:=w7 hu Vb nq;obtain⟨K,hK⟩:∃K,K=fuel.toNat+2:=⟨_,rfl⟩
 obtain⟨E,hE⟩:∃E,E=Mach.run u K ((Mach.start fuel).enter u u.main [] 0):=⟨_,rfl⟩
 have eX:bI u fuel=if E.short then⟨[],0,0,0,13⟩else⟨E.out,E.fin,E.val,fuel-E.left,0⟩:=by
  rw[hE,hK];rfl
 rw[eX];have QZ:((Mach.start fuel).enter u u.main [] 0).left=fuel:=rfl;unfold As at HM;generalize mq:(Mach.start fuel).enter u u.main [] 0=m0 at *;refine zf true 0 Tryz.func54 Tryz.ntmps54 ?_;dsimp only[Tmp,TypeId,slotsOf];refine aA (ah ?_);refine aD 2 0 (.ip none [bn u.fns,aI u.main]) rfl (by simp[aj.aF]) trivial rfl ?_ ?_;rotate_left;simp -dsimp only[simprocAttr,↓aa,zp]
 ·refine aA (ah ?_);refine db 2 6 rfl rfl ?_;simp -dsimp only[simprocAttr,↓aa,zp];refine aA ?_;refine .inr (.inl ⟨_,_,HM,.inl (ao (zj ?_))⟩);refine ah ?_;refine aJ (ai (aO (ι:={p:Mach×List ae×List aj // bR u p.1∧Tl u p.1 p.2.1 p.2.2∧p.1.left<=fuel∧∃k,p.1.left.toNat+2<=k∧Mach.run u k p.1=E}) (fun p=>⟨45,[(1,aI fuel),(4,.mp 1 0),(5,aI 0),(6,aI 0),(7,.mp 2 0)],p.1.2.2⟩) (fun p=>p.1.1.left.toNat) ⟨(m0,[],_),YP,fq,by simp only[QZ];omega,K,by simp only[QZ];omega,hE.symm⟩ ?_ ?_))
  ·refine zq rfl ?_ ?_;simp -dsimp only[simprocAttr,↓aa,zp,zc];rfl
  rintro⟨⟨m,rest,O⟩,hm,ht,hlf,k,hk,bJ⟩;simp only at hm ht hlf hk bJ;have Ah:=ht.gO;unfold aE at Ah;have aag:=hm.depth;have QY:=hm.left;have ux:O[1]?=some (.cells [.aC 1 [] .ex,aI 0,aI 0]):=ht.holds (1,_) (by simp[ca]);have yK:=dz ux;have Na:=I ht.gO;have xP:=wJ ht.upto ht.gO 1 QY (by omega) (by omega);cases od:m.over with
  | true =>
   rw[LO od]at bJ;subst bJ;rw[od]at Ah;refine c9 ?_;simp -dsimp only[simprocAttr,↓aa,zp,Ah];refine ah ?_;refine cr rfl ?_;refine aM ?_;simp -dsimp only[bS,ne_eq,Nat.reduceEqDiff,reduceCtorEq];cases kG:m.short with
   | true =>
    rw[kG]at Ah;refine c9 ?_;simp -dsimp only[simprocAttr,↓aa,zp,Ah];refine ah ?_;refine cH rfl ?_;refine aS ?_;simp -dsimp only[simprocAttr,↓aa,zp,ux];refine ah ?_;refine aq ?_;simp -dsimp only[simprocAttr,↓aa,zp,zr,Tryz.results54,yK];exact⟨by simp[aw,ae.upto],rfl⟩
   | false =>
    rw[kG]at Ah;refine c9 ?_;simp -dsimp only[simprocAttr,↓aa,zp,Ah];refine ah ?_;refine cr rfl ?_;refine cd ?_;refine aS ?_;simp -dsimp only[simprocAttr,↓aa,zp,Ah,ux]
    repeat(refine⟨by omega,?_⟩)
    refine⟨cg [1,2] O.length [.pure,.pure,.pure,.rd 1,.pure,.pure,.pure,.pure,.rd 1,.pure,.wr 2 [0],.pure,.pure] (by simp) (by simp;omega) rfl rfl (by kernel_rfl),ba ?_⟩;simp -dsimp only[bS,ne_eq,Nat.reduceEqDiff,reduceCtorEq];refine aq ?_;simp -dsimp only[simprocAttr,↓aa,zp,zr,Tryz.results54,yK];exact⟨by simp[aw,ae.upto,az],rfl⟩
  | false =>
   obtain⟨k,rfl⟩:∃j,k=j+1:=⟨k-1,by omega⟩
   have GC:(if(m.cU 1).short then m.cU 1 else Mach.run u k (Mach.step u (m.cU 1)))=E:=by
    rw[<-bJ];simp[Mach.run,od]
   have V4:=ht.pR (m.cU 1) (gW m 1).2.2.2.2.2.1 (gW m 1).1 (gW m 1).2.1 (by rw[(gW m 1).2.2.1]) (gW m 1).2.2.2.2.2.2;have uw:=V4.gO;have Ra:(O.set 2 (.cells (aE u (m.cU 1))))[1]?=some (.cells [.aC 1 [] .ex,aI 0,aI 0]):=V4.holds (1,_) (by simp[ca]);have VV:=dz Ra;rw[od]at Ah;by_cases EV:m.left<1
   ·have rL:(m.cU 1).short=true:=by simp[Mach.cU,EV]
    rw[rL,if_pos rfl]at GC;have TE:E.short=true:=by
     rw[<-GC];exact rL
    obtain⟨O1,dV⟩:∃O1,O1=O.set 2 (.cells (aE u (m.cU 1))):=⟨_,rfl⟩
    rw[<-dV]at xP uw Ra;simp only[<-dV]at VV;unfold aE at uw;rw[rL]at uw;refine c9 ?_;simp -dsimp only[simprocAttr,↓aa,zp,Ah];refine ah ?_;refine cH rfl ?_;refine cd ?_;refine ai ?_;refine aA ?_;refine .inr (.inl ⟨_,_,xP,.inl (ao (zj ?_))⟩);refine ah ?_;refine c9 ?_;simp -dsimp only[simprocAttr,↓aa,zp,uw];refine ah ?_;refine cH rfl ?_;refine aS ?_;simp -dsimp only[simprocAttr,↓aa,zp,Ra];refine ah ?_;refine aq ?_;simp -dsimp only[simprocAttr,↓aa,zp,zr,Tryz.results54,VV,TE];exact⟨by simp[aw,ae.upto],rfl⟩
   have xM:m.cU 1 = { m with left:=m.left-1 }:=by simp[Mach.cU,EV]
   have rL:(m.cU 1).short=false:=by
    rw[xM];exact(hm.over od).2
   have SB:(m.cU 1).over=false:=by
    rw[xM];exact od
   have oL:bR u (m.cU 1):=by
    rw[xM];exact⟨fun f hf=>(hm.frames f hf).of_heap (by rfl),fun a ha=>⟨(hm.ig a ha).1,fun v hv=>((hm.ig a ha).2 v hv).of_heap (by rfl)⟩,by simp;omega,by simp;omega,hm.out,hm.words,hm.fin,hm.val,hm.done,fun h=>hm.over h⟩
   have sQ:(m.cU 1).frames.length+(m.cU 1).left+1<=2 ^ 40:=by
    rw[xM];simp;omega
   obtain⟨O2,Wp,q1,q2,q3⟩:=FT hu V4 oL SB sQ;have sT:=oL.step hu SB sQ;have mW:(Mach.step u (m.cU 1)).left<=m.left-1:=by
    have:=tj u (m.cU 1) oL hu SB;rw[xM]at this ⊢;exact this
   have aap:=sT.left;rw[rL,if_neg (by simp)]at GC;obtain⟨O1,dV⟩:∃O1,O1=O.set 2 (.cells (aE u (m.cU 1))):=⟨_,rfl⟩
   rw[<-dV]at xP uw q1;unfold aE at uw;rw[rL]at uw;refine c9 ?_;simp -dsimp only[simprocAttr,↓aa,zp,Ah];refine ah ?_;refine cH rfl ?_;refine cd ?_;refine ai ?_;refine aA ?_;refine .inr (.inl ⟨_,_,xP,.inl (ao (zj ?_))⟩);refine ah ?_;refine c9 ?_;simp -dsimp only[simprocAttr,↓aa,zp,uw];refine ah ?_;refine cr rfl ?_;refine cd ?_;refine cT ?_;refine .inr (.inl ⟨_,_,q1,.inl (ao (zj ?_))⟩);refine Zf ?_;refine⟨⟨(Mach.step u (m.cU 1),Wp,O2),sT,q2,by simp only;omega,k,by simp only;omega,GC⟩,by simp only;omega,?_⟩;refine zq rfl ?_ ?_;simp -dsimp only[simprocAttr,↓aa,zp,zc];rfl
 exact bQ.mp rfl rfl
theorem vq{u:bY}:∀{l:List Ins},qx u l=0->∀i∈l,jJ u i=0
 | [],_,f,h=>by simp at h
 | g::r,h,f,hf=>by
  have:=js h;rcases List.mem_cons.1 hf with q|q
  ·subst q;exact this.1
  exact vq this.2 f q
theorem vp{u:bY}:∀{l:List Block},m9 u l=0->∀b∈l,∀i∈b.ins,jJ u i=0
 | [],_,f,h=>by simp at h
 | g::r,h,f,hf=>by
  have:=js h;rcases List.mem_cons.1 hf with q|q
  ·subst q;exact vq this.1
  exact vp this.2 f q
theorem qw{u:bY}:∀{l:List Func},kD u l=0->∀f∈l,∀b∈f.blocks,∀i∈b.ins,jJ u i=0
 | [],_,f,h=>by simp at h
 | g::r,h,f,hf=>by
  have:=js h;rcases List.mem_cons.1 hf with q|q
  ·subst q;exact vp this.1
  exact qw this.2 f q
theorem BA{u:bY}{i:Ins}(h:jJ u i=0):(i.op=13∨i.op=9->i.n<u.fns.length)∧(i.op=13->(ax (aL u i.n) 0).params.length=i.args.length)∧(i.op=9->(ax (aL u i.n) 0).params.length≠0):=by
 unfold jJ at h;split at h
 ·exact⟨by omega,by omega,by omega⟩
 split at h
 ·simp at h
 split at h
 ·simp at h
 exact⟨by omega,by omega,by omega⟩
structure Uc(u:bY):Prop where
 few:u.fns.length<=256
 main:0<=u.main∧u.main<u.fns.length
 none:(ax (aL u u.main) 0).params=[]
 fns:∀f∈u.fns,QB f
 calls:∀f∈u.fns,∀b∈f.blocks,∀i∈b.ins,jJ u i=0
theorem JU{u:bY}(a8:u.fit)(h:gD u=0):Uc u:=by
 unfold gD at h;split at h
 ·simp at h
 split at h
 ·simp at h
 split at h
 ·simp at h
 rename_i h3;have h4:=js h;have h5:=h4.2;split at h5
 ·simp at h5
 rename_i h6;have hw:0<=u.main∧u.main<=(u.fns.length:Int)-1:=by simpa[within]using h3
 refine⟨by omega,by omega,List.length_eq_zero_iff.1 (by omega),fun f hf=>c6 (a8.2.2 f hf) (qF h4.1 f hf),qw h5⟩
theorem G3{u:bY}(a8:u.fit)(h:gD u=0):gd u:=by
 have hw:=JU a8 h;refine⟨hw.main,hw.few,hw.none,fun f hf=>⟨(hw.fns f hf).ne,by have:=(hw.fns f hf).few;omega⟩,fun f hf b hb=>?_⟩;have hF:=hw.fns f hf;have hB:=hF.blk b hb;have hE:=jm hB.fin;refine⟨fun i hi=>?_,⟨hE.kind,?_,hE.jump,hE.cond,hE.switch,fun e he=>?_,by have:=hE.cases;omega⟩,by have:=hF.ins b hb;omega⟩
 ·have ga:=uH (hB.Gm i hi);have hc:=BA (hw.calls f hf b hb i hi);have Sl:=((a8.2.2 f hf).2.2 b hb).2.2.2.1 i hi;have hlen:=ga.len;refine⟨.inl ga.op,by omega,⟨Sl.1,Sl.2.2.1⟩,fun q=>(ga.c0 q).1,ga.c2,fun q=>ga.c1 (by have:=ga.op;omega),ga.c3,fun q=>⟨?_,hlen⟩,fun q=>?_,fun q=>?_,ga.app,ga.Wq,fun _=>hlen,ga.vec⟩
  ·have:=ga.Un q;unfold fU;omega
  ·have:=ga.call (.inl q);have:=hc.1 (.inr q);exact⟨by omega,by omega,hlen⟩
  have:=ga.call (.inr q);exact⟨by omega,hc.1 (.inl q),hc.2.1 q⟩
 ·by_cases h4:b.term.kind=4
  ·have:=hE.ML h4;omega
  have:=hE.n h4;omega
 have DA:=hE.fZ e he;have hm:=gx (f:=f) (k:=e.block) (by omega) (by omega);have:=(hF.blk _ hm).few;exact⟨by omega,by omega,DA.2,by omega⟩
def runM(u:bY)(fuel:Int):Nr :=
 if gD u≠0 then⟨[],0,0,0,gD u⟩
 else if within fuel 1 1000000=false then⟨[],0,0,0,4⟩
 else bI u fuel
theorem C7(u:bY)(a8:u.fit)(fuel:Int):bD Tryz.prog 26 [u.enc,aI fuel] (runM u fuel).enc:=by
 have oI:=qC u a8;have hw:=dU fuel 1 1000000;obtain⟨R,hR⟩:∃R,R=runM u fuel:=⟨_,rfl⟩
 rw[<-hR];unfold runM at hR;by_cases hc:gD u=0
 ·rw[if_neg (by simp[hc])]at hR;have hu:=G3 a8 hc;rw[hc]at oI;cases EZ:within fuel 1 1000000 with
  | false =>
   rw[if_pos EZ]at hR;rw[EZ]at hw;refine zf true 0 Tryz.func26 Tryz.ntmps26 ?_;dsimp only[Tmp,TypeId,slotsOf];refine aA (ah ?_);refine aD 2 0 (.ip none [bn u.fns,aI u.main]) rfl (by simp[aj.aF]) trivial rfl ?_ ?_;rotate_left;simp -dsimp only[simprocAttr,↓aa,zp]
   ·refine bX ?_;refine zi oI ?_;refine ah ?_;refine aA (ah ?_);refine cr rfl ?_;refine cd ?_;refine bX ?_;refine zi hw ?_;refine ah ?_;refine cH rfl ?_;refine aA (ah ?_);refine aq ?_;simp -dsimp only[simprocAttr,↓aa,zp,zr,Tryz.results26];rw[hR];exact⟨by simp[aw,ae.upto],rfl⟩
   exact bQ.mp rfl rfl
  | true =>
   rw[if_neg (by simp[EZ])]at hR;have hwr:=within_iff.1 EZ;have EW:=rX hu (fuel:=fuel) (by omega) hwr.2;rw[<-hR]at EW;unfold Nr.enc at EW;rw[EZ]at hw;refine zf true 0 Tryz.func26 Tryz.ntmps26 ?_;dsimp only[Tmp,TypeId,slotsOf];refine aA (ah ?_);refine aD 2 0 (.ip none [bn u.fns,aI u.main]) rfl (by simp[aj.aF]) trivial rfl ?_ ?_;rotate_left;simp -dsimp only[simprocAttr,↓aa,zp]
   ·refine bX ?_;refine zi oI ?_;refine ah ?_;refine aA (ah ?_);refine cr rfl ?_;refine cd ?_;refine bX ?_;refine zi hw ?_;refine ah ?_;refine cr rfl ?_;refine cd ?_;refine aA ?_;refine zi EW ?_;refine ah ?_;refine aq ?_;simp -dsimp only[simprocAttr,↓aa,zp,zr,Tryz.results26];exact⟨by simp[aw,ae.upto,az],rfl⟩
   exact bQ.mp rfl rfl
 rw[if_pos hc]at hR;obtain⟨e,he⟩:∃e,e=gD u:=⟨_,rfl⟩
 rw[<-he]at hc oI hR;have jP:decide (e=0)=false:=decide_eq_false hc;refine zf true 0 Tryz.func26 Tryz.ntmps26 ?_;dsimp only[Tmp,TypeId,slotsOf];refine aA (ah ?_);refine aD 2 0 (.ip none [bn u.fns,aI u.main]) rfl (by simp[aj.aF]) trivial rfl ?_ ?_;rotate_left;simp -dsimp only[simprocAttr,↓aa,zp]
 ·refine bX ?_;refine zi oI ?_;refine ah ?_;refine aS ?_;simp -dsimp only[simprocAttr,↓aa,zp,jP];refine ah ?_;refine cH rfl ?_;refine aA (ah ?_);refine aq ?_;simp -dsimp only[simprocAttr,↓aa,zp,zr,Tryz.results26];rw[hR];exact⟨by simp[aw,ae.upto],rfl⟩
 exact bQ.mp rfl rfl
theorem xY(l m:List Int):bD Tryz.prog 42 [aK l,aK m] (.v (.bool (decide (l=m)))):=by
 by_cases hlen:l.length=m.length
 ·have ll:decide ((l.length:Int)=m.length)=true:=decide_eq_true (by omega);obtain⟨R,hR⟩:∃R,R=decide (l=m):=⟨_,rfl⟩
  rw[<-hR];refine zf true 0 Tryz.func42 Tryz.ntmps42 ?_;dsimp only[Tmp,TypeId,slotsOf];refine aA (ah ?_);refine gg 0 rfl (fun KO=>?_);simp only[List.length_map]at KO;refine c9 ?_;simp -dsimp only[simprocAttr,↓aa,zp,ll];refine ah ?_;apply aP rfl<;>intro h
  ·cases h
  refine cd ?_;refine bX (ah ?_);refine ai (aO (ι:={k:Nat // k<=l.length∧R=decide (l.drop k=m.drop k)}) (fun k=>⟨26,[(0,aK l),(1,aK m),(4,.v (.bool false)),(12,aK l),(13,aI l.length),(14,aI k.1)],[]⟩) (fun k=>l.length-k.1) ⟨0,by omega,hR⟩ ?_ ?_)
  ·refine zq rfl ?_ ?_;simp -dsimp only[simprocAttr,↓aa,zp,zc];rfl
  rintro⟨k,hk,dw⟩;refine aA (ah ?_);apply iz rfl<;>intro h
  ·refine cd ?_;have bg:k<l.length:=by simpa using h
   obtain⟨a,ha⟩:∃a,l[k]?=some a:=⟨l[k],by simp[bg]⟩
   obtain⟨b,hb⟩:∃b,m[k]?=some b:=⟨m[k]'(by omega),List.getElem?_eq_getElem _⟩
   rw[bP ha,bP hb]at dw;simp only[List.cons.injEq,Bool.decide_and]at dw;refine aJ (ai ?_);refine aS ?_;simp -dsimp only[simprocAttr,↓aa,zp,ha];refine ah ?_;by_cases Ky:b=a
   ·have Sc:decide (b=a)=true:=decide_eq_true Ky;rw[decide_eq_true Ky.symm,Bool.true_and]at dw;refine aS ?_;simp -dsimp only[simprocAttr,↓aa,zp,hb,Sc]
    repeat(refine⟨by omega,?_⟩)
    refine ah ?_;refine cr rfl ?_;refine la ?_;refine cT ?_
    repeat(refine⟨by omega,?_⟩)
    refine fK ?_;refine⟨⟨k+1,bg,dw⟩,by simp;omega,?_⟩;refine zq rfl ?_ ?_;simp -dsimp only[simprocAttr,↓aa,zp,zc]
    ·exact Sub.int (by simp)
    rfl
   have Sc:decide (b=a)=false:=decide_eq_false Ky;rw[decide_eq_false (fun e=>Ky e.symm),Bool.false_and]at dw;refine aS ?_;simp -dsimp only[simprocAttr,↓aa,zp,hb,Sc]
   repeat(refine⟨by omega,?_⟩)
   refine ah ?_;refine cH rfl ?_;refine aA (ah ?_);refine aq ?_;simp -dsimp only[simprocAttr,↓aa,zp,zr,Tryz.results42];rw[dw]
  refine aM ?_;simp -dsimp only[bS,ne_eq,Nat.reduceEqDiff,reduceCtorEq];have gl:k=l.length:=by simp at h;omega
  subst gl;rw[List.drop_length,hlen,List.drop_length]at dw;refine aA (ah ?_);refine aq ?_;simp -dsimp only[simprocAttr,↓aa,zp,zr,Tryz.results42];rw[dw];rfl
 have ll:decide ((l.length:Int)=m.length)=false:=decide_eq_false (by omega);rw[decide_eq_false (fun e=>hlen (by rw[e]))];refine zf true 0 Tryz.func42 Tryz.ntmps42 ?_;dsimp only[Tmp,TypeId,slotsOf];refine aA (ah ?_);refine c9 ?_;simp -dsimp only[simprocAttr,↓aa,zp,ll];refine ah ?_;refine cH rfl ?_;refine aA (ah ?_);refine aq ?_;simp -dsimp only[simprocAttr,↓aa,zp,zr,Tryz.results42]
abbrev NY(out:List Int)(fin val:Int):ae:=.agg [.aC 1 (out.map aI) .sh,aI fin,aI val]
theorem nZ(l m:List Int)(e f v w:Int):bD Tryz.prog 27 [NY l e v,NY m f w] (.v (.bool ((decide (e=f)&&decide (v=w))&&decide (l=m)))):=by
 have hs:=xY l m;cases h1:decide (e=f)
 ·refine zf true 0 Tryz.func27 Tryz.ntmps27 ?_;dsimp only[Tmp,TypeId,slotsOf];refine aA (ah ?_);refine aS ?_;simp -dsimp only[simprocAttr,↓aa,zp,h1];refine ah ?_;refine aq ?_;simp -dsimp only[simprocAttr,↓aa,zp,zr,Tryz.results27]
 cases h2:decide (v=w)
 ·refine zf true 0 Tryz.func27 Tryz.ntmps27 ?_;dsimp only[Tmp,TypeId,slotsOf];refine aA (ah ?_);refine aS ?_;simp -dsimp only[simprocAttr,↓aa,zp,h1,h2];refine ah ?_;refine aq ?_;simp -dsimp only[simprocAttr,↓aa,zp,zr,Tryz.results27]
 refine zf true 0 Tryz.func27 Tryz.ntmps27 ?_;dsimp only[Tmp,TypeId,slotsOf];refine aA (ah ?_);refine aS ?_;simp -dsimp only[simprocAttr,↓aa,zp,h1,h2];refine .inl ⟨_,hs,by simp only[aw,ae.upto,zt,zu,az],ao ?_⟩;simp -dsimp only[simprocAttr,↓aa,zp,h1,h2];refine ah ?_;refine aq ?_;simp -dsimp only[simprocAttr,↓aa,zp,zr,Tryz.results27]
end Go.Proofs.YtjdnhamngpafmaaGreat
namespace Go.Av
theorem DU{P:Program}{kb:Nat}{c:Code}{Q:dE->St->Prop}{n:Nat}{br:List (Nat×ae)}{O:List aj}(k m:Nat)(hk:k<O.length)
  (h:cc P kb c Q ⟨n,br,(O++List.replicate m (aj.spare 0)).set k (.cells ((List.range m).map fun j=>.aC 1 [] (.tok (O.length+j))))⟩):cc P kb c Q ⟨n,br,O.set k (.cells (List.replicate m (.aC 1 [] .ex)))⟩:=by
 obtain⟨conv,yD⟩:∃conv:Nat->List ae,conv=fun q=>((List.range q).map fun j=>ae.aC 1 [] (.tok (O.length+j)))++List.replicate (m-q) (.aC 1 [] .ex):=⟨_,rfl⟩
 have key:∀q,q<=m->cc P kb c Q ⟨n,br,(O++List.replicate q (aj.spare 0)).set k (.cells (conv q))⟩->cc P kb c Q ⟨n,br,O.set k (.cells (List.replicate m (.aC 1 [] .ex)))⟩:=fun q=>by
  induction q with
  | zero =>
   intro _ h;simpa[yD]using h
  | succ q ih =>
   intro hq h;refine ih (by omega) (db k q (sz:=1) (cs:=conv q) (xs:=[]) ?_ ?_ ?_)
   ·rw[List.getElem?_set_self (by simp;omega)]
   ·rw[yD];simp only;rw[List.getElem?_append_right (by simp)];simp only[List.length_map,List.length_range,Nat.sub_self];rw[show m-q=(m-(q+1))+1 by omega,List.replicate_succ];rfl
   have e1:(O++List.replicate q (aj.spare 0)).set k (.cells (conv q))++[aj.spare ([]:List ae).length]=(O++List.replicate (q+1) (aj.spare 0)).set k (.cells (conv q)):=by
    rw[List.set_append_left _ _ hk,List.set_append_left _ _ hk,List.append_assoc];congr 1;rw[List.replicate_succ'];rfl
   have e2:(conv q).set q (.aC 1 [] (.tok ((O++List.replicate q (aj.spare 0)).set k (.cells (conv q))).length))=conv (q+1):=by
    rw[yD];simp only[List.length_set,List.length_append,List.length_replicate];rw[List.set_append_right _ _ (by simp)];simp only[List.length_map,List.length_range,Nat.sub_self];rw[show m-q=(m-(q+1))+1 by omega,List.replicate_succ,List.set_cons_zero,List.range_succ,List.map_append,List.append_assoc];rfl
   rw[e1,e2,List.set_set];exact h
 refine key m (Nat.le_refl _) ?_;simpa[yD]using h
end Go.Av
namespace Go.Proofs.YtjdnhamngpafmaaGreat
open Go.Av
def lN(b:Nat)(ls:List (List Int)):List ae:=ls.mapIdx fun j l=>.aC 1 (l.map aI) (.tok (b+j))
theorem LA{b:Nat}{ls:List (List Int)}{j:Nat}{l:List Int}(h:ls[j]?=some l):(lN b ls)[j]?=some (.aC 1 (l.map aI) (.tok (b+j))):=by
 simp[lN,h]
theorem LB{b:Nat}{ls:List (List Int)}{j:Nat}(l:List Int):(lN b ls).set j (.aC 1 (l.map aI) (.tok (b+j)))=lN b (ls.set j l):=by
 apply List.ext_getElem?;intro i;simp only[lN,List.getElem?_set,List.getElem?_mapIdx,List.length_mapIdx];by_cases e:j=i
 ·subst e;by_cases hl:j<ls.length
  ·simp[hl]
  simp[hl]
 simp[e]
theorem wF(b:Nat)(ls:List (List Int)):(lN b ls).length=ls.length:=by simp[lN]
theorem CQ(b n:Nat):lN b (List.replicate n [])=(List.range n).map fun j=>.aC 1 [] (.tok (b+j)):=by
 apply List.ext_getElem?;intro i;simp only[lN,List.getElem?_mapIdx,List.getElem?_map];by_cases h:i<n
 ·simp[h]
 simp[h]
theorem Ft(b:Nat)(ls:List (List Int)):(lN b ls).map ae.bk=au (ls.map aK):=by
 have h1:au (ls.map aK)=ls.map aK:=by
  induction ls with
  | nil=>rfl
  | cons l r ih =>
   simp only[List.map_cons,au,List.flatMap_cons]at ih ⊢;rw[ih];rfl
 rw[h1];apply List.ext_getElem?;intro i;simp only[lN,List.getElem?_map,List.getElem?_mapIdx];cases ls[i]? with
 | none=>rfl
 | some l =>
  simp only[Option.map_some,Option.some.injEq];rw[b9]
theorem y3{b n:Nat}{ls:List (List Int)}(h:b+ls.length<=n):aw n (lN b ls):=by
 rw[aV];intro x hx;obtain⟨j,hj⟩:=List.mem_iff_getElem?.1 hx;simp only[lN,List.getElem?_mapIdx]at hj;cases hl:ls[j]? with
 | none=>rw[hl]at hj;cases hj
 | some l =>
  rw[hl]at hj;simp only[Option.map_some,Option.some.injEq]at hj;subst hj;have:=I hl;exact⟨az _ _,show _<_ by omega⟩
theorem cG{cs:List ae}{j:Nat}(x:ae)(h:j<cs.length):bo cs j [x]=cs.set j x:=by
 apply List.ext_getElem?;intro i;rw[nL (by simp;omega),List.getElem?_set];simp only[List.length_cons,List.length_nil,Nat.zero_add];by_cases e:j=i
 ·subst e;simp[h]
 rw[if_neg (by omega),if_neg e]
structure PO(ls:List (List Int))(O:List aj):Prop where
 len:O.length=ls.length+2
 arr:O[1]?=some (.cells (lN 2 ls))
 sp:∀j l,ls[j]?=some l->O[2+j]?=some (.spare l.length)
 up:∀o∈O,o.upto O.length
theorem PO.push{ls:List (List Int)}{O:List aj}(h:PO ls O){j:Nat}{l:List Int}(hj:ls[j]?=some l)(k:Int):PO (ls.set j (l++[k])) ((O.set (2+j) (.spare (l.length+1))).set 1 (.cells (lN 2 (ls.set j (l++[k]))))):=by
 have bg:=I hj;have hl:=h.len;refine⟨by simp[hl],?_,fun i m hi=>?_,?_⟩
 ·rw[List.getElem?_set_self (by simp;omega)]
 ·rw[List.getElem?_set_ne (by omega)];by_cases e:j=i
  ·subst e;rw[List.getElem?_set_self bg]at hi;simp only[Option.some.injEq]at hi;subst hi;rw[List.getElem?_set_self (by omega)];simp
  rw[List.getElem?_set_ne e]at hi;rw[List.getElem?_set_ne (by omega)];exact h.sp i m hi
 have h1:∀o∈O.set (2+j) (.spare (l.length+1)),o.upto O.length:=bz h.up trivial;have h2:=bz (k:=1) (x:=.cells (lN 2 (ls.set j (l++[k])))) h1 (by
  show aw _ _;exact y3 (by simp[hl];omega))
 simpa using h2
def lv(k:Nat)(ls:List (List Int))(e:Edge):List (List Int):=ls.set e.block.toNat ((ls[e.block.toNat]?.getD [])++[(k:Int)])
def lY(k:Nat)(ls:List (List Int))(es:List Edge):List (List Int):=es.foldl (lv k) ls
def mM:Nat->List (List Int)->List Block->List (List Int)
 | _,ls,[]=>ls
 | k,ls,b::r=>mM (k+1) (lY k ls b.term.to) r
def cI(f:Func):List (List Int):=mM 0 (List.replicate f.blocks.length []) f.blocks
theorem y8(k:Nat)(ls:List (List Int))(e:Edge):(lv k ls e).length=ls.length:=by simp[lv]
theorem ta(k:Nat):∀(es:List Edge) (ls:List (List Int)),(lY k ls es).length=ls.length
 | [],_=>rfl
 | e::r,ls=>by
  show(lY k (lv k ls e) r).length=_;rw[ta k r,y8]
theorem tc:∀(l:List Block) (k:Nat) (ls:List (List Int)),(mM k ls l).length=ls.length
 | [],_,_=>rfl
 | b::r,k,ls=>by
  simp only[mM];rw[tc r,ta]
theorem Tr{f:Func}{t:Term}(kU:T9 f t):t.to.length<=257:=by
 rcases(show(t.kind=0∨t.kind=4)∨t.kind=1∨t.kind=2∨t.kind=3 by have:=kU.kind;omega)with q|q|q|q
 ·rw[kU.to q];simp
 ·rw[kU.jump q];omega
 ·rw[kU.cond q];omega
 rw[kU.switch q];have:=kU.cases;omega
theorem Iv(f:Func):(cI f).length=f.blocks.length:=by simp[cI,tc]
theorem y0(n:Nat):(List.replicate n [ae.aC 1 [] .ex]).flatten=List.replicate n (.aC 1 [] .ex):=by
 induction n with
 | zero=>rfl
 | succ n ih=>rw[List.replicate_succ,List.flatten_cons,ih,List.replicate_succ];rfl
def fh(b:Block):List Int:=b.params++b.ins.map Ins.to
def lE(f:Func):List Int:=f.blocks.flatMap fh
def Ud(f:Func):Prop:=∀v∈lE f,0<=v∧v<=4095
def jt(k:Int)(l:List Int):Defs:=l.map fun p=>(p,(k,0))
def j8(k:Int):Int->List Ins->Defs
 | _,[]=>[]
 | n,i::r=>(i.to,(k,n+1))::j8 k (n+1) r
def kR(k:Int)(b:Block):Defs:=jt k b.params++j8 k 0 b.ins
def j6:Int->List Block->Defs
 | _,[]=>[]
 | k,b::r=>kR k b++j6 (k+1) r
theorem nf{ds:Defs}{v:Int}{p:Int×Int}(h:(dq ds v p).1=0):(dq ds v p).2=ds++[(v,p)]:=by
 unfold dq at h ⊢;split at h
 ·simp at h
 rename_i h1;rw[if_neg h1];split at h
 ·simp at h
 rename_i h2;rw[if_neg h2]
theorem qP(k:Int):∀(l:List Int) (ds:Defs),(dJ k ds l).1=0->(dJ k ds l).2=ds++jt k l
 | [],ds,_=>by simp[dJ,jt]
 | p::r,ds,h=>by
  simp only[dJ]at h ⊢;split at h
  ·rename_i ct;exact absurd h ct
  rename_i he;rw[if_neg he,qP k r _ h,nf (by simpa using he)];simp[jt]
theorem GM(k:Int):∀(l:List Ins) (n:Int) (ds:Defs),(nt k n ds l).1=0->(nt k n ds l).2=ds++j8 k n l
 | [],n,ds,_=>by simp[nt,j8]
 | i::r,n,ds,h=>by
  simp only[nt]at h ⊢;split at h
  ·rename_i ct;exact absurd h ct
  rename_i he;split at h
  ·rename_i hf;exact absurd h hf
  rename_i hf;rw[if_neg he,if_neg hf,GM k r _ _ h,nf (by simpa using he)];simp[j8]
theorem yh{f:Func}{ds:Defs}{k:Int}(h:(gh f ds k).1=0):(gh f ds k).2=ds++kR k (ax f k):=by
 unfold gh at h ⊢;split at h
 ·rename_i ct;exact absurd h ct
 rename_i hp;split at h
 ·rename_i ct;exact absurd h ct
 rename_i hi;rw[if_neg hp,if_neg hi];simp only;rw[GM k _ _ _ (by simpa using hi),qP k _ _ (by simpa using hp),kR,List.append_assoc]
theorem qv{f:Func}:∀(n k:Nat) (ds:Defs),k+n=f.blocks.length->(c5 f n k ds).1=0->(c5 f n k ds).2=ds++j6 k (f.blocks.drop k)
 | 0,k,ds,hk,_=>by
  rw[List.drop_of_length_le (by omega)];simp[c5,j6]
 | n+1,k,ds,hk,h=>by
  simp only[c5]at h ⊢;split at h
  ·rename_i ct;exact absurd h ct
  rename_i he;rw[if_neg he];have hb:f.blocks[k]?=some f.blocks[k]:=List.getElem?_eq_getElem (by omega);have ih:=qv n (k+1) (gh f ds k).2 (by omega) h;have e:((k+1:Nat):Int)=(k:Int)+1:=by omega
  rw[e]at ih;rw[ih,yh (by simpa using he),bP hb,j6,List.append_assoc];congr 3;simp[ax,hb]
def Dx(f:Func):Defs:=j6 0 f.blocks
theorem QB.ds{f:Func}(a8:f.fit)(h:aZ f=0):(c5 f f.blocks.length 0 []).2=Dx f∧lb f.blocks.length (Dx f):=by
 have he:(c5 f f.blocks.length 0 []).1=0:=by
  unfold aZ at h;split at h
  ·simp at h
  split at h
  ·simp at h
  split at h
  ·simp at h
  split at h
  ·rename_i h4;exact absurd h h4
  rename_i h4;simpa using h4
 have e:=qv f.blocks.length 0 [] (by omega) he;rw[List.drop_zero,List.nil_append]at e;have hw:=(m7 f.blocks.length 0 [] (.nil _) (by omega) (by simp) he).1;have e':(c5 f f.blocks.length 0 []).2=Dx f:=e;rw[e']at hw;exact⟨e',hw⟩
theorem H'{ds:Defs}(hn:(ds.map (·.1)).Nodup){v:Int}{p:Int×Int}:gb ds v=some p↔(v,p)∈ds:=by
 induction ds with
 | nil=>simp[gb]
 | cons e r ih =>
  obtain⟨a,q⟩:=e;simp only[List.map_cons,List.nodup_cons,List.mem_map,not_exists,not_and]at hn;have ih:=ih hn.2;simp only[gb,List.mem_cons,Prod.mk.injEq];by_cases h:a=v
  ·subst h;rw[if_pos rfl];constructor
   ·intro h;simp only[Option.some.injEq]at h;exact .inl ⟨rfl,h.symm⟩
   rintro(⟨_,h⟩|h)
   ·rw[h]
   exact absurd rfl (hn.1 _ h)
  rw[if_neg h,ih];constructor
  ·exact .inr
  rintro(⟨h1,_⟩|h1)
  ·exact absurd h1.symm h
  exact h1
theorem oW{k:Int}{v:Int}{p:Int×Int}:∀(l:List Ins) (n:Int),(v,p)∈j8 k n l↔∃(j:Nat) (i:Ins),l[j]?=some i∧i.to=v∧p=(k,n+j+1)
 | [],n=>by simp[j8]
 | i::r,n=>by
  simp only[j8,List.mem_cons,Prod.mk.injEq];rw[oW r (n+1)];constructor
  ·rintro(⟨h1,h2⟩|⟨j,x,h1,h2,h3⟩)
   ·exact⟨0,i,rfl,h1.symm,by simpa using h2⟩
   exact⟨j+1,x,h1,h2,by rw[h3];congr 1;omega⟩
  rintro⟨j,x,h1,h2,h3⟩;cases j with
  | zero =>
   simp only[List.getElem?_cons_zero,Option.some.injEq]at h1;subst h1;exact .inl ⟨h2.symm,by simpa using h3⟩
  | succ j=>exact .inr ⟨j,x,h1,h2,by rw[h3];congr 1;omega⟩
theorem tO{v:Int}{p:Int×Int}:∀(l:List Block) (k:Int),(v,p)∈j6 k l↔∃(j:Nat) (b:Block),l[j]?=some b∧(v,p)∈kR (k+j) b
 | [],k=>by simp[j6]
 | b::r,k=>by
  rw[j6,List.mem_append,tO r (k+1)];constructor
  ·rintro(h|⟨j,x,h1,h2⟩)
   ·exact⟨0,b,rfl,by simpa using h⟩
   exact⟨j+1,x,h1,by rw[show k+((j+1:Nat):Int)=k+1+j by omega];exact h2⟩
  rintro⟨j,x,h1,h2⟩;cases j with
  | zero =>
   simp only[List.getElem?_cons_zero,Option.some.injEq]at h1;subst h1;exact .inl (by simpa using h2)
  | succ j=>exact .inr ⟨j,x,h1,by rw[show k+((j+1:Nat):Int)=k+1+j by omega]at h2;exact h2⟩
def ya(f:Func)(v:Int)(p:Int×Int):Prop:=∃(k:Nat) (b:Block),f.blocks[k]?=some b∧p.1=k∧((p.2=0∧v∈b.params)∨∃(j:Nat) (i:Ins),b.ins[j]?=some i∧i.to=v∧p.2=j+1)
theorem GQ{f:Func}{v:Int}{p:Int×Int}:(v,p)∈Dx f↔ya f v p:=by
 obtain⟨p1,p2⟩:=p;rw[Dx,tO];constructor
 ·rintro⟨k,b,h1,h2⟩;rw[kR,List.mem_append]at h2;rcases h2 with h2|h2
  ·simp only[jt,List.mem_map,Prod.mk.injEq]at h2;obtain⟨x,h3,h4,h5,h6⟩:=h2;subst h4;exact⟨k,b,h1,by simp only;omega,.inl ⟨h6.symm,h3⟩⟩
  obtain⟨j,i,h3,h4,h5⟩:=(oW _ _).1 h2;simp only[Prod.mk.injEq]at h5;exact⟨k,b,h1,by simp only;omega,.inr ⟨j,i,h3,h4,by simp only;omega⟩⟩
 rintro⟨k,b,h1,h2,h3⟩;simp only at h2 h3;subst h2;refine⟨k,b,h1,?_⟩;rw[kR,List.mem_append];rcases h3 with⟨h3,h4⟩|⟨j,i,h3,h4,h5⟩
 ·subst h3;exact .inl (by simpa[jt]using h4)
 exact .inr ((oW _ _).2 ⟨j,i,h3,h4,by subst h5;simp⟩)
theorem oQ(k:Int):∀(l:List Ins) (n:Int),(j8 k n l).map (·.1)=l.map Ins.to
 | [],_=>rfl
 | i::r,n=>by rw[j8,List.map_cons,oQ k r,List.map_cons]
theorem tr:∀(l:List Block) (k:Int),(j6 k l).map (·.1)=l.flatMap fh
 | [],_=>rfl
 | b::r,k=>by
  rw[j6,List.map_append,tr r,List.flatMap_cons,kR,List.map_append,oQ,fh,jt,List.map_map];congr 2;exact List.map_id' _
theorem zR(f:Func):(Dx f).map (·.1)=lE f:=tr _ _
theorem Ef{k:Nat}{S:Ds}{e:Edge}(h:(iQ k S e).again=false):iQ k S e=S∧((S.at_ e.block.toNat).meet (S.at_ k)).add e.block.toNat=S.at_ e.block.toNat∧S.seen.has e.block.toNat=true:=by
 unfold iQ at h ⊢;simp only at h ⊢;split at h
 ·cases h
 rename_i hc;rw[if_neg hc];simp only[ne_eq,not_or,Decidable.not_not,Bool.not_eq_false]at hc;exact⟨rfl,hc⟩
theorem vI{k:Nat}:∀(l:List Edge) {S:Ds},(l.foldl (iQ k) S).again=false->l.foldl (iQ k) S=S∧∀e∈l,((S.at_ e.block.toNat).meet (S.at_ k)).add e.block.toNat=S.at_ e.block.toNat∧S.seen.has e.block.toNat=true
 | [],S,_=>⟨rfl,by simp⟩
 | e::r,S,h=>by
  rw[List.foldl_cons]at h;have ih:=vI r h;rw[ih.1]at h;have h1:=Ef h;rw[List.foldl_cons,ih.1,h1.1];rw[h1.1]at ih;refine⟨rfl,fun x hx=>?_⟩;rcases List.mem_cons.1 hx with q|q
  ·subst q;exact h1.2
  exact ih.2 x q
theorem vJ:∀(l:List Block) (k:Nat) {S:Ds},(mc k S l).again=false->mc k S l=S∧∀(j:Nat) b,l[j]?=some b->S.seen.has (k+j)=true->∀e∈b.term.to,((S.at_ e.block.toNat).meet (S.at_ (k+j))).add e.block.toNat=S.at_ e.block.toNat∧S.seen.has e.block.toNat=true
 | [],k,S,_=>⟨rfl,fun j b h=>by simp at h⟩
 | b::r,k,S,h=>by
  rw[mc]at h;have ih:=vJ r (k+1) h;rw[ih.1]at h;have h1:rA k S b=S∧(S.seen.has k=true->∀e∈b.term.to,((S.at_ e.block.toNat).meet (S.at_ k)).add e.block.toNat=S.at_ e.block.toNat∧S.seen.has e.block.toNat=true):=by
   unfold rA at h ⊢;split
   ·rename_i hs;exact⟨rfl,fun q=>by rw[hs]at q;cases q⟩
   rename_i hs;rw[if_neg hs]at h;have:=vI _ h;exact⟨this.1,fun _=>this.2⟩
  rw[mc,ih.1,h1.1];rw[h1.1]at ih;refine⟨rfl,fun j x hj hs=>?_⟩;cases j with
  | zero =>
   simp only[List.getElem?_cons_zero,Option.some.injEq]at hj;subst hj;exact h1.2 hs
  | succ j =>
   rw[show k+(j+1)=k+1+j by omega]at hs ⊢;exact ih.2 j x hj hs
theorem yo{f:Func}(he:∀b∈f.blocks,∀e∈b.term.to,0<=e.block∧e.block.toNat<f.blocks.length):∀(n:Nat) {S:Ds},lI f.blocks.length S->(S.again=true->S.weight<n)->(jz f n S).again=false
 | 0,S,_,h=>by
  cases hs:S.again with
  | false=>exact hs
  | true=>exact absurd (h hs) (by omega)
 | n+1,S,hS,h=>by
  simp only[jz];split
  ·rename_i ha;have hw:=h ha;have hr:=rB f.blocks (k:=0) (S:=⟨S.over,S.seen,false⟩) ⟨hS.few,hS.len,hS.fit,hS.seen,hS.self⟩ he;have Xb:(⟨S.over,S.seen,false⟩:Ds).weight=S.weight:=rfl;refine yo he n hr.1 fun q=>?_;rcases hr.2.2 q with q|q
   ·cases q
   omega
  rename_i ha;simpa using ha
structure Dz(S:Ds):Prop where
 zero:S.at_ 0=Bs.none.add 0
 seen:S.seen.has 0=true
theorem RJ{n k:Nat}{S:Ds}(h:Dz S){e:Edge}(h1:1<=e.block)(h2:e.block.toNat<n)(h3:n<=128):Dz (iQ k S e):=by
 unfold iQ;simp only;split
 ·refine⟨?_,?_⟩
  ·have:=h.zero;unfold Ds.at_ at this ⊢;simp only;rw[List.getElem?_set_ne (by omega)];exact this
  simp only;rw[Bs.has_add _ _ _ (by omega) (by omega),h.seen];rfl
 exact h
theorem J0{n k:Nat}(h3:n<=128):∀(l:List Edge) {S:Ds},Dz S->(∀e∈l,1<=e.block∧e.block.toNat<n)->Dz (l.foldl (iQ k) S)
 | [],_,h,_=>h
 | e::r,S,h,he=>J0 h3 r (RJ h (he e (by simp)).1 (he e (by simp)).2 h3) fun x hx=>he x (by simp[hx])
theorem J2{n:Nat}(h3:n<=128):∀(l:List Block) {k:Nat} {S:Ds},Dz S->(∀b∈l,∀e∈b.term.to,1<=e.block∧e.block.toNat<n)->Dz (mc k S l)
 | [],_,_,h,_=>h
 | b::r,k,S,h,he=>by
  refine J2 h3 r (k:=k+1) ?_ fun x hx=>he x (by simp[hx]);unfold rA;split
  ·exact h
  exact J0 h3 _ h (he b (by simp))
theorem J1{f:Func}(h3:f.blocks.length<=128)(he:∀b∈f.blocks,∀e∈b.term.to,1<=e.block∧e.block.toNat<f.blocks.length):∀(n:Nat) {S:Ds},Dz S->Dz (jz f n S)
 | 0,_,h=>h
 | n+1,S,h=>by
  simp only[jz];split
  ·exact J1 h3 he n (J2 h3 _ (S:=⟨S.over,S.seen,false⟩) ⟨h.zero,h.seen⟩ he)
  exact h
theorem yp{f:Func}:∀(n:Nat) {S:Ds},S.again=true->(jz f n S).again=false->∃T:Ds,jz f n S=mc 0 T f.blocks
 | 0,S,h1,h2=>by
  rw[jz,h1]at h2;cases h2
 | n+1,S,h1,h2=>by
  simp only[jz,h1,if_true]at h2 ⊢;cases hr:(mc 0 ⟨S.over,S.seen,false⟩ f.blocks).again with
  | false=>exact⟨_,yn hr n⟩
  | true=>exact yp n hr h2
def o7(f:Func)(k:Nat):Bs:=(lJ f).1[k]?.getD .none
def tT(f:Func)(k:Nat):Bool:=(lJ f).2.has k
structure Nz(f:Func):Prop where
 seen:tT f 0=true
 zero:∀j,j<128->((o7 f 0).has j=true↔j=0)
 self:∀k,k<f.blocks.length->(o7 f k).has k=true
 step:∀(k:Nat) b,f.blocks[k]?=some b->tT f k=true->∀e∈b.term.to,tT f e.block.toNat=true∧∀j,j<128->((o7 f e.block.toNat).has j=true->j=e.block.toNat∨(o7 f k).has j=true)
theorem RK{f:Func}(h0:f.blocks≠[])(h1:f.blocks.length<=128)(he:∀b∈f.blocks,∀e∈b.term.to,1<=e.block∧e.block<f.blocks.length):Nz f:=by
 have DA:∀b∈f.blocks,∀e∈b.term.to,0<=e.block∧e.block.toNat<f.blocks.length:=fun b hb e hx=>by have:=he b hb e hx;omega
 have rJ:∀b∈f.blocks,∀e∈b.term.to,1<=e.block∧e.block.toNat<f.blocks.length:=fun b hb e hx=>by have:=he b hb e hx;omega
 have hl:=List.length_pos_iff.2 h0;have hS:=zQ h0 h1;have hw0:=zv hS;have hz0:Dz (nh f):=⟨by unfold Ds.at_ nh;simp only;rw[List.getElem?_set_self (by simpa using hl)];rfl,by show(Bs.none.add 0).has 0=true;decide⟩
 have kU:=yo DA 20000 hS (fun _=>by omega);have hz:=J1 h1 rJ 20000 hz0;obtain⟨T,hT⟩:=yp 20000 rfl kU;have lM:lI f.blocks.length (jz f 20000 (nh f)):=by
  have key:∀(n:Nat) (S:Ds),lI f.blocks.length S->lI f.blocks.length (jz f n S):=fun n=>by
   induction n with
   | zero=>exact fun S h=>h
   | succ n ih =>
    intro S h;simp only[jz];split
    ·exact ih _ (rB f.blocks (k:=0) (S:=⟨S.over,S.seen,false⟩) ⟨h.few,h.len,h.fit,h.seen,h.self⟩ DA).1
    exact h
  exact key _ _ hS
 have ZK:=vJ f.blocks 0 (S:=T) (by rw[<-hT];exact kU);have Vf:=ZK.2;rw[show T=jz f 20000 (nh f) from ZK.1.symm.trans hT.symm]at Vf;have od:∀k,o7 f k=(jz f 20000 (nh f)).at_ k:=fun k=>rfl;have OR:∀k,tT f k=(jz f 20000 (nh f)).seen.has k:=fun k=>rfl;generalize jz f 20000 (nh f)=S at *;refine⟨by rw[OR,hz.seen],fun j hj=>?_,fun k hk=>by rw[od];exact lM.self k hk,fun k b hb hs e hx=>?_⟩
 ·rw[od,hz.zero,Bs.has_add _ _ _ (by omega) hj];have:Bs.none.has j=false:=by unfold Bs.has Bs.none;simp
  simp[this]
 have WO:=rJ b (List.mem_of_getElem? hb) e hx;obtain⟨q1,q2⟩:=Vf k b hb (by rw[Nat.zero_add,<-OR];exact hs) e hx;rw[Nat.zero_add]at q1;refine⟨by rw[OR];exact q2,fun j hj q=>?_⟩;rw[od,<-q1,Bs.has_add _ _ _ (by omega) hj,Bs.vQ]at q;rw[od];simp only[Bool.or_eq_true,Bool.and_eq_true,decide_eq_true_eq]at q;rcases q with q|q
 ·exact .inr q.2
 exact .inl q
theorem wy{ds:Defs}{v:Int}{p:Int×Int}(h:gb ds v=some p):(v,p)∈ds:=by
 induction ds with
 | nil=>cases h
 | cons e r ih =>
  obtain⟨a,q⟩:=e;simp only[gb]at h;split at h
  ·rename_i e;simp only[Option.some.injEq]at h;rw[e,h];simp
  exact List.mem_cons.2 (.inr (ih h))
def Bl(f:Func)(k:Nat)(n:Int)(v:Int):Prop:=∃p,ya f v p∧(tT f k=true->(p.1=k∧p.2<=n)∨(p.1≠k∧(o7 f k).has p.1.toNat=true))
theorem zZ{f:Func}{k:Nat}{n v:Int}(h:jC (Dx f) (lJ f).1 (lJ f).2 k n v=true):Bl f k n v:=by
 unfold jC at h;cases hl:gb (Dx f) v with
 | none=>rw[hl]at h;cases h
 | some p =>
  rw[hl]at h;refine⟨p,GQ.1 (wy hl),fun hs=>?_⟩;have TR:(lJ f).2.has k=true:=hs;simp only[TR,Bool.not_true,Bool.or_false,Bool.or_eq_true,Bool.and_eq_true,decide_eq_true_eq,Bool.not_eq_true',decide_eq_false_iff_not]at h;exact h
structure F'(f:Func):Prop where
 ins:∀(k:Nat) b,f.blocks[k]?=some b->∀(n:Nat) i,b.ins[n]?=some i->∀a∈i.args,Bl f k n a
 arg:∀(k:Nat) b,f.blocks[k]?=some b->b.term.kind≠1->b.term.kind≠4->Bl f k b.ins.length b.term.arg
 args:∀(k:Nat) b,f.blocks[k]?=some b->∀e∈b.term.to,∀a∈e.args,Bl f k b.ins.length a
theorem tI{ds:Defs}{over:List Bs}{seen:Bs}{k:Nat}:∀(l:List Ins) (n:Nat),j9 ds over seen k n l=true->∀(j:Nat) i,l[j]?=some i->∀a∈i.args,jC ds over seen k ((n+j:Nat):Int) a=true
 | [],_,_=>fun j i h=>by simp at h
 | x::r,n,h=>fun j i hj a ha=>by
  simp only[j9,Bool.and_eq_true,List.all_eq_true]at h;cases j with
  | zero =>
   simp only[List.getElem?_cons_zero,Option.some.injEq]at hj;subst hj;exact h.1 a ha
  | succ j =>
   rw[show n+(j+1)=n+1+j by omega];exact tI r (n+1) h.2 j i hj a ha
theorem tt{ds:Defs}{over:List Bs}{seen:Bs}:∀(l:List Block) (k:Nat),iI ds over seen k l=true->∀(j:Nat) b,l[j]?=some b->lR ds over seen (k+j) b=true
 | [],_,_=>fun j i h=>by simp at h
 | x::r,k,h=>fun j b hj=>by
  simp only[iI,Bool.and_eq_true]at h;cases j with
  | zero =>
   simp only[List.getElem?_cons_zero,Option.some.injEq]at hj;subst hj;exact h.1
  | succ j =>
   rw[show k+(j+1)=k+1+j by omega];exact tt r (k+1) h.2 j b hj
theorem Tz{f:Func}(h:sj f (Dx f)=0):F' f:=by
 have ha:iI (Dx f) (lJ f).1 (lJ f).2 0 f.blocks=true:=by
  unfold sj at h;split at h
  ·assumption
  simp at h
 have hb:∀(k:Nat) b,f.blocks[k]?=some b->lR (Dx f) (lJ f).1 (lJ f).2 k b=true:=fun k b hk=>by
  have:=tt f.blocks 0 ha k b hk
  rwa [Nat.zero_add]at this
 have hu:∀(k:Nat) b,f.blocks[k]?=some b->ph b.term (jC (Dx f) (lJ f).1 (lJ f).2 k b.ins.length)=true:=fun k b hk=>by
  have:=hb k b hk;simp only[lR,Bool.and_eq_true]at this;exact this.2
 refine⟨fun k b hk n i hn a ha=>?_,fun k b hk h1 h4=>?_,fun k b hk e he a ha=>?_⟩
 ·have:=hb k b hk;simp only[lR,Bool.and_eq_true]at this;have:=tI b.ins 0 this.1 n i hn a ha;rw[Nat.zero_add]at this;exact zZ this
 ·have:=hu k b hk;simp only[ph,Bool.and_eq_true,Bool.or_eq_true,decide_eq_true_eq,h1,h4,false_or]at this;exact zZ this.1
 have:=hu k b hk;simp only[ph,Bool.and_eq_true,List.all_eq_true]at this;exact zZ (this.2 e he a ha)
structure FnV(f:Func):Prop where
 fn:QB f
 QM:Nz f
 MN:F' f
 vals:Ud f
 nodup:(lE f).Nodup
 fZ:∀b∈f.blocks,∀e∈b.term.to,1<=e.block∧e.block<f.blocks.length
theorem BJ{f:Func}(a8:f.fit)(h:aZ f=0):FnV f:=by
 have hw:=c6 a8 h;obtain⟨hd,U6⟩:=QB.ds a8 h;have he:∀b∈f.blocks,∀e∈b.term.to,1<=e.block∧e.block<f.blocks.length:=fun b hb e hx=>by
  have:=((jm (hw.blk b hb).fin).fZ e hx).1;omega
 refine⟨hw,RK hw.ne hw.few he,Tz (by rw[<-hd];exact hw.MN),fun v hv=>?_,?_,he⟩
 ·rw[<-zR]at hv;obtain⟨e,h1,rfl⟩:=List.mem_map.1 hv;exact U6.range e h1
 rw[<-zR];exact U6.nodup
def Fx(f:Func):ae:=if aZ f=0 then .cD [.aC 1 ((cI f).map aK) .sh,aI 0]else .cD [.aC 1 [] .sh,aI (aZ f)]
def Qz(c:Nat)(ls:List (List Int)):Prop:=∀l∈ls,l.length<=c
theorem Qz.push{c:Nat}{ls:List (List Int)}(h:Qz c ls){j:Nat}{l:List Int}(hj:ls[j]?=some l)(k:Int):Qz (c+1) (ls.set j (l++[k])):=fun m hm=>by
 rcases List.mem_or_eq_of_mem_set hm with q|q
 ·have:=h m q;omega
 subst q;have:=h l (List.mem_of_getElem? hj);simp;omega
theorem Qz.mono{c d:Nat}{ls:List (List Int)}(h:Qz c ls)(hd:c<=d):Qz d ls:=fun l hl=>Nat.le_trans (h l hl) hd
theorem Fy(f:Func)(a8:f.fit):bD Tryz.prog 14 [f.enc] (Fx f):=by
 have oI:=jk f a8;unfold Fx;by_cases hc:aZ f=0
 ·rw[if_pos hc];rw[hc]at oI;have hw:=c6 a8 hc;have hn:f.blocks.length<=128:=hw.few;obtain⟨N,hN⟩:∃N,N=f.blocks.length:=⟨_,rfl⟩
  obtain⟨R,hR⟩:∃R,R=cI f:=⟨_,rfl⟩
  have ZH:R.length=N:=by rw[hR,hN,cI,tc];simp
  rw[<-hR];unfold cI at hR;refine zf true 0 Tryz.func14 Tryz.ntmps14 ?_;dsimp only[Tmp,TypeId,slotsOf];refine aA (ah ?_);refine aD 1 0 (.ip none [aI f.name,ay f.blocks]) rfl (by simp[aj.aF]) trivial rfl ?_ ?_;rotate_left;simp -dsimp only[simprocAttr,↓aa,zp]
  ·refine bX ?_;refine zi oI ?_;refine ah ?_;refine aA (ah ?_);apply aP rfl<;>intro h
   ·cases h
   refine cd ?_;refine aS ?_;simp -dsimp only[simprocAttr,↓aa,zp,y0,<-hN];refine⟨by omega,by omega,?_⟩;refine ah ?_;have hpo:PO (List.replicate N []) (([aj.gone,aj.cells []]++List.replicate N (aj.spare 0)).set 1 (.cells ((List.range N).map fun j=>.aC 1 [] (.tok ([aj.gone,aj.cells []].length+j))))):=by
    refine⟨by simp,?_,fun j l hj=>?_,?_⟩
    ·rw[List.getElem?_set_self (by simp),CQ];rfl
    ·have jc:=I hj;rw[List.length_replicate]at jc;rw[List.getElem?_set_ne (by omega),List.getElem?_append_right (by simp)];simp only[List.length_cons,List.length_nil,Nat.zero_add,Nat.add_sub_cancel_left];simp[jc]at hj ⊢;rw[hj];rfl
    rw[<-CQ];have:=bz (k:=1) (n:=N+2) (x:=.cells (lN 2 (List.replicate N []))) (O:=[aj.gone,aj.cells []]++List.replicate N (aj.spare 0)) (fun o ho=>by
     rcases List.mem_append.1 ho with q|q
     ·simp at q;rcases q with rfl|rfl<;>trivial
     rw[(List.mem_replicate.1 q).2];trivial) (y3 (by simp;omega))
    simpa using this
   show cc Tryz.prog _ _ _ ⟨_,_,List.set [aj.gone,aj.cells []] 1 (.cells (List.replicate N (ae.aC 1 [] .ex)))⟩;refine DU 1 N (by simp) ?_;generalize ([aj.gone,aj.cells []]++List.replicate N (aj.spare 0)).set 1 (.cells ((List.range N).map fun j=>.aC 1 [] (.tok ([aj.gone,aj.cells []].length+j))))=O0 at *;rw[<-hN]at hR;refine c9 ?_;simp -dsimp only[simprocAttr,↓aa,zp,<-hN];refine ah ?_;refine ai (aO (ι:={p:Nat×List (List Int)×List aj // p.1<=N∧PO p.2.1 p.2.2∧p.2.1.length=N∧Qz (p.1*257) p.2.1∧R=mM p.1 p.2.1 (f.blocks.drop p.1)}) (fun p=>⟨50,[(1,.ip none [aI f.name,ay f.blocks]),(5,.ms 1 0 N N),(20,ay f.blocks),(21,aI N),(22,aI p.1.1)],p.1.2.2⟩) (fun p=>N-p.1.1) ⟨(0,_,O0),by simp,hpo,by simp,by intro l hl;simp[(List.mem_replicate.1 hl).2],hR⟩ ?_ ?_)
   ·refine zq rfl ?_ ?_;simp -dsimp only[simprocAttr,↓aa,zp,zc]
    all_goals rfl
   rintro⟨⟨k,ls,O⟩,hk,hp,M',tC,dw⟩;simp only at hk hp M' tC dw;have XH:=hp.len;have bG:=hp.up;refine aA (ah ?_);apply iz rfl<;>intro h
   ·refine cd ?_;have bg:k<N:=by simpa using h
    obtain⟨b,hb⟩:∃b,f.blocks[k]?=some b:=⟨f.blocks[k]'(by omega),List.getElem?_eq_getElem _⟩
    have mg:=List.mem_of_getElem? hb;have kU:=jm (hw.blk b mg).fin;have rO:b.term.to.length<=257:=by
     rcases(show(b.term.kind=0∨b.term.kind=4)∨b.term.kind=1∨b.term.kind=2∨b.term.kind=3 by have:=kU.kind;omega)with q|q|q|q
     ·rw[kU.to q];simp
     ·rw[kU.jump q];omega
     ·rw[kU.cond q];omega
     rw[kU.switch q];have:=kU.cases;omega
    rw[bP hb]at dw;simp only[mM]at dw;obtain⟨L1,ZC⟩:∃L1,L1=lY k ls b.term.to:=⟨_,rfl⟩
    rw[<-ZC]at dw;refine aJ (ai ?_);refine aS ?_;simp -dsimp only[simprocAttr,↓aa,zp,hb];refine ah ?_;refine aY 7 ([aK b.params,bf b.ins,aI b.term.kind,aI b.term.arg,aI b.term.n,aK b.term.cases,aH b.term.to]) [(1,.ip none [aI f.name,ay f.blocks]),(5,.ms 1 0 N N),(20,ay f.blocks),(21,aI N),(22,aI k),(6,aI k),(7,.ip none [aK b.params,bf b.ins,aI b.term.kind,aI b.term.arg,aI b.term.n,aK b.term.cases,aH b.term.to])] (by simp[bF,bh,Go.Av.look]) (by rfl) (by omega) (by simp[bF,bh,Go.Av.look]) ?_ ?_ ?_
    ·exact bG
    ·simp[ae.upto,aw,az,Edge.ag,Ins.ag,Block.ag,XH]
    refine aA (ah ?_);refine ai (aO (ι:={p:Nat×List (List Int)×List aj // p.1<=b.term.to.length∧PO p.2.1 p.2.2∧p.2.1.length=N∧Qz (k*257+p.1) p.2.1∧L1=lY k p.2.1 (b.term.to.drop p.1)}) (fun p=>⟨50,[(1,.ip none [aI f.name,ay f.blocks]),(5,.ms 1 0 N N),(20,ay f.blocks),(21,aI N),(22,aI k),(6,aI k),(29,aH b.term.to),(30,aI b.term.to.length),(31,aI p.1.1)],p.1.2.2⟩) (fun p=>b.term.to.length-p.1.1) ⟨(0,ls,O),by simp,hp,M',tC,ZC⟩ ?_ ?_)
    ·refine zq rfl ?_ ?_;simp -dsimp only[simprocAttr,↓aa,zp,zc]
     all_goals rfl
    rintro⟨⟨z,ls,O⟩,hz,hp,M',tC,mr⟩;simp only at hz hp M' tC mr;have XH:=hp.len;have bG:=hp.up;refine aA (ah ?_);apply iz rfl<;>intro h
    ·refine cd ?_;have xl:z<b.term.to.length:=by simpa using h
     obtain⟨e,he⟩:∃e,b.term.to[z]?=some e:=⟨b.term.to[z],by simp[xl]⟩
     have uL:=(kU.fZ e (List.mem_of_getElem? he)).1;rw[bP he]at mr;simp only[lY,List.foldl_cons]at mr;obtain⟨j,hj⟩:∃j:Nat,e.block=(j:Int):=⟨e.block.toNat,by omega⟩
     have Ym:j<N:=by omega
     obtain⟨l,hl⟩:∃l,ls[j]?=some l:=⟨ls[j]'(by omega),List.getElem?_eq_getElem _⟩
     have K1:lv k ls e=ls.set j (l++[(k:Int)]):=by simp[lv,hj,hl]
     rw[K1]at mr;have fm:=LA (b:=2) hl;have nW:=hp.sp j l hl;have Jg:=hp.push hl k;have jB:=LB (b:=2) (ls:=ls) (j:=j) (l++[(k:Int)]);rw[List.map_append]at jB;have hlb:=tC l (List.mem_of_getElem? hl);have gT:=hp.arr;have UM:=bx (k:=1) (j:=2+j) (y:=.spare (l.length+1)) gT (by omega);refine aJ (ai ?_);refine aS ?_;simp -dsimp only[simprocAttr,↓aa,zp,he];refine ah ?_;refine aY 9 ([aI e.block,aK e.args]) [(1,.ip none [aI f.name,ay f.blocks]),(5,.ms 1 0 N N),(20,ay f.blocks),(21,aI N),(22,aI k),(6,aI k),(29,aH b.term.to),(30,aI b.term.to.length),(31,aI z),(9,.ip none [aI e.block,aK e.args])] (by simp[bF,bh,Go.Av.look]) (by rfl) (by omega) (by simp[bF,bh,Go.Av.look]) ?_ ?_ ?_
     ·exact bG
     ·simp[ae.upto,aw,az,Edge.ag,Ins.ag,Block.ag,XH]
     refine kC ?_;simp -dsimp only[simprocAttr,↓aa,zp,hj,gT,fm,nW,UM,jB,Int.toNat_natCast,Nat.mul_one,List.length_map,List.length_set];refine⟨by omega,by omega,by omega,by omega,by rw[wF];omega,?_⟩;refine⟨cg [1,2+j] O.length [.pure,.pure,.pure,.pure,.pure,.pure,.pure,.rd 0,.pure,.pure,.wr 2 [1],.pure,.wr 2 [0]] (by simp;omega) (by simp;omega) rfl rfl (by kernel_rfl),ba ?_⟩;simp -dsimp only[bS,ne_eq,Nat.reduceEqDiff,reduceCtorEq];have VO:(lN 2 ls).set j (.aC 1 (l.map aI++[.v (.int .i64 k)]) (.tok (2+j)))=lN 2 (ls.set j (l++[(k:Int)])):=jB;rw[cG _ (by rw[wF];omega),VO];refine cT ?_
     repeat(refine⟨by omega,?_⟩)
     refine fK ?_;refine⟨⟨(z+1,_,_),by simp only;omega,Jg,by simp[M'],tC.push hl k,mr⟩,by simp;omega,?_⟩;refine zq rfl ?_ ?_;simp -dsimp only[simprocAttr,↓aa,zp,zc]
     ·exact Sub.int (by simp)
     rfl
    refine aM ?_;simp -dsimp only[bS,ne_eq,Nat.reduceEqDiff,reduceCtorEq];have H3:z=b.term.to.length:=by simp at h;omega
    subst H3;rw[List.drop_length]at mr;simp only[lY,List.foldl_nil]at mr;subst mr;refine cT ?_
    repeat(refine⟨by omega,?_⟩)
    refine fK ?_;refine⟨⟨(k+1,_,O),by simp only;omega,hp,M',tC.mono (by omega),dw⟩,by simp;omega,?_⟩;refine zq rfl ?_ ?_;simp -dsimp only[simprocAttr,↓aa,zp,zc]
    ·exact Sub.int (by simp)
    rfl
   refine aM ?_;simp -dsimp only[bS,ne_eq,Nat.reduceEqDiff,reduceCtorEq];have gl:k=N:=by simp at h;omega
   subst gl;rw[hN,List.drop_length]at dw;simp only[mM]at dw;subst dw;have SI:=Ft 2 R;have gK:(lN 2 R).length=k:=by rw[wF,M']
   refine aD 5 1 (o:=.cells (lN 2 R)) (.aC 1 (R.map aK) .sh) hp.arr (by simp[aj.aF]) trivial rfl (bQ.ms (cs:=lN 2 R) hp.arr (by intro x hx;obtain⟨l,_,rfl⟩:=List.mem_map.1 hx;rfl) (by rw[List.length_map,M']) (by rw[List.drop_zero,Nat.mul_one,<-gK,List.take_length,SI])) ?_;simp -dsimp only[simprocAttr,↓aa,zp];refine aA (ah ?_);refine aq ?_;simp -dsimp only[simprocAttr,↓aa,zp,zr,Tryz.results14];simp only[aw,ae.upto,and_true];rw[aV];intro x hx;obtain⟨l,_,rfl⟩:=List.mem_map.1 hx;exact⟨az _ _,trivial⟩
  exact bQ.mp rfl rfl
 rw[if_neg hc];obtain⟨e,he⟩:∃e,e=aZ f:=⟨_,rfl⟩
 rw[<-he]at hc oI ⊢;have jP:decide (e=0)=false:=decide_eq_false hc;refine zf true 0 Tryz.func14 Tryz.ntmps14 ?_;dsimp only[Tmp,TypeId,slotsOf];refine aA (ah ?_);refine aD 1 0 (.ip none [aI f.name,ay f.blocks]) rfl (by simp[aj.aF]) trivial rfl ?_ ?_;rotate_left;simp -dsimp only[simprocAttr,↓aa,zp]
 ·refine bX ?_;refine zi oI ?_;refine ah ?_;refine aS ?_;simp -dsimp only[simprocAttr,↓aa,zp,jP];refine ah ?_;refine cH rfl ?_;refine aA (ah ?_);refine aq ?_;simp -dsimp only[simprocAttr,↓aa,zp,zr,Tryz.results14];simp[aw,ae.upto]
 exact bQ.mp rfl rfl
end Go.Proofs.YtjdnhamngpafmaaGreat
namespace Go.Av
theorem qz{P:Program}{aT:eZ}(hT:b6 P aT){o:Oper}{σ:St}{t e:TypeId}{len:Nat}{parts:Array (Nat×Operand)}{ti te:cf}{ps:List (Nat×ae)}{xs:List ae}
  (ho:o.op=.buildSlice t len parts) (hd:∀d,o.dst=some d->d<σ.n) (ht:aT t=some ti) (aU:ti.desc=.slice e) (he:aT e=some te) (oN:0<te.size) (yF:σ.fA parts.toList=some ps) (gL:∀p∈ps,p.2.flat)
  (K3:hU 0 ps=some xs) (hlen:xs.length=len) (cP:∀x∈xs,x.cells.length=te.size) (VY:len*te.size<=2 ^ 24) (hz:len≠0):Cert P o σ (.os σ.objs.length len te.size) (.write (σ.objs++[.cells (au xs)])) :=
 Cert.iZ hd fun base fY a g bN h je=>by
  have hO:g.objs=σ.objs:=je.resolve_left (by simp);have hg:=bN.good;have xm:=km (a:=a) (g:=g) (fun x hx y hy=>h x (by simpa[ho,Op.operands]using hx) y hy) yF gL;have hu:=bV hT ht aU;obtain⟨⟨i,z,h1,h2,h3,h4,h5,h6,h7,h8,h9⟩,_⟩:=hT e te he;have rL:=pd K3;have dv:∀x∈xs,∀c∈x.cells,c.scalar:=by
   have aux:∀{ps:List (Nat×ae)} {vs:List (Nat×Value)},DI g ps vs->∀p∈ps,∀c∈p.2.cells,c.scalar:=by
    intro ps vs hr;induction hr with
    | nil=>intro p hp;cases hp
    | cons hx hf r ih =>
     intro p hp;rcases List.mem_cons.1 hp with hp|hp
     ·subst hp;exact hx.ji hf
     exact ih p hp
   intro x hx c hc;have fX:∃k,(k,x)∈ps:=by
    obtain⟨k,hk⟩:=List.getElem?_of_mem hx;refine⟨0+k,?_⟩;rw[rL,List.mem_map];refine⟨(x,0+k),?_,rfl⟩;rw[List.mem_iff_getElem?];exact⟨k,by simp[hk]⟩
   obtain⟨k,hk⟩:=fX;exact aux xm _ hk c hc
  have ct:¬len*i.size=0:=by
   rw[h2];intro e0;rcases Nat.mul_eq_zero.1 e0 with q|q<;>omega
  obtain⟨zs,Am⟩:∃zs:Array Value,zs=(Array.range (len*i.size)).map (z.cells[· % z.cells.size]!):=⟨_,rfl⟩
  have E3:zs.size=len*te.size:=by rw[Am];simp[h2]
  obtain⟨zc,Wg,Jj,Al⟩:∃zc:List ae,(∀c∈zc,c.scalar)∧jI g zc zs∧zc.length=len*te.size:=by
   refine⟨(List.range (len*te.size)).map fun j=>te.zero.getD (j % te.size) (.v (.bool false)),fun c hc=>?_,⟨by simp[E3],fun j c u hj OI=>?_⟩,by simp⟩
   ·rw[List.mem_map]at hc;obtain⟨j,_,e⟩:=hc;subst e;have bg:j % te.size<te.zero.length:=by rw[h6];exact Nat.mod_lt _ oN
    rw[List.getD_eq_getElem?_getD,List.getElem?_eq_getElem bg];exact h9 _ (List.getElem_mem bg)
   have jc:=I hj;simp only[List.length_map,List.length_range]at jc;rw[List.getElem?_map,List.getElem?_range jc]at hj;simp only[Option.map_some,Option.some.injEq]at hj;subst hj;have bg:j % te.size<te.zero.length:=by rw[h6];exact Nat.mod_lt _ oN
   have kF:j % te.size<z.cells.size:=by rw[h5];exact bg
   rw[Am]at OI;simp only[Array.getElem?_map,h2,Array.getElem?_range,if_pos jc,Option.map_some,Option.some.injEq]at OI;subst OI;rw[List.getD_eq_getElem?_getD,List.getElem?_eq_getElem bg];refine h8 g (j % te.size) _ _ (List.getElem?_eq_getElem bg) ?_;rw[h5,h6];simp[kF]
  have KH:∃cs',jo (fun i=>some (i*te.size,te.size)) zc ps=some cs':=by
   have aux:∀(ys:List ae) (k:Nat) (cs:List ae),(∀y∈ys,y.cells.length=te.size)->(k+ys.length)*te.size<=cs.length->∃cs',jo (fun i=>some (i*te.size,te.size)) cs ((ys.zipIdx k).map fun p=>(p.2,p.1))=some cs':=by
    intro ys;induction ys with
    | nil=>intro k cs _ _;exact⟨cs,rfl⟩
    | cons y ys ih =>
     intro k cs hy hl;simp only[List.zipIdx_cons,List.map_cons,jo];simp only[List.length_cons]at hl;have Gx:(k+1)*te.size=k*te.size+te.size:=Nat.succ_mul k te.size;have GA:(k+1)*te.size<=(k+(ys.length+1))*te.size:=Nat.mul_le_mul_right _ (by omega);have hc:y.cells.length=te.size∧k*te.size+te.size<=cs.length:=⟨hy y (by simp),by omega⟩
     rw[if_pos hc];refine ih (k+1) _ (fun z hz=>hy z (List.mem_cons_of_mem _ hz)) ?_;rw[gz (by omega),show k+1+ys.length=k+(ys.length+1) by omega];exact hl
   rw[rL];exact aux xs 0 zc cP (by rw[Al,hlen,Nat.zero_add];exact Nat.le_refl _)
  obtain⟨cs',EK⟩:=KH;obtain⟨ck,q1,q2,_⟩:=pz (fun i=>some (i*te.size,te.size)) xm Jj EK;obtain⟨e1,_⟩:=sN xs 0 zc cs' (by rw[<-rL];exact EK) (by rw[Al,hlen,Nat.zero_add];exact Nat.le_refl _);have e2:cs'=au xs:=by
   rw[e1];simp only[Nat.zero_mul,List.take_zero,List.nil_append,Nat.zero_add];rw[List.drop_of_length_le (by rw[Al,hlen];omega),List.append_nil]
  subst e2;have bJ:(Instr.buildSlice t len (parts.map fun(i,x)=>(i,a.eval x))).run P g.w=.ok (.slice (some ⟨g.w.heap.size,0,none⟩) len len) (g.w.alloc (.cells ck e)):=by
   have xI:¬len*i.size > 2 ^ 24:=by rw[h2];omega
   rw[Am,<-h2]at q1;have Rl:Instr.fill (fun Y1=>some (Y1*i.size,i.size)) ((Array.range (len*i.size)).map (z.cells[· % z.cells.size]!)) (parts.map fun(i,x)=>(i,a.eval x)).toList=some ck:=by
    rw[Array.toList_map];exact q1
   simp only[Instr.buildSlice,run_underlying hu,Go.sizeOf,typeInfo,Go.zeroValue,Sem.run_bind,run_program,Result.andThen_ok,h1,Sem.run_pure,Go.newRow];rw[if_neg xI,if_neg ct];simp only[Sem.run_bind,Sem.run_pure,Result.andThen_ok,run_program,h1,h4,Rl,run_newObj];rfl
  have hle:=Le.alloc hg (.cells ck e) 0 (.cells (au xs));have lp:ck.size=len*te.size:=by
   rw[q2.1,<-hlen];have:∀ys:List ae,(∀y∈ys,y.cells.length=te.size)->(au ys).length=ys.length*te.size:=fun ys=>by
    induction ys with
    | nil=>intro _;simp[au]
    | cons y ys ih =>
     intro hy;have h1:=ih fun z hz=>hy z (by simp[hz]);have h2:=hy y (by simp);simp only[au,List.flatMap_cons,List.length_append,List.length_cons]at h1 ⊢;rw[h1,h2,Nat.succ_mul];omega
   exact this xs cP
  have YI:∀c∈au xs,c.scalar:=fun c hc=>by
   simp only[au,List.mem_flatMap]at hc;obtain⟨x,hx,hc⟩:=hc;exact dv x hx c hc
  refine⟨.slice (some ⟨g.w.heap.size,0,none⟩) len len,g.alloc (.cells ck e) 0 (.cells (au xs)),.inl (by simp[execOp,ho,bJ,G.alloc]),hle,Good.alloc hg _ 0 _ (.inr rfl) ⟨_,e,rfl,by rw[q2.1];exact Nat.le_refl _,(q2.mono hle).2,YI⟩,by simp[G.alloc,hO,Mode.post],?_⟩;rw[<-hO];exact .os (l:=⟨g.w.heap.size,0,ck.size⟩) (iJ hg) ff (by simp[aj.aF]) (Nat.le_refl _) (by rw[lp];exact Nat.le_refl _) (by
   have:len<=len*te.size:=Nat.le_mul_of_pos_right _ oN;omega)
theorem bQ.os{O:List aj}{id len sz:Nat}{cs xs:List ae}(gp:O[id]?=some (.cells cs))(cP:∀x∈xs,x.cells.length=sz)(hlen:xs.length=len)(hd:((cs.drop 0).take (len*sz)).map ae.bk=au xs):bQ O id (.os id len sz) (.aC sz xs .sh):=fun g u l' hg hO he hle h=>by
 obtain⟨l,o1,ij,h1,h2,_,Jd,_,cE,eu⟩:=h.s8;subst eu;rw[he]at h1;simp only[Option.some.injEq]at h1;subst h1;have gN:g.objs[id]?=some (.cells cs):=by rw[hO];exact gp
 obtain⟨arr,t',iK,dk,lK,fS,oJ,_⟩:=hg.row gN he;subst hlen;have key:∀(j:Nat) (c:ae),(au xs)[j]?=some c->∃c',cs[0+j]?=some c'∧c'.bk=c:=fun j c hj=>by
  rw[<-hd,List.getElem?_map,Option.map_eq_some_iff]at hj;obtain⟨c',hj,e⟩:=hj;have:=mQ hj;rw[List.getElem?_drop]at this;exact⟨c',this,e⟩
 refine .aC cP (fun x hx c hc=>?_) Jd cE (fun _=>rfl) (fun j=>arr.getD (0+j) undef) (fun j c hj=>?_) (fun j c hj=>?_) trivial
 ·have fX:c∈au xs:=by
   simp only[au,List.mem_flatMap];exact⟨x,hx,hc⟩
  obtain⟨j,hj⟩:=List.getElem?_of_mem fX;obtain⟨c',jc,e⟩:=key j c hj;subst e;exact ae.eY (oJ c' (List.mem_of_getElem? jc))
 ·obtain⟨c',jc,e⟩:=key j c hj;have bg:=I jc;refine⟨?_,nm hg he gN trivial _⟩;show g.w.cell? _=_;simp only;rw[cell_of_row dk];simp[Array.getD_eq_getD_getElem?,show j<arr.size by omega]
 obtain⟨c',jc,e⟩:=key j c hj;have bg:=I jc;subst e;exact((fS _ c' _ jc (by simp[Array.getD_eq_getD_getElem?,show j<arr.size by omega])).mono hle).bk
theorem Lj{P:Program}{aT:eZ}{md:Md}(hT:b6 P aT){o:Oper}{l2:List Oper}{Q:dE->St->Prop}{σ:St}{t e:TypeId}{len d:Nat}{parts:Array (Nat×Operand)}{ti te:cf}{ps:List (Nat×ae)}{xs:List ae}
  (ho:o.op=.buildSlice t len parts) (jA:o.dst=some d) (hd:d<σ.n) (ht:aT t=some ti) (aU:ti.desc=.slice e) (he:aT e=some te) (oN:0<te.size) (yF:σ.fA parts.toList=some ps) (gL:∀p∈ps,p.2.flat)
  (K3:hU 0 ps=some xs) (hlen:xs.length=len) (cP:∀x∈xs,x.cells.length=te.size) (VY:len*te.size<=2 ^ 24) (hz:len≠0)
  (h:eA P aT md l2 0 [] ⟨σ.n,p9 o.dst (.os σ.objs.length len te.size) σ.br,σ.objs++[.cells (au xs)]⟩ [] fun ρ _=>At ρ (Q .norm)):Jq P aT md o l2 Q σ :=
 ⟨_,_,qz hT ho (fun d' e=>by rw[jA]at e;cases e;exact hd) ht aU he oN yF gL K3 hlen cP VY hz,h⟩
end Go.Av
namespace Go.Proofs.YtjdnhamngpafmaaGreat
open Go.Av
def LD(oid:Nat)(l:List Int):ae:=if l=[]then .aC 1 [] .ex else .os oid l.length 1
theorem dZ(x:Value):au [ae.v x]=[ae.v x]:=rfl
theorem fv(id len sz:Nat):(ae.os id len sz).cells=[ae.os id len sz]:=rfl
theorem H8{O:List aj}(bG:∀o∈O,o.upto O.length)(h1:O[1]?=some (.cells [.aC 1 [] .ex]))(k:Int) :
  bd Tryz.prog 76 O [aI k,.mp 1 0] (fun r O'=>r=.cD []∧O'=(O++[aj.cells [aI k]]).set 1 (.cells [.os O.length 1 1])):=by
 have hl:=I h1;have HG:∀X,(O++X)[1]?=some (.cells [.aC 1 [] .ex]):=fun X=>cw h1;have gl:O.length<=O.length+1:=by omega
 refine dy hT true (O.length+1) Tryz.func76 rfl (by kernel_rfl) (by simp[Tryz.ntmps76]) (by assumption) ?_;show cc Tryz.prog _ _ _ ⟨7,_,_⟩;dsimp only[Tmp,TypeId,slotsOf];have eH:((O++[aj.cells [ae.v (.int .i64 k)]]).set 1 (.cells [.os O.length 1 1])).take (O.length+1)=(O++[aj.cells [ae.v (.int .i64 k)]]).set 1 (.cells [.os O.length 1 1]):=List.take_of_length_le (by simp);refine Qw ?_;simp -dsimp only[simprocAttr,↓aa,zp,h1,HG,dZ,fv];refine⟨trivial,?_⟩;refine ba ?_;simp -dsimp only[simprocAttr,↓aa,zp,zr,Tryz.results76,eH,List.length_set,List.length_append];exact⟨bz (j0 (fun o ho=>aj.cj (by omega) (bG o ho)) ⟨trivial,trivial⟩) ⟨show _<_ by omega,trivial⟩,trivial⟩
theorem Lc{O:List aj}(bG:∀o∈O,o.upto O.length){oid:Nat}{l:List Int}(h1:O[1]?=some (.cells [.os oid l.length 1]))(h2:O[oid]?=some (.cells (l.map aI)))(ho:oid≠1)(KO:l.length<=1000)(k:Int) :
  bd Tryz.prog 76 O [aI k,.mp 1 0] (fun r O'=>r=.cD []∧O'=(O.set oid .gone++[aj.cells ((l++[k]).map aI)]).set 1 (.cells [.os O.length (l.length+1) 1])):=by
 have hl:=I h1;have HG:∀X,(O.set oid .gone++X)[1]?=some (.cells [.os oid l.length 1]):=fun X=>cw (bx h1 ho);have gl:O.length<=O.length+1:=by omega
 refine dy hT true (O.length+1) Tryz.func76 rfl (by kernel_rfl) (by simp[Tryz.ntmps76]) (by assumption) ?_;show cc Tryz.prog _ _ _ ⟨7,_,_⟩;dsimp only[Tmp,TypeId,slotsOf];refine Qw ?_;simp -dsimp only[simprocAttr,↓aa,zp,h1,HG,h2,dZ,fv];refine⟨by simp,by omega,by omega,?_⟩;have Ac:(l.map aI).take (l.length*1)=l.map aI:=List.take_of_length_le (by simp);have eH:((O.set oid .gone++[aj.cells (l.map aI++[ae.v (.int .i64 k)])]).set 1 (.cells [.os O.length (l.length+1) 1])).take (O.length+1)=(O.set oid .gone++[aj.cells (l.map aI++[ae.v (.int .i64 k)])]).set 1 (.cells [.os O.length (l.length+1) 1]):=List.take_of_length_le (by simp);refine⟨trivial,?_⟩;refine ba ?_;simp -dsimp only[simprocAttr,↓aa,zp,zr,Tryz.results76,Ac,eH,List.length_set,List.length_append];refine⟨bz (j0 (bz (fun o ho=>aj.cj (by omega) (bG o ho)) trivial) ?_) ⟨show _<_ by omega,trivial⟩,trivial,by simp⟩;show aw _ _;have:=az (O.length+1) (l++[k]);simpa using this
end Go.Proofs.YtjdnhamngpafmaaGreat
namespace Go.Av
theorem RV.Wz{g:G}{sz:Nat}{xs:List ae}{a:Addr}{len cap:Nat}(h:RV g (.aC sz xs .sh) (.slice (some a) len cap)):RV g (.aC sz xs .nn) (.slice (some a) len cap):=by
 cases h with
 | aC cP dv cY cE hs f hm hr ho=>exact .aC cP dv cY cE hs f hm hr trivial
theorem bQ.Wk{O:List aj}{id off len cap sz:Nat}{cs xs:List ae}(gp:O[id]?=some (.cells cs))(cP:∀x∈xs,x.cells.length=sz)(hlen:xs.length=len)(hd:((cs.drop off).take (len*sz)).map ae.bk=au xs):bQ O id (.ms id off len cap) (.aC sz xs .nn):=fun g u l' hg hO he hle h=>by
 have k:=bQ.ms gp cP hlen hd g u l' hg hO he hle h;obtain⟨l,o1,h1,h2,_,Jd,cE,ij,cY,eu⟩:=h.oX;subst eu;exact k.Wz
end Go.Av
namespace Go.Proofs.YtjdnhamngpafmaaGreat
open Go.Av
theorem fi(n:Nat)(l:List Bool):aw n (l.map eB):=by
 rw[aV];intro x hx;obtain⟨b,_,rfl⟩:=List.mem_map.1 hx;trivial
theorem tA(n:Nat):(List.replicate n [ae.v (.bool false)]).flatten=(List.replicate n false).map eB:=by
 induction n with
 | zero=>rfl
 | succ n ih=>rw[List.replicate_succ,List.flatten_cons,ih,List.replicate_succ];rfl
theorem BP(l:List Bool):au (l.map eB)=l.map eB:=by
 induction l with
 | nil=>rfl
 | cons a r ih =>
  simp only[List.map_cons,au,List.flatMap_cons]at ih ⊢;rw[ih];rfl
theorem J4(l:List Bool):(l.map eB).map ae.bk=l.map eB:=by
 rw[List.map_map];rfl
theorem Ht(l:List Bool):(l.map eB).map ae.share=l.map eB:=by
 rw[List.map_map];rfl
theorem Ur(l:List Bool):∀x∈l.map eB,x.cells.length=1:=fun x hx=>by
 obtain⟨b,_,rfl⟩:=List.mem_map.1 hx;rfl
theorem yq{O:List aj}{id:Nat}{l:List Bool}{len cap:Nat}(h:O[id]?=some (.cells (l.map eB)))(hl:l.length=len):bQ O id (.ms id 0 len cap) (.aC 1 (l.map eB) .nn) :=
 bQ.Wk h (Ur l) (by simpa using hl) (by rw[List.drop_zero,List.take_of_length_le (by simp;omega),J4,BP])
theorem zS{l:List Bool}{j:Nat}(h:j<l.length)(b:Bool):bo (l.map eB) j [.v (.bool b)]=(l.set j b).map eB:=by
 rw[cG _ (by simpa using h),List.map_set];rfl
def lO(l:List Bool)(v:Int)(b:Bool):List Bool:=l.set v.toNat b
def kJ(l:List Bool)(vs:List Int):List Bool:=vs.foldl (fun s v=>lO s v true) l
def lh(i:Ins)(now:List Bool):List Bool:=kJ (lO now i.to false) i.args
def fM(l:List Ins)(now:List Bool):List Bool:=l.foldr lh now
def nX(ps:List Int):Nat->List Bool->List Bool->List Bool
 | _,[],out=>out
 | v,is::r,out=>nX ps (v+1) r (if is&&!oH ps v then out.set v true else out)
def cq(first:List (List Bool))(k:Int):List Bool:=first[k.toNat]?.getD []
def kO(f:Func)(first:List (List Bool))(out:List Bool)(e:Edge):List Bool:=nX (ax f e.block).params 0 (cq first e.block) out
def dh(t:Term):Bool:=!decide (t.kind=1)&&!decide (t.kind=4)
def yP(t:Term)(o:List Bool):List Bool:=t.to.foldl (fun o e=>kJ o e.args) (if dh t then lO o t.arg true else o)
def lW(f:Func)(many:Nat)(first:List (List Bool))(t:Term):List Bool:=yP t (t.to.foldl (kO f first) (List.replicate many false))
def cx:Nat->List Bool->List Int
 | _,[]=>[]
 | v,is::r=>if is then(v:Int)::cx (v+1) r else cx (v+1) r
theorem lx(l:List Bool)(v:Int)(b:Bool):(lO l v b).length=l.length:=by simp[lO]
theorem nG:∀(vs:List Int) (l:List Bool),(kJ l vs).length=l.length
 | [],_=>rfl
 | v::r,l=>by
  have:=nG r (lO l v true);rw[lx]at this;exact this
theorem yg(i:Ins)(now:List Bool):(lh i now).length=now.length:=by rw[lh,nG,lx]
theorem mu:∀(l:List Ins) (now:List Bool),(fM l now).length=now.length
 | [],_=>rfl
 | i::r,now=>by
  have:=mu r now;simp only[fM,List.foldr_cons]at this ⊢;rw[yg,this]
theorem pL(ps:List Int):∀(S:List Bool) (v:Nat) (out:List Bool),(nX ps v S out).length=out.length
 | [],_,_=>rfl
 | is::r,v,out=>by
  rw[nX,pL ps r];split<;>simp
theorem pJ(f:Func)(first:List (List Bool)):∀(l:List Edge) (out:List Bool),(l.foldl (kO f first) out).length=out.length
 | [],_=>rfl
 | e::r,out=>by
  rw[List.foldl_cons,pJ f first r,kO,pL]
theorem yf:∀(l:List Edge) (out:List Bool),(l.foldl (fun o e=>kJ o e.args) out).length=out.length
 | [],_=>rfl
 | e::r,out=>by
  rw[List.foldl_cons,yf r,nG]
theorem H7(t:Term)(o:List Bool):(yP t o).length=o.length:=by
 rw[yP,yf];split
 ·rw[lx]
 rfl
theorem pK(f:Func)(many:Nat)(first:List (List Bool))(t:Term):(lW f many first t).length=many:=by
 rw[lW,H7,pJ,List.length_replicate]
structure Sr where
 seen:List Bool
 st:List (Int×Int)
 out:List Int
def kX(f:Func)(b:Int):List Edge:=(ax f b).term.to
def dB(f:Func)(b e:Int):Int:=((kX f b)[e.toNat]?.getD default).block
def fF(f:Func)(S:Sr):Sr :=
 match S.st with
 | []=>S
 | (b,e)::r =>
  if e=(kX f b).length then⟨S.seen,r,S.out++[b]⟩
  else if S.seen[(dB f b e).toNat]?.getD false=true then⟨S.seen,(b,e+1)::r,S.out⟩
  else⟨S.seen.set (dB f b e).toNat true,(dB f b e,0)::(b,e+1)::r,S.out⟩
def jx(f:Func):Nat->Sr->Sr
 | 0,S=>S
 | n+1,S=>if S.st.isEmpty then S else jx f n (fF f S)
def cW(f:Func):Sr:=⟨(List.replicate f.blocks.length false).set 0 true,[(0,0)],[]⟩
def iN(f:Func):List Int:=(jx f 100000 (cW f)).out
structure xo(f:Func)(S:Sr):Prop where
 len:S.seen.length=f.blocks.length
 blk:∀p∈S.st,0<=p.1∧p.1<f.blocks.length∧0<=p.2∧p.2<=(kX f p.1).length
 few:S.out.length+S.st.length<=S.seen.countP id
 outs:∀b∈S.out,0<=b∧b<f.blocks.length
def T5:List (Int×Int)->Nat
 | []=>0
 | p::r=>(258-p.2.toNat)+T5 r
def Nq(S:Sr):Nat:=300*(S.seen.length-S.seen.countP id)+T5 S.st
structure uC(f:Func):Prop where
 ne:f.blocks≠[]
 few:f.blocks.length<=128
 to:∀b∈f.blocks,b.term.to.length<=257
 fZ:∀b∈f.blocks,∀e∈b.term.to,1<=e.block∧e.block<f.blocks.length
theorem QB.gr{f:Func}(h:QB f):uC f :=
 ⟨h.ne,h.few,fun b hb=>Tr (jm (h.blk b hb).fin),fun b hb e he=>by
  have:=((jm (h.blk b hb).fin).fZ e he).1;omega⟩
theorem uC.next{f:Func}(h:uC f){b e:Int}(hb:0<=b∧b<f.blocks.length)(h0:0<=e)(h1:e<(kX f b).length):∃x,(kX f b)[e.toNat]?=some x∧x.block=dB f b e∧1<=dB f b e∧dB f b e<f.blocks.length:=by
 have bg:e.toNat<(kX f b).length:=by omega
 have hx:(kX f b)[e.toNat]?=some (kX f b)[e.toNat]:=List.getElem?_eq_getElem bg;refine⟨_,hx,by rw[dB,hx];rfl,?_⟩;have:=h.fZ _ (gx hb.1 hb.2) (kX f b)[e.toNat] (List.getElem_mem bg);rw[dB,hx];exact this
theorem nT{l:List Bool}{k:Nat}(hk:k<l.length)(h:l[k]?.getD false=false):(l.set k true).countP id=l.countP id+1:=by
 induction l generalizing k with
 | nil=>simp at hk
 | cons a r ih =>
  cases k with
  | zero =>
   simp only[List.getElem?_cons_zero,Option.getD_some]at h;subst h;simp
  | succ k =>
   simp only[List.getElem?_cons_succ]at h;have:=ih (by simpa using hk) h;simp only[List.set_cons_succ,List.countP_cons,this];omega
theorem pS{f:Func}(hg:uC f){S:Sr}(h:xo f S)(ct:S.st≠[]):xo f (fF f S)∧Nq (fF f S)<Nq S:=by
 obtain⟨seen,st,out⟩:=S;cases st with
 | nil=>exact absurd rfl ct
 | cons p r =>
  obtain⟨b,e⟩:=p;obtain⟨h1,h2,h3,h4⟩:=h;simp only at h1 h2 h3 h4;have hp:=h2 (b,e) (by simp);simp only at hp;have rO:(kX f b).length<=257:=hg.to _ (gx hp.1 hp.2.1);have hc:seen.countP id<=seen.length:=List.countP_le_length;simp only[List.length_cons]at h3;simp only[fF];by_cases he:e=(kX f b).length
  ·rw[if_pos he];refine⟨⟨h1,fun p hp=>h2 p (by simp[hp]),by simp only[List.length_append,List.length_cons,List.length_nil];omega,fun x hx=>?_⟩,?_⟩
   ·rcases List.mem_append.1 hx with q|q
    ·exact h4 x q
    simp only[List.mem_singleton]at q;subst q;exact⟨hp.1,hp.2.1⟩
   simp only[Nq,T5];omega
  rw[if_neg he];obtain⟨x,hx,H0,mH,tF⟩:=hg.next ⟨hp.1,hp.2.1⟩ hp.2.2.1 (by omega)
  by_cases hs:seen[(dB f b e).toNat]?.getD false=true
  ·rw[if_pos hs];refine⟨⟨h1,fun p VN=>?_,by simpa using h3,h4⟩,?_⟩
   ·rcases List.mem_cons.1 VN with q|q
    ·subst q;exact⟨hp.1,hp.2.1,by simp only;omega,by simp only;omega⟩
    exact h2 p (by simp[q])
   simp only[Nq,T5];omega
  rw[if_neg hs];have TR:seen[(dB f b e).toNat]?.getD false=false:=by simpa using hs
  have hk:(dB f b e).toNat<seen.length:=by omega
  have fS:=nT hk TR;have gK:(seen.set (dB f b e).toNat true).countP id<=(seen.set (dB f b e).toNat true).length:=List.countP_le_length;rw[List.length_set]at gK;refine⟨⟨by simpa using h1,fun p VN=>?_,by simp only[List.length_cons,fS];omega,h4⟩,?_⟩
  ·rcases List.mem_cons.1 VN with q|q
   ·subst q;exact⟨by simp only;omega,tF,by simp,by simp⟩
   rcases List.mem_cons.1 q with q|q
   ·subst q;exact⟨hp.1,hp.2.1,by simp only;omega,by simp only;omega⟩
   exact h2 p (by simp[q])
  simp only[Nq,T5,List.length_set,fS];omega
theorem si{f:Func}(hg:uC f):∀(n:Nat) (S:Sr),xo f S->Nq S<n->xo f (jx f n S)∧(jx f n S).st=[]
 | 0,S,_,h=>by omega
 | n+1,S,h,hw=>by
  simp only[jx];cases fq:S.st with
  | nil=>simpa[fq]using h
  | cons p r =>
   simp only[List.isEmpty_cons,Bool.false_eq_true,if_false];have:=pS hg h (by rw[fq];simp);exact si hg n _ this.1 (by omega)
theorem nM{f:Func}(hg:uC f):xo f (cW f)∧Nq (cW f)<100000:=by
 have hl:0<f.blocks.length:=by
  cases hb:f.blocks with
  | nil=>exact absurd hb hg.ne
  | cons=>simp
 have uv:=hg.few;have hc:((List.replicate f.blocks.length false).set 0 true).countP id=1:=by
  rw[nT (by simpa using hl) (by simp[hl])];simp[List.countP_replicate]
 refine⟨⟨by simp[cW],fun p hp=>?_,by simp only[cW,hc];simp,by simp[cW]⟩,?_⟩
 ·simp only[cW,List.mem_singleton]at hp;subst hp;exact⟨by simp,by simp;omega,by simp,by simp⟩
 simp only[Nq,cW,hc,List.length_set,List.length_replicate,T5];simp;omega
def ml:List (Int×Int)->List ae
 | []=>[]
 | p::r=>ml r++[aI p.1,aI p.2]
theorem iH:∀l:List (Int×Int),(ml l).length=l.length*2
 | []=>rfl
 | p::r=>by
  simp only[ml,List.length_append,iH r,List.length_cons,List.length_nil];omega
theorem tk(n:Nat):∀l:List (Int×Int),aw n (ml l)
 | []=>trivial
 | p::r=>by
  rw[aV];intro x hx;rcases List.mem_append.1 hx with q|q
  ·exact aV.1 (tk n r) x q
  simp only[List.mem_cons,List.not_mem_nil,or_false]at q;rcases q with rfl|rfl<;>trivial
structure So where
 S:Sr
 sid:Nat
 oid:Nat
 O:List aj
def rl(O:List aj)(id:Nat):List ae :=
 match O[id]? with
 | some (.cells cs)=>cs
 | _=>[]
def pN(O:List aj)(oid:Nat)(out:List Int)(b:Int):List aj :=
 if out=[]then(O++[aj.cells [aI b]]).set 1 (.cells [.os O.length 1 1])
 else(O.set oid .gone++[aj.cells ((out++[b]).map aI)]).set 1 (.cells [.os O.length (out.length+1) 1])
def kM(f:Func)(X:So):So :=
 match X.S.st with
 | []=>X
 | (b,e)::r =>
  if e=(kX f b).length then⟨fF f X.S,X.sid,X.O.length,pN X.O X.oid X.S.out b⟩
  else
   let cs:=(rl X.O X.sid).set (r.length*2+1) (aI (e+1));let O1:=X.O.set X.sid (.cells cs)
   if X.S.seen[(dB f b e).toNat]?.getD false=true then⟨fF f X.S,X.sid,X.oid,O1⟩
   else
    let O2:=O1.set 2 (.cells ((X.S.seen.set (dB f b e).toNat true).map eB))
    ⟨fF f X.S,O2.length,X.oid,O2.set X.sid .gone++[aj.cells (cs.take ((r.length+1)*2)++[aI (dB f b e),aI 0])]⟩
def lB(f:Func):Nat->So->So
 | 0,X=>X
 | n+1,X=>if X.S.st.isEmpty then X else lB f n (kM f X)
theorem De(f:Func)(X:So):(kM f X).S=fF f X.S:=by
 unfold kM;cases fq:X.S.st with
 | nil=>simp[fF,fq]
 | cons p r =>
  simp only;split
  ·rfl
  split<;>rfl
theorem AY(f:Func):∀(n:Nat) (X:So),(lB f n X).S=jx f n X.S
 | 0,X=>rfl
 | n+1,X=>by
  simp only[lB,jx];split
  ·rfl
  rw[AY f n,De]
structure SO(X:So):Prop where
 up:∀o∈X.O,o.upto X.O.length
 out:X.O[1]?=some (.cells [LD X.oid X.S.out])
 outs:X.S.out≠[]->X.O[X.oid]?=some (.cells (X.S.out.map aI))∧X.oid≠X.sid∧2<X.oid
 seen:X.O[2]?=some (.cells (X.S.seen.map eB))
 stk:∃pZ,X.O[X.sid]?=some (.cells (ml X.S.st++pZ))
 sne:2<X.sid
theorem SO.step{f:Func}{X:So}(h:SO X):SO (kM f X):=by
 obtain⟨⟨seen,st,out⟩,sid,oid,O⟩:=X;obtain⟨h1,h2,h3,h4,⟨pZ,h5⟩,h6⟩:=h;simp only at h1 h2 h3 h4 h5 h6;have l1:=I h2;have l2:=I h4;have l5:=I h5;cases st with
 | nil=>exact⟨h1,h2,h3,h4,⟨pZ,h5⟩,h6⟩
 | cons p r =>
  obtain⟨b,e⟩:=p;simp only[kM,fF];by_cases he:e=(kX f b).length
  ·rw[if_pos he,if_pos he];by_cases ho:out=[]
   ·subst ho;simp only[pN,if_true,List.nil_append];refine⟨?_,?_,fun _=>⟨?_,by simp only;omega,by simp only;omega⟩,?_,⟨[aI b,aI e]++pZ,?_⟩,h6⟩
    ·have:=bz (n:=O.length+1) (k:=1) (x:=.cells [.os O.length 1 1]) (j0 (fun o ho=>aj.cj (by omega) (h1 o ho)) (x:=.cells [aI b]) ⟨trivial,trivial⟩) ⟨show _<_ by omega,trivial⟩;simpa using this
    ·simp only;rw[List.getElem?_set_self (by simp;omega)];rfl
    ·simp only;rw[List.getElem?_set_ne (by omega),List.getElem?_append_right (Nat.le_refl _)];simp
    ·simp only;rw[List.getElem?_set_ne (by omega),List.getElem?_append_left l2];exact h4
    simp only;rw[List.getElem?_set_ne (by omega),List.getElem?_append_left l5,h5];simp[ml]
   obtain⟨k1,k2,k3⟩:=h3 ho;have lo:=I k1;simp only[pN,if_neg ho];refine⟨?_,?_,fun _=>⟨?_,by simp only;omega,by simp only;omega⟩,?_,⟨[aI b,aI e]++pZ,?_⟩,h6⟩
   ·have:=bz (n:=O.length+1) (k:=1) (x:=.cells [.os O.length (out.length+1) 1]) (j0 (bz (k:=oid) (x:=.gone) (fun o ho=>aj.cj (by omega) (h1 o ho)) trivial) (x:=.cells ((out++[b]).map aI)) (az _ _)) ⟨show _<_ by omega,trivial⟩;simpa using this
   ·simp only;rw[List.getElem?_set_self (by simp;omega)];simp[LD]
   ·simp only;rw[List.getElem?_set_ne (by omega),List.getElem?_append_right (by simp)];simp
   ·simp only;rw[List.getElem?_set_ne (by omega),List.getElem?_append_left (by simpa using l2),List.getElem?_set_ne (by omega)];exact h4
   simp only;rw[List.getElem?_set_ne (by omega),List.getElem?_append_left (by simpa using l5),List.getElem?_set_ne (by omega),h5];simp[ml]
  rw[if_neg he,if_neg he];have fS:(rl O sid).set (r.length*2+1) (aI (e+1))=ml ((b,e+1)::r)++pZ:=by
   simp only[rl,h5,ml];rw[List.append_assoc,List.set_append_right _ _ (by rw[iH];omega),iH,show r.length*2+1-r.length*2=1 by omega];simp
  rw[fS];have OI:aw O.length pZ:=by
   rw[aV];intro x hx;have:=h1 _ (List.mem_of_getElem? h5);exact aV.1 this x (List.mem_append.2 (.inr hx))
  have uJ:aw O.length (ml ((b,e+1)::r)++pZ):=by
   rw[aV];intro x hx;rcases List.mem_append.1 hx with q|q
   ·exact aV.1 (tk _ _) x q
   exact aV.1 OI x q
  by_cases hs:seen[(dB f b e).toNat]?.getD false=true
  ·rw[if_pos hs,if_pos hs];refine⟨?_,?_,fun ho=>?_,?_,⟨pZ,?_⟩,h6⟩
   ·have:=bz (n:=O.length) (k:=sid) (x:=.cells (ml ((b,e+1)::r)++pZ)) h1 uJ;simpa using this
   ·simp only;rw[List.getElem?_set_ne (by omega)];exact h2
   ·obtain⟨k1,k2,k3⟩:=h3 ho;refine⟨?_,k2,k3⟩;simp only;rw[List.getElem?_set_ne (fun q=>k2 q.symm)];exact k1
   ·simp only;rw[List.getElem?_set_ne (by omega)];exact h4
   simp only;rw[List.getElem?_set_self l5]
  rw[if_neg hs,if_neg hs]
  skip
  have eH:(ml ((b,e+1)::r)++pZ).take ((r.length+1)*2)=ml ((b,e+1)::r):=by
   rw[List.take_append_of_le_length (by rw[iH];simp),List.take_of_length_le (by rw[iH];simp)]
  rw[eH];refine⟨?_,?_,fun ho=>?_,?_,⟨[],?_⟩,?_⟩
  ·have a1:=bz (n:=O.length) (k:=sid) (x:=.cells (ml ((b,e+1)::r)++pZ)) h1 uJ;have a2:=bz (k:=2) (x:=.cells ((seen.set (dB f b e).toNat true).map eB)) a1 (fi _ _);have a3:=bz (k:=sid) (x:=.gone) a2 trivial;have a4:=j0 (n:=O.length+1) (x:=.cells (ml ((b,e+1)::r)++[aI (dB f b e),aI 0])) (fun o ho=>aj.cj (by omega) (a3 o ho)) (by
    show aw _ _;have:=tk (O.length+1) ((dB f b e,0)::(b,e+1)::r);exact this)
   simpa using a4
  ·simp only;rw[List.getElem?_append_left (by simp;omega),List.getElem?_set_ne (by omega),List.getElem?_set_ne (by omega),List.getElem?_set_ne (by omega)];exact h2
  ·obtain⟨k1,k2,k3⟩:=h3 ho;have lo:=I k1;refine⟨?_,by simp;omega,k3⟩;simp only;rw[List.getElem?_append_left (by simpa using lo),List.getElem?_set_ne (fun q=>k2 q.symm),List.getElem?_set_ne (by omega),List.getElem?_set_ne (fun q=>k2 q.symm)];exact k1
  ·simp only;rw[List.getElem?_append_left (by simpa using l2),List.getElem?_set_ne (by omega),List.getElem?_set_self (by simpa using l2)]
  ·simp only[List.length_set];rw[List.getElem?_append_right (by simp)];simp[ml]
  simp;omega
structure Zl(f:Func):Prop where
 few:f.blocks.length<=128
 params:∀b∈f.blocks,b.params.length<=4096
 ins:∀b∈f.blocks,b.ins.length<=1024
 Rj:∀b∈f.blocks,∀i∈b.ins,i.args.length<=16
 cases:∀b∈f.blocks,b.term.cases.length<=256
 to:∀b∈f.blocks,b.term.to.length<=257
 QO:∀b∈f.blocks,∀e∈b.term.to,e.args.length<=4096
def ib(es:List Edge):List ae:=es.flatMap fun e=>[aI e.block,aK e.args]
def CR(id:Nat)(es:List Edge):ae:=if es=[]then .aC 2 [] .ex else .os id es.length 2
def qO(id:Nat)(es:List Edge):ae:=if es=[]then .aC 2 [] .sh else .os id es.length 2
def uE(id:Nat)(b:Block):List ae:=[aK b.params,bf b.ins,aI b.term.kind,aI b.term.arg,aI b.term.n,aK b.term.cases,qO id b.term.to]
def fN(ids:List Nat)(bs:List Block):List ae:=(List.zipWith uE ids bs).flatten
def jG(id:Nat)(bs:List Block):ae:=if bs=[]then .aC 7 [] .ex else .os id bs.length 7
theorem wH(id:Nat)(es:List Edge):(CR id es).bk=qO id es:=by
 unfold CR qO;split<;>rfl
theorem wG(id:Nat)(es:List Edge):(qO id es).bk=qO id es:=by
 unfold qO;split<;>rfl
theorem J7(es:List Edge)(e:Edge):ib (es++[e])=ib es++[aI e.block,aK e.args]:=by simp[ib]
theorem nj(es:List Edge):(ib es).length=es.length*2:=by
 induction es with
 | nil=>rfl
 | cons e r ih =>
  have:ib (e::r)=[aI e.block,aK e.args]++ib r:=rfl;rw[this,List.length_append,ih];simp only[List.length_cons,List.length_nil];omega
theorem vL(n:Nat)(es:List Edge):aw n (ib es):=by
 rw[aV];intro c hc;simp only[ib,List.mem_flatMap]at hc;obtain⟨e,_,hc⟩:=hc;simp only[List.mem_cons,List.not_mem_nil,or_false]at hc;rcases hc with rfl|rfl
 ·trivial
 exact⟨az _ _,trivial⟩
theorem Hw(es:List Edge):(ib es).map ae.bk=au (es.map Edge.enc):=by
 induction es with
 | nil=>rfl
 | cons e r ih =>
  have h1:ib (e::r)=[aI e.block,aK e.args]++ib r:=rfl;have h2:au ((e::r).map Edge.enc)=[aI e.block,aK e.args]++au (r.map Edge.enc):=rfl;rw[h1,h2,List.map_append,ih];rfl
theorem sA{ids:List Nat}{bs:List Block}(h:ids.length=bs.length)(id:Nat)(b:Block):fN (ids++[id]) (bs++[b])=fN ids bs++uE id b:=by
 unfold fN;rw[List.zipWith_append h];simp
theorem mB:∀{ids:List Nat} {bs:List Block},ids.length=bs.length->(fN ids bs).length=bs.length*7
 | [],[],_=>rfl
 | i::ids,b::bs,h=>by
  have e:fN (i::ids) (b::bs)=uE i b++fN ids bs:=rfl;rw[e,List.length_append,mB (by simpa using h)];simp only[uE,List.length_cons,List.length_nil];omega
 | [],b::bs,h=>by simp at h
 | i::ids,[],h=>by simp at h
theorem JB{n id:Nat}(b:Block)(h:b.term.to≠[]->id<n):aw n (uE id b):=by
 refine⟨⟨az _ _,trivial⟩,⟨Ins.ag _ _,trivial⟩,trivial,trivial,trivial,⟨az _ _,trivial⟩,?_,trivial⟩;unfold qO;split
 ·exact⟨trivial,trivial⟩
 rename_i q;exact h q
structure Xg(b0:Nat)(ids:List Nat)(bs:List Block)(O:List aj):Prop where
 li:ids.length=bs.length
 own:∀(j id:Nat) (b:Block),ids[j]?=some id->bs[j]?=some b->b.term.to≠[]->b0<=id∧O[id]?=some (.cells (ib b.term.to))
 inj:∀(i j id:Nat) (b c:Block),ids[i]?=some id->ids[j]?=some id->bs[i]?=some b->bs[j]?=some c->b.term.to≠[]->c.term.to≠[]->i=j
structure Ny(f:Func)(done:List Block)(eg:Nat)(ids:List Nat)(O:List aj):Prop where
 up:∀o∈O,o.upto O.length
 r0:O[0]?=some .gone
 r1:O[1]?=some (.cells [aI 0,.aC 7 [] .ex])
 r3:O[3]?=some (.cells [aI 0,.aC 7 [] .ex])
 out:O[4]?=some (.cells [aI f.name,jG eg done])
 blk:done≠[]->5<=eg∧O[eg]?=some (.cells (fN ids done))
 cp:Xg 5 ids done O
 ne:∀(j id:Nat) (b:Block),ids[j]?=some id->done[j]?=some b->b.term.to≠[]->id≠eg
theorem yi{n:Nat}:∀{ids:List Nat} {bs:List Block},(∀(j id:Nat) (b:Block),ids[j]?=some id->bs[j]?=some b->b.term.to≠[]->id<n)->aw n (fN ids bs):=by
 intro ids bs h;rw[aV];intro c hc;unfold fN at hc;obtain⟨l,hl,hc⟩:=List.mem_flatten.1 hc;obtain⟨j,hj⟩:=List.mem_iff_getElem?.1 hl;rw[List.getElem?_zipWith]at hj;cases h1:ids[j]? with
 | none=>rw[h1]at hj;cases hj
 | some id =>
  cases h2:bs[j]? with
  | none=>rw[h1,h2]at hj;cases hj
  | some b =>
   rw[h1,h2]at hj;simp only[Option.some.injEq]at hj;subst hj;exact aV.1 (JB b (h j id b h1 h2)) c hc
theorem Ny.snoc{f:Func}{done:List Block}{eg:Nat}{ids:List Nat}{O O1:List aj}(h:Ny f done eg ids O){b:Block}{tid:Nat}(hlen:O.length<=O1.length)(bG:∀o∈O1,o.upto O1.length)
  (ew:∀k,k<O.length->(done≠[]->k≠eg)->O1[k]?=O[k]?) (ht:b.term.to≠[]->O.length<=tid∧O1[tid]?=some (.cells (ib b.term.to))) {cs ar:List ae} (fS:cs=fN (ids++[tid]) (done++[b])) (R1:ar=[aI f.name,.os O1.length (done.length+1) 7]) :
  Ny f (done++[b]) O1.length (ids++[tid]) ((O1++[aj.cells cs]).set 4 (.cells ar)):=by
 have h4:=I h.out;have Vu:=h.cp.li;have nU:∀k,k<O.length->k≠4->(done≠[]->k≠eg)->((O1++[aj.cells cs]).set 4 (.cells ar))[k]?=O[k]?:=fun k hk hk4 HQ=>by
  rw[List.getElem?_set_ne (Ne.symm hk4),List.getElem?_append_left (by omega),ew k hk HQ]
 have UO:done≠[]->5<=eg:=fun q=>(h.blk q).1;have OF:∀(j id:Nat) (c:Block),(ids++[tid])[j]?=some id->(done++[b])[j]?=some c->(ids[j]?=some id∧done[j]?=some c)∨(j=ids.length∧id=tid∧c=b):=fun j id c h1 h2=>by
  by_cases hj:j<ids.length
  ·rw[List.getElem?_append_left hj]at h1;rw[List.getElem?_append_left (by omega)]at h2;exact .inl ⟨h1,h2⟩
  have TM:=I h1;rw[List.length_append,List.length_singleton]at TM;have gQ:j=ids.length:=by omega
  subst gQ;rw[List.getElem?_append_right (Nat.le_refl _),Nat.sub_self]at h1;rw[List.getElem?_append_right (by omega),<-Vu,Nat.sub_self]at h2;simp only[List.getElem?_cons_zero,Option.some.injEq]at h1 h2;exact .inr ⟨rfl,h1.symm,h2.symm⟩
 have qi:∀(j id:Nat) (c:Block),ids[j]?=some id->done[j]?=some c->c.term.to≠[]->5<=id∧id<O.length∧O1[id]?=some (.cells (ib c.term.to)):=fun j id c h1 h2 h3=>by
  obtain⟨o1,o2⟩:=h.cp.own j id c h1 h2 h3;have hl:=I o2;refine⟨o1,hl,?_⟩;rw[ew id hl (fun _=>h.ne j id c h1 h2 h3)];exact o2
 have oM:∀(j id:Nat) (c:Block),(ids++[tid])[j]?=some id->(done++[b])[j]?=some c->c.term.to≠[]->5<=id∧id<O1.length∧O1[id]?=some (.cells (ib c.term.to)):=fun j id c h1 h2 h3=>by
  rcases OF j id c h1 h2 with⟨q1,q2⟩|⟨_,q2,q3⟩
  ·obtain⟨p1,p2,p3⟩:=qi j id c q1 q2 h3;exact⟨p1,by omega,p3⟩
  rw[q3]at h3 ⊢;rw[q2];obtain⟨t1,t2⟩:=ht h3;exact⟨by omega,I t2,t2⟩
 subst fS;subst R1;exact {
  up:=by
   intro o ho;rw[List.length_set,List.length_append,List.length_singleton];rcases List.mem_or_eq_of_mem_set ho with q|q
   ·rcases List.mem_append.1 q with q|q
    ·exact aj.cj (by omega) (bG o q)
    rw[List.mem_singleton]at q;subst q;exact yi fun j id c h1 h2 h3=>by
     have:=(oM j id c h1 h2 h3).2.1;omega
   subst q;exact⟨trivial,show _<_ by omega,trivial⟩
  r0:=by rw[nU 0 (I h.r0) (by omega) (fun q=>by have:=UO q;omega)];exact h.r0
  r1:=by rw[nU 1 (I h.r1) (by omega) (fun q=>by have:=UO q;omega)];exact h.r1
  r3:=by rw[nU 3 (I h.r3) (by omega) (fun q=>by have:=UO q;omega)];exact h.r3
  out:=by
   rw[List.getElem?_set_self (by rw[List.length_append];omega)];have:jG O1.length (done++[b])=.os O1.length (done.length+1) 7:=by
    unfold jG;rw[if_neg (by simp),List.length_append];rfl
   rw[this]
  blk:=fun _=>by
   refine⟨by omega,?_⟩;rw[List.getElem?_set_ne (by omega),List.getElem?_append_right (Nat.le_refl _),Nat.sub_self];rfl
  cp:={
   li:=by rw[List.length_append,List.length_append,Vu];rfl
   own:=fun j id c h1 h2 h3=>by
    obtain⟨p1,p2,p3⟩:=oM j id c h1 h2 h3;refine⟨p1,?_⟩;rw[List.getElem?_set_ne (by omega),List.getElem?_append_left p2];exact p3
   inj:=fun i j id c d h1 h2 h3 h4 h5 h6=>by
    rcases OF i id c h1 h3 with⟨p1,p2⟩|⟨p1,p2,p3⟩
    ·rcases OF j id d h2 h4 with⟨q1,q2⟩|⟨q1,q2,q3⟩
     ·exact h.cp.inj i j id c d p1 q1 p2 q2 h5 h6
     have:=(qi i id c p1 p2 h5).2.1;rw[q3]at h6;have:=(ht h6).1;omega
    rcases OF j id d h2 h4 with⟨q1,q2⟩|⟨q1,q2,q3⟩
    ·have:=(qi j id d q1 q2 h6).2.1;rw[p3]at h5;have:=(ht h5).1;omega
    omega }
  ne:=fun j id c h1 h2 h3=>by
   have:=(oM j id c h1 h2 h3).2.1;omega }
structure I4(O:List aj)(cs:List ae)(n:Nat)(O2:List aj):Prop where
 len:O2.length=O.length+2
 up:∀o∈O2,o.upto O2.length
 mi:∀k,k<O.length->O2[k]?=O[k]?
 cell:O2[O.length]?=some (.cells cs)
 sp:O2[O.length+1]?=some (.spare n)
theorem I4.start{O:List aj}(bG:∀o∈O,o.upto O.length){cs:List ae}(fS:aw (O.length+2) cs):I4 O cs 0 (O++[.cells cs,.spare 0]) where
 len:=by simp
 up:=fun o ho=>by
  rw[List.length_append];rcases List.mem_append.1 ho with q|q
  ·exact aj.cj (by omega) (bG o q)
  simp only[List.mem_cons,List.not_mem_nil,or_false]at q;rcases q with rfl|rfl
  ·exact fS
  trivial
 mi:=fun k hk=>by rw[List.getElem?_append_left hk]
 cell:=by
  rw[List.getElem?_append_right (Nat.le_refl _),Nat.sub_self];rfl
 sp:=by
  rw[List.getElem?_append_right (by omega),show O.length+1-O.length=1 by omega];rfl
theorem I4.one{O:List aj}{cs:List ae}{n:Nat}{O2:List aj}(h:I4 O cs n O2){cs':List ae}(fS:aw (O.length+2) cs'):I4 O cs' n (O2.set O.length (.cells cs')) where
 len:=by rw[List.length_set,h.len]
 up:=by
  rw[List.length_set];exact bz h.up (by rw[h.len];exact fS)
 mi:=fun k hk=>by rw[List.getElem?_set_ne (by omega),h.mi k hk]
 cell:=by rw[List.getElem?_set_self (by rw[h.len];omega)]
 sp:=by rw[List.getElem?_set_ne (by omega),h.sp]
theorem I4.room{O:List aj}{cs:List ae}{n:Nat}{O2:List aj}(h:I4 O cs n O2)(m:Nat):I4 O cs m (O2.set (O.length+1) (.spare m)) where
 len:=by rw[List.length_set,h.len]
 up:=by
  rw[List.length_set];exact bz h.up trivial
 mi:=fun k hk=>by rw[List.getElem?_set_ne (by omega),h.mi k hk]
 cell:=by rw[List.getElem?_set_ne (by omega),h.cell]
 sp:=by rw[List.getElem?_set_self (by rw[h.len];omega)]
structure Nw(O:List aj)(cs:ae->List ae)(tid:Nat)(es:List Edge)(O3:List aj):Prop where
 len:O.length+2<=O3.length
 up:∀o∈O3,o.upto O3.length
 mi:∀k,k<O.length->O3[k]?=O[k]?
 cell:O3[O.length]?=some (.cells (cs (CR tid es)))
 own:es≠[]->O.length+2<=tid∧O3[tid]?=some (.cells (ib es))
theorem Nw.start{O:List aj}{cs:ae->List ae}{n:Nat}{O2:List aj}(h:I4 O (cs (.aC 2 [] .ex)) n O2):Nw O cs 0 [] O2 where
 len:=by rw[h.len];omega
 up:=h.up
 mi:=h.mi
 cell:=h.cell
 own:=fun q=>absurd rfl q
theorem Nw.push{O:List aj}{cs:ae->List ae}{tid:Nat}{es:List Edge}{O3 O4:List aj}(h:Nw O cs tid es O3)(e:Edge)(fS:∀v n,v.upto n->O.length+2<=n->aw n (cs v))(hlen:O4.length=O3.length)(bG:∀o∈O4,o.upto O3.length)
  (ew:∀k,(es≠[]->k≠tid)->O4[k]?=O3[k]?) {c a:List ae} (hc:c=ib (es++[e])) (ha:a=cs (.os O3.length (es.length+1) 2)):Nw O cs O3.length (es++[e]) ((O4++[aj.cells c]).set O.length (.cells a)):=by
 have hl:=h.len;have hx:CR O3.length (es++[e])=.os O3.length (es.length+1) 2:=by
  unfold CR;rw[if_neg (by simp),List.length_append];rfl
 subst hc;subst ha;exact {
  len:=by rw[List.length_set,List.length_append,hlen];omega
  up:=by
   intro o ho;rw[List.length_set,List.length_append,List.length_singleton,hlen];rcases List.mem_or_eq_of_mem_set ho with q|q
   ·rcases List.mem_append.1 q with q|q
    ·exact aj.cj (by omega) (bG o q)
    rw[List.mem_singleton]at q;subst q;exact vL _ _
   subst q;exact fS _ _ (show O3.length<O3.length+1 by omega) (by omega)
  mi:=fun k hk=>by
   rw[List.getElem?_set_ne (by omega),List.getElem?_append_left (by omega),ew k (fun q=>by have:=(h.own q).1;omega),h.mi k hk]
  cell:=by
   rw[List.getElem?_set_self (by rw[List.length_append];omega),hx]
  own:=fun _=>by
   refine⟨by omega,?_⟩;rw[List.getElem?_set_ne (by omega),List.getElem?_append_right (by omega),hlen,Nat.sub_self];rfl }
def Xh(f:Func)(r:ae)(O:List aj):Prop:=∃(ids:List Nat) (eg:Nat),r=.agg [aI f.name,.os eg f.blocks.length 7]∧(∀o∈O,o.upto O.length)∧O[0]?=some .gone∧O[1]?=some (.cells [aI 0,.aC 7 [] .ex]) ∧
 (5<=eg∧O[eg]?=some (.cells (fN ids f.blocks)))∧Xg 5 ids f.blocks O∧∀(j id:Nat) (b:Block),ids[j]?=some id->f.blocks[j]?=some b->b.term.to≠[]->id≠eg
theorem Ea(f:Func):Ny f [] 0 [] [.gone,.cells [aI 0,.aC 7 [] .ex],.gone,.cells [aI 0,.aC 7 [] .ex],.cells [aI f.name,.aC 7 [] .ex]] where
 up:=fun o ho=>by
  simp only[List.mem_cons,List.not_mem_nil,or_false]at ho;rcases ho with rfl|rfl|rfl|rfl|rfl
  ·trivial
  ·exact⟨trivial,⟨trivial,trivial⟩,trivial⟩
  ·trivial
  ·exact⟨trivial,⟨trivial,trivial⟩,trivial⟩
  exact⟨trivial,⟨trivial,trivial⟩,trivial⟩
 r0:=rfl
 r1:=rfl
 r3:=rfl
 out:=rfl
 blk:=fun q=>absurd rfl q
 cp:=⟨rfl,fun j id b h=>by simp at h,fun i j id b c h=>by simp at h⟩
 ne:=fun j id b h=>by simp at h
theorem Ny.done{f:Func}{eg:Nat}{ids:List Nat}{O:List aj}(h:Ny f f.blocks eg ids O)(ct:f.blocks≠[]){cs:List ae}(fS:aw O.length cs):Xh f (.agg [aI f.name,.os eg f.blocks.length 7]) (O.set 3 (.cells cs)):=by
 obtain⟨b1,b2⟩:=h.blk ct;refine⟨ids,eg,rfl,?_,?_,?_,⟨b1,?_⟩,⟨h.cp.li,fun j id b q1 q2 q3=>?_,h.cp.inj⟩,h.ne⟩
 ·rw[List.length_set];exact bz h.up fS
 ·rw[List.getElem?_set_ne (by omega)];exact h.r0
 ·rw[List.getElem?_set_ne (by omega)];exact h.r1
 ·rw[List.getElem?_set_ne (by omega)];exact b2
 obtain⟨o1,o2⟩:=h.cp.own j id b q1 q2 q3;exact⟨o1,by rw[List.getElem?_set_ne (by omega)];exact o2⟩
def iO(f:Func):So:=⟨cW f,3,0,[.gone,.cells [.aC 1 [] .ex],.cells ((cW f).seen.map eB),.cells [aI 0,aI 0]]⟩
theorem nK(f:Func):SO (iO f) where
 up:=by
  intro o ho;simp only[iO,List.mem_cons,List.not_mem_nil,or_false]at ho;rcases ho with rfl|rfl|rfl|rfl
  ·trivial
  ·exact⟨⟨trivial,trivial⟩,trivial⟩
  ·exact fi _ _
  exact⟨trivial,trivial,trivial⟩
 out:=rfl
 outs:=fun h=>absurd rfl h
 seen:=rfl
 stk:=⟨[],rfl⟩
 sne:=by simp[iO]
theorem tS(f:Func)(hg:uC f) :
  bd Tryz.prog 75 [.gone,.cells [.aC 1 [] .ex]] [f.enc,.fn (.func 76) [] [.mp 1 0]] (fun r O'=>r=.cD []∧O'=(lB f 100000 (iO f)).O):=by
 have ZF:=hg.few;have hl:0<f.blocks.length:=by
  cases hb:f.blocks with
  | nil=>exact absurd hb hg.ne
  | cons=>simp
 obtain⟨N,hN⟩:∃N,N=f.blocks.length:=⟨_,rfl⟩
 obtain⟨F,hF⟩:∃F,F=lB f 100000 (iO f):=⟨_,rfl⟩
 rw[<-hF];have gl:[aj.gone,aj.cells [ae.aC 1 [] .ex]].length<=F.O.length:=by
  have key:∀(n:Nat) (X:So),SO X->SO (lB f n X):=fun n=>by
   induction n with
   | zero=>exact fun X h=>h
   | succ n ih =>
    intro X h;simp only[lB];split
    ·exact h
    exact ih _ h.step
  have:=I (key 100000 _ (nK f)).out;rw[<-hF]at this;simp only[List.length_cons,List.length_nil];omega
 refine dy hT true (F.O.length) Tryz.func75 rfl (by kernel_rfl) (by simp[Tryz.ntmps75]) (by assumption) ?_;show cc Tryz.prog _ _ _ ⟨81,_,_⟩;dsimp only[Tmp,TypeId,slotsOf];refine aA (ah ?_);refine aD 2 2 (.ip none [aI f.name,ay f.blocks]) rfl (by simp[aj.aF]) trivial rfl ?_ ?_;rotate_left;simp -dsimp only[simprocAttr,↓aa,zp]
 ·refine bt 2 [(1,.fn (.func 76) [] [.mp 1 0]),(2,.ip none [aI f.name,ay f.blocks])] (by simp) (by omega) [.gone,.cells [.aC 1 [] .ex]] ?_ ?_ ?_ ?_ ?_
  ·rfl
  ·simp[aj.upto,aw,ae.upto,az,Block.ag]
  ·simp[fj,St.get,bF,bh,Go.Av.look,Sub.refl]
  ·simp[aj.upto,aw,ae.upto,az,Block.ag]
  refine aS ?_;simp -dsimp only[simprocAttr,↓aa,zp,tA,<-hN];refine⟨by omega,by omega,?_⟩;refine ah ?_;refine aA ?_;have sU:bo ((List.replicate N false).map eB) 0 [.v (.bool true)]=(cW f).seen.map eB:=by
   rw[cG _ (by simp;omega)];simp only[cW,<-hN,List.map_set];rfl
  refine⟨by omega,by simp;omega,?_⟩;rw[sU];refine ah ?_;refine aJ (m6 ⟨false,false⟩ hT 1 rfl rfl rfl (by simp) ?_);simp -dsimp only[simprocAttr,↓aa,zp];refine Lj hT rfl rfl (by simp) rfl rfl rfl (by simp) rfl (by intro p hp;simp at hp;subst hp;trivial) rfl rfl (by intro x hx;simp at hx;subst hx;rfl) (by simp) (by simp) ?_;simp -dsimp only[simprocAttr,↓aa,zp];refine ah ?_;have VJ:=nM hg;refine ai (aO (ι:={X:So // SO X∧xo f X.S∧∃n,Nq X.S<n∧F=lB f n X}) (fun X=>⟨81,[(1,.fn (.func 76) [] [.mp 1 0]),(2,.ip none [aI f.name,ay f.blocks]),(4,.ms 2 0 N N),(5,.os X.1.sid X.1.S.st.length 2)],X.1.O⟩) (fun X=>Nq X.1.S) ⟨iO f,nK f,VJ.1,100000,VJ.2,hF⟩ ?_ ?_)
  ·refine zq rfl ?_ ?_;simp -dsimp only[simprocAttr,↓aa,zp,zc]
   all_goals first|rfl|exact Sub.refl _
  rintro⟨X,hX,hS,n,hn,hnF⟩;have TH:=hX.step (f:=f);obtain⟨⟨seen,st,out⟩,sid,oid,O⟩:=X;obtain⟨h1,h2,h3,h4,⟨pZ,h5⟩,h6⟩:=id hX;simp only at h1 h2 h3 h4 h5 h6 hn;cases st with
  | nil =>
   refine bX (ah ?_);refine cr rfl ?_;refine aM ?_;simp -dsimp only[bS,ne_eq,Nat.reduceEqDiff,reduceCtorEq];have hFO:F.O=O:=by
    rw[hnF];cases n with
    | zero=>rfl
    | succ n=>rfl
   skip
   simp -dsimp only[simprocAttr,↓aa,zp,zr,Tryz.results75];rw[hFO];exact⟨by simp,by rw[List.take_of_length_le (Nat.le_refl _)];exact h1,trivial,List.take_of_length_le (Nat.le_refl _)⟩
  | cons p r =>
   obtain⟨b,e⟩:=p;have bL:=pS hg hS (by simp);obtain⟨n,rfl⟩:∃n',n=n'+1:=⟨n-1,by omega⟩
   have HV:F=lB f n (kM f ⟨⟨seen,(b,e)::r,out⟩,sid,oid,O⟩):=hnF;have hSs:=De f ⟨⟨seen,(b,e)::r,out⟩,sid,oid,O⟩;have hp:=hS.blk (b,e) (by simp);simp only at hp;have aaq:r.length<=128:=by
    have a1:=hS.few;have a2:seen.countP id<=seen.length:=List.countP_le_length;have a3:=hS.len;simp only[List.length_cons]at a1 a3;omega
   have Ra:((r.length+1:Nat):Int)-1=(r.length:Nat):=by omega
   obtain⟨B,hB⟩:∃B,B=ax f b:=⟨_,rfl⟩
   have Zu:=ep hp.1 hp.2.1;rw[<-hB]at Zu;have rO:kX f b=B.term.to:=by rw[hB];rfl
   have Gs:(ml ((b,e)::r)++pZ)[r.length*2]?=some (aI b):=by
    rw[ml,List.append_assoc,List.getElem?_append_right (by rw[iH];omega),iH,Nat.sub_self];rfl
   have EG:(ml ((b,e)::r)++pZ)[r.length*2+1]?=some (aI e):=by
    rw[ml,List.append_assoc,List.getElem?_append_right (by rw[iH];omega),iH,show r.length*2+1-r.length*2=1 by omega];rfl
   obtain⟨cs,fS⟩:∃cs,cs=ml ((b,e)::r)++pZ:=⟨_,rfl⟩
   rw[<-fS]at Gs EG h5;refine bX (ah ?_);apply aP rfl<;>intro h
   ·refine cd ?_;refine ai ?_;refine aS ?_;simp -dsimp only[simprocAttr,↓aa,zp,Ra]
    repeat(refine⟨by omega,?_⟩)
    refine ah ?_;refine aS ?_;simp -dsimp only[simprocAttr,↓aa,zp,h5,Gs,Zu]
    repeat(refine⟨by omega,?_⟩)
    refine⟨ob (by kernel_rfl),?_⟩;refine ah ?_;by_cases he:e=(kX f b).length
    ·have jP:decide (e=(B.term.to.length:Int))=true:=decide_eq_true (by rw[he,rO]);have uN:fF f ⟨seen,(b,e)::r,out⟩=⟨seen,r,out++[b]⟩:=by simp only[fF];rw[if_pos he]
     have Rc:kM f ⟨⟨seen,(b,e)::r,out⟩,sid,oid,O⟩=⟨⟨seen,r,out++[b]⟩,sid,O.length,pN O oid out b⟩:=by simp only[kM];rw[if_pos he,uN]
     rw[Rc]at TH HV;simp only[uN]at bL;have Bj:bd Tryz.prog 76 O [aI b,.mp 1 0] (fun r' O'=>r'=.cD []∧O'=pN O oid out b):=by
      unfold pN;by_cases ho:out=[]
      ·rw[if_pos ho];exact H8 h1 (by rw[h2,ho];rfl) b
      rw[if_neg ho];obtain⟨k1,k2,k3⟩:=h3 ho;have a1:=hS.few;have a2:seen.countP id<=seen.length:=List.countP_le_length;have a3:=hS.len;simp only at a1 a3;exact Lc h1 (by rw[h2,LD,if_neg ho]) k1 (by omega) (by omega) b
     refine c9 ?_;simp -dsimp only[simprocAttr,↓aa,zp,h5,EG,jP];refine ah ?_;refine cH rfl ?_;refine aS ?_;simp -dsimp only[simprocAttr,↓aa,zp,h5,Gs];refine .inr (.inl ⟨_,_,Bj,.inl (ao (zj ?_))⟩);refine ah ?_;refine aS ?_;simp -dsimp only[simprocAttr,↓aa,zp,Ra]
     repeat(refine⟨by omega,?_⟩)
     refine ah ?_;refine aM ?_;simp -dsimp only[bS,ne_eq,Nat.reduceEqDiff,reduceCtorEq];refine⟨⟨_,TH,bL.1,n,?_,HV⟩,?_,?_⟩
     ·have:=bL.2;simp only at this hn ⊢;omega
     ·exact bL.2
     refine zq rfl ?_ ?_;simp -dsimp only[simprocAttr,↓aa,zp,zc]
     all_goals rfl
    have jP:decide (e=(B.term.to.length:Int))=false:=decide_eq_false (by rw[<-rO];exact he);obtain⟨x,hx,H0,mH,tF⟩:=hg.next ⟨hp.1,hp.2.1⟩ hp.2.2.1 (by omega)
    rw[rO]at hx;refine c9 ?_;simp -dsimp only[simprocAttr,↓aa,zp,h5,EG,jP];refine ah ?_;refine cr rfl ?_;refine cd ?_;refine aS ?_;simp -dsimp only[simprocAttr,↓aa,zp,h5,EG,hx]
    repeat(refine⟨by omega,?_⟩)
    refine ah ?_;obtain⟨j,hj⟩:∃j:Nat,dB f b e=(j:Int):=⟨(dB f b e).toNat,by omega⟩
    have Ym:j<seen.length:=by
     have a3:=hS.len;simp only at a3;omega
    rw[hj]at H0 mH tF;obtain⟨sv,Nh⟩:∃sv,seen[j]?=some sv:=⟨seen[j],List.getElem?_eq_getElem Ym⟩
    have V2:(seen.map eB)[j]?=some (.v (.bool sv)):=by rw[List.getElem?_map,Nh];rfl
    have gK:(r.length+1)*2<=cs.length:=by
     rw[fS,List.length_append,iH];simp
    obtain⟨QI,Ot⟩:∃QI,QI=cs.set (r.length*2+1) (aI (e+1)):=⟨_,rfl⟩
    have sU:bo cs (r.length*2+1) [.v (.int .i64 (e+1))]=QI:=by rw[cG _ (by omega),Ot]
    have aaf:(r.length+1)*2<=QI.length:=by rw[Ot,List.length_set];exact gK
    obtain⟨O1,dV⟩:∃O1,O1=O.set sid (.cells QI):=⟨_,rfl⟩
    have g5:O1[sid]?=some (.cells QI):=by rw[dV];exact ox h5
    have g4:O1[2]?=some (.cells (seen.map eB)):=by rw[dV];exact bx h4 (by omega)
    have UZ:rl O sid=cs:=by simp only[rl,h5]
    have aaa:(kX f b).length<=257:=hg.to _ (gx hp.1 hp.2.1);refine aS ?_;simp -dsimp only[simprocAttr,↓aa,zp,h5,EG]
    repeat(refine⟨by omega,?_⟩)
    refine ah ?_;rw[sU,<-dV];cases sv with
    | true =>
     have uN:fF f ⟨seen,(b,e)::r,out⟩=⟨seen,(b,e+1)::r,out⟩:=by simp only[fF];rw[if_neg he,hj,Int.toNat_natCast,Nh,if_pos (show(some true).getD false=true from rfl)]
     have Rc:kM f ⟨⟨seen,(b,e)::r,out⟩,sid,oid,O⟩=⟨⟨seen,(b,e+1)::r,out⟩,sid,oid,O1⟩:=by simp only[kM];rw[if_neg he,uN,UZ,hj,Int.toNat_natCast,Nh,if_pos (show(some true).getD false=true from rfl),<-Ot,dV]
     rw[Rc]at TH HV;simp only[uN]at bL;refine aS ?_;simp -dsimp only[simprocAttr,↓aa,zp,g4,H0,Int.toNat_natCast,V2,Nat.mul_one]
     repeat(refine⟨by omega,?_⟩)
     refine ah ?_;refine cr rfl ?_;refine zn1 ?_;refine⟨⟨_,TH,bL.1,n,?_,HV⟩,?_,?_⟩
     ·have:=bL.2;simp only at this hn ⊢;omega
     ·exact bL.2
     refine zq rfl ?_ ?_;simp -dsimp only[simprocAttr,↓aa,zp,zc]
     all_goals rfl
    | false =>
     have uN:fF f ⟨seen,(b,e)::r,out⟩=⟨seen.set j true,((j:Int),0)::(b,e+1)::r,out⟩:=by simp only[fF];rw[if_neg he,hj,Int.toNat_natCast,Nh,if_neg (by simp)]
     obtain⟨O2,uI⟩:∃O2,O2=O1.set 2 (.cells ((seen.set j true).map eB)):=⟨_,rfl⟩
     have k5:O2[sid]?=some (.cells QI):=by rw[uI];exact bx g5 (by omega)
     have Rc:kM f ⟨⟨seen,(b,e)::r,out⟩,sid,oid,O⟩=⟨⟨seen.set j true,((j:Int),0)::(b,e+1)::r,out⟩,O2.length,oid,O2.set sid .gone++[aj.cells (QI.take ((r.length+1)*2)++[aI j,aI 0])]⟩:=by
      simp only[kM];rw[if_neg he,uN,UZ,hj,Int.toNat_natCast,Nh,if_neg (by simp),<-Ot,<-dV,<-uI]
     rw[Rc]at TH HV;simp only[uN]at bL;have VZ:bo (seen.map eB) j [.v (.bool true)]=(seen.set j true).map eB:=by
      rw[cG _ (by simpa using Ym),List.map_set];rfl
     refine aS ?_;simp -dsimp only[simprocAttr,↓aa,zp,g4,H0,Int.toNat_natCast,V2,Nat.mul_one]
     repeat(refine⟨by omega,?_⟩)
     refine ah ?_;refine cH rfl ?_;refine aS ?_;simp -dsimp only[simprocAttr,↓aa,zp,g4,H0,Int.toNat_natCast,Nat.mul_one]
     repeat(refine⟨by omega,?_⟩)
     refine ah ?_;rw[VZ,<-uI];refine kC ?_;simp -dsimp only[simprocAttr,↓aa,zp,k5,H0]
     repeat(refine⟨by omega,?_⟩)
     refine Zf ?_;refine⟨⟨_,TH,bL.1,n,?_,HV⟩,?_,?_⟩
     ·have:=bL.2;simp only at this hn ⊢;omega
     ·exact bL.2
     refine zq rfl ?_ ?_;simp -dsimp only[simprocAttr,↓aa,zp,zc]
     all_goals rfl
   exact af h (by omega)
 exact bQ.mp rfl rfl
def Bm(l:List Int)(i:Nat)(m:List Int):Prop:=m.length=l.length∧∀k,k<l.length->m[k]?=if k<i∨l.length<=k+i then l[l.length-1-k]? else l[k]?
theorem FG(l:List Int):Bm l 0 l:=⟨rfl,fun k hk=>by rw[if_neg (by omega)]⟩
theorem FF{l m:List Int}{i:Nat}(h:Bm l i m)(hi:2*i+1<l.length){a b:Int}(ha:m[i]?=some a)(hb:m[l.length-1-i]?=some b):Bm l (i+1) ((m.set i b).set (l.length-1-i) a):=by
 obtain⟨h1,h2⟩:=h;refine⟨by simpa using h1,fun k hk=>?_⟩;have e1:=h2 i (by omega);have e2:=h2 (l.length-1-i) (by omega);rw[if_neg (by omega)]at e1 e2;rw[List.getElem?_set,List.getElem?_set];simp only[List.length_set];by_cases q1:l.length-1-i=k
 ·rw[if_pos q1,if_pos (by omega),if_pos (by omega),<-ha,e1];congr 1;omega
 rw[if_neg q1];by_cases q2:i=k
 ·rw[if_pos q2,if_pos (by omega),if_pos (by omega),<-hb,e2,q2]
 rw[if_neg q2,h2 k hk];by_cases q3:k<i∨l.length<=k+i
 ·rw[if_pos q3,if_pos (by omega)]
 rw[if_neg q3,if_neg (by omega)]
theorem FE{l m:List Int}{i:Nat}(h:Bm l i m)(hi:l.length<=2*i+1):m=l.reverse:=by
 obtain⟨h1,h2⟩:=h;apply List.ext_getElem?;intro k;by_cases hk:k<l.length
 ·rw[h2 k hk,List.getElem?_reverse hk];split
  ·rfl
  congr 1;omega
 rw[List.getElem?_eq_none (by omega),List.getElem?_eq_none (by simp;omega)]
theorem sa{O:List aj}(bG:∀o∈O,o.upto O.length){oid:Nat}{l:List Int}(ho:O[oid]?=some (.cells (l.map aI)))(KO:l.length<=1000) :
  bd Tryz.prog 77 O [.os oid l.length 1] (fun r O'=>r=.cD []∧O'=O.set oid (.cells (l.reverse.map aI))):=by
 have HW:=I ho;have ew:O.set oid (.cells (l.map aI))=O:=mO ho;have Yg:∀x,(O.set oid x)[oid]?=some x:=fun x=>List.getElem?_set_self HW;have eH:∀m:List Int,(O.set oid (.cells (m.map aI))).take O.length=O.set oid (.cells (m.map aI)):=fun m=>cA;have fJ:∀m:List Int,∀o∈O.set oid (.cells (m.map aI)),o.upto O.length:=fun m=>bz bG (az _ _);refine zf true O.length Tryz.func77 Tryz.ntmps77 ?_;dsimp only[Tmp,TypeId,slotsOf];refine aA ?_
 repeat(refine⟨by omega,?_⟩)
 refine ah ?_;refine ai (aO (ι:={x:Nat×List Int // x.1<=l.length∧Bm l x.1 x.2}) (fun x=>⟨28,[(0,.os oid l.length 1),(2,aI x.1.1),(3,aI ((l.length:Int)-1-x.1.1))],O.set oid (.cells (x.1.2.map aI))⟩) (fun x=>l.length-x.1.1) ⟨(0,l),by simp,FG l⟩ ?_ ?_)
 ·refine zq rfl ?_ ?_;simp -dsimp only[simprocAttr,↓aa,zp,zc];exact ew.symm
 rintro⟨⟨i,m⟩,hi,hr⟩;simp only at hi hr;have Na:=hr.1;refine bX (ah ?_);apply aP rfl<;>intro h
 ·refine cd ?_;have bg:2*i+1<l.length:=by
   have:=of_decide_eq_true h;omega
  obtain⟨j,hj⟩:∃j,j=l.length-1-i:=⟨_,rfl⟩
  have WX:(l.length:Int)-1-i=(j:Nat):=by omega
  obtain⟨a,ha⟩:∃a,m[i]?=some a:=⟨m[i]'(by omega),List.getElem?_eq_getElem _⟩
  obtain⟨b,hb⟩:∃b,m[j]?=some b:=⟨m[j]'(by omega),List.getElem?_eq_getElem _⟩
  have Q4:=FF hr bg ha (by rw[<-hj];exact hb);rw[<-hj]at Q4;have hma:(m.map aI)[i]?=some (aI a):=by rw[List.getElem?_map,ha];rfl
  have hmb:(m.map aI)[j]?=some (aI b):=by rw[List.getElem?_map,hb];rfl
  have wg:bo (m.map aI) i [.v (.int .i64 b)]=(m.set i b).map aI:=by
   rw[cG _ (by simp;omega),List.map_set]
  have hs2:bo ((m.set i b).map aI) j [.v (.int .i64 a)]=((m.set i b).set j a).map aI:=by
   rw[cG _ (by simp;omega)];simp only[List.map_set]
  refine aJ (ai ?_);refine kC ?_;simp -dsimp only[simprocAttr,↓aa,zp,Yg,WX,hma,hmb,Int.toNat_natCast,Nat.mul_one,wg,hs2,List.set_set,List.length_set];refine⟨by omega,by omega,by omega,by omega,by omega,by omega,?_⟩;refine⟨cg [oid] O.length [.pure,.pure,.pure,.pure,.pure,.pure,.pure,.rd 0,.pure,.pure,.pure,.rd 0,.pure,.wr 1 [0],.pure,.wr 1 [0]] (by simp) (by simp;omega) rfl rfl (by kernel_rfl),ba ?_⟩;simp -dsimp only[bS,ne_eq,Nat.reduceEqDiff,reduceCtorEq];refine cT ?_
  repeat(refine⟨by omega,?_⟩)
  refine fK ?_;refine⟨⟨(i+1,_),by simp only;omega,Q4⟩,by simp;omega,?_⟩;refine zq rfl ?_ ?_;simp -dsimp only[simprocAttr,↓aa,zp,zc]
  ·exact⟨Sub.int (by simp),Sub.int (by omega)⟩
  rfl
 refine aM ?_;simp -dsimp only[bS,ne_eq,Nat.reduceEqDiff,reduceCtorEq];have qj:l.length<=2*i+1:=by
  have:=of_decide_eq_false h;omega
 rw[FE hr qj]
 skip
 simp -dsimp only[simprocAttr,↓aa,zp,zr,Tryz.results77,eH,List.length_set];exact⟨fJ _,trivial⟩
def bH(f:Func):List Int:=(iN f).reverse
def AA(f:Func):ae:=if aZ f=0 then .cD [aK (bH f),aI 0]else .cD [aK [],aI (aZ f)]
theorem L8{f:Func}:∀(n:Nat) (S:Sr),(S.st=[]->S.out≠[])->(jx f n S).st=[]->(jx f n S).out≠[]
 | 0,S,h,he=>h he
 | n+1,S,h,he=>by
  simp only[jx]at he ⊢;cases fq:S.st with
  | nil =>
   rw[fq]at he;simp only[List.isEmpty_nil,if_true]at he ⊢;exact h fq
  | cons p r =>
   rw[fq]at he;simp only[List.isEmpty_cons,Bool.false_eq_true,if_false]at he ⊢;refine L8 n _ (fun q=>?_) he;obtain⟨b,e⟩:=p;simp only[fF,fq]at q ⊢;split
   ·simp
   rename_i ct;rw[if_neg ct]at q;split at q<;>simp at q
theorem w5{f:Func}:∀(n:Nat) (X:So),SO X->SO (lB f n X)
 | 0,X,h=>h
 | n+1,X,h=>by
  simp only[lB];split
  ·exact h
  exact w5 n _ h.step
theorem lZ{f:Func}(hg:uC f):iN f≠[]∧(iN f).length<=128∧∀b∈iN f,0<=b∧b<f.blocks.length:=by
 have h0:=nM hg;have h1:=si hg 100000 _ h0.1 h0.2;have h2:=L8 100000 (cW f) (fun q=>by simp[cW]at q) h1.2;have a1:=h1.1.few;have a2:(jx f 100000 (cW f)).seen.countP id<=(jx f 100000 (cW f)).seen.length:=List.countP_le_length;have a3:=h1.1.len;have a4:=hg.few;exact⟨h2,by unfold iN;omega,h1.1.outs⟩
theorem ov(l:List Int):(l.map aI).map ae.bk=au (l.map aI):=by
 induction l with
 | nil=>rfl
 | cons a r ih =>
  simp only[List.map_cons,au,List.flatMap_cons]at ih ⊢;rw[ih];rfl
theorem wE(f:Func)(a8:f.fit):bD Tryz.prog 52 [f.enc] (AA f):=by
 have oI:=jk f a8;unfold AA;by_cases hc:aZ f=0
 ·rw[if_pos hc];rw[hc]at oI;have hg:=(c6 a8 hc).gr;have uN:=tS f hg;obtain⟨f1,f2,_⟩:=lZ hg;have UK:(lB f 100000 (iO f)).S=jx f 100000 (cW f):=AY f 100000 (iO f);have hX:=w5 (f:=f) 100000 _ (nK f);obtain⟨X,XN⟩:∃X,X=lB f 100000 (iO f):=⟨_,rfl⟩
  rw[<-XN]at uN hX UK;have iU:X.S.out=iN f:=by rw[UK];rfl
  unfold bH;obtain⟨l,hl⟩:∃l,l=iN f:=⟨_,rfl⟩
  rw[<-hl]at f1 f2 iU ⊢;have h1:=hX.out;rw[iU,LD,if_neg f1]at h1;obtain⟨h2,h3,h4⟩:=hX.outs (by rw[iU];exact f1);rw[iU]at h2;have bG:=hX.up;obtain⟨S,sid,oid,O⟩:=X;simp only at h1 h2 h3 h4 bG uN;have SG:=sa bG h2 (by omega);have HG:(O.set oid (.cells (l.reverse.map aI)))[1]?=some (.cells [.os oid l.length 1]):=bx h1 (by omega);have Kr:(O.set oid (.cells (l.reverse.map aI)))[oid]?=some (.cells (l.reverse.map aI)):=ox h2;refine zf true 0 Tryz.func52 Tryz.ntmps52 ?_;dsimp only[Tmp,TypeId,slotsOf];refine aA (ah ?_);refine aD 1 0 (.ip none [aI f.name,ay f.blocks]) rfl (by simp[aj.aF]) trivial rfl ?_ ?_;rotate_left;simp -dsimp only[simprocAttr,↓aa,zp]
  ·refine bX ?_;refine zi oI ?_;refine ah ?_;refine aA (ah ?_);refine cr rfl ?_;refine cd ?_;refine aA (ah ?_);refine aA ?_;refine .inr (.inl ⟨_,_,uN,.inl (ao (zj ?_))⟩);refine ah ?_;refine aS ?_;simp -dsimp only[simprocAttr,↓aa,zp,h1];refine .inr (.inl ⟨_,_,SG,.inl (ao (zj ?_))⟩);refine ah ?_;refine aS ?_;simp -dsimp only[simprocAttr,↓aa,zp,HG];refine ah ?_;refine aD 2 oid (o:=.cells (l.reverse.map aI)) (aK l.reverse) Kr (by simp[aj.aF]) trivial rfl (bQ.os (cs:=l.reverse.map aI) Kr ?_ ?_ ?_) ?_
   ·intro x hx;obtain⟨c,_,rfl⟩:=List.mem_map.1 hx;rfl
   ·simp
   ·rw[List.drop_zero,List.take_of_length_le (by simp)];exact ov _
   simp -dsimp only[simprocAttr,↓aa,zp];refine aq ?_;simp -dsimp only[simprocAttr,↓aa,zp,zr,Tryz.results52];exact⟨⟨az _ _,trivial⟩,trivial,trivial⟩
  exact bQ.mp rfl rfl
 rw[if_neg hc];obtain⟨e,he⟩:∃e,e=aZ f:=⟨_,rfl⟩
 rw[<-he]at hc oI ⊢;have jP:decide (e=0)=false:=decide_eq_false hc;refine zf true 0 Tryz.func52 Tryz.ntmps52 ?_;dsimp only[Tmp,TypeId,slotsOf];refine aA (ah ?_);refine aD 1 0 (.ip none [aI f.name,ay f.blocks]) rfl (by simp[aj.aF]) trivial rfl ?_ ?_;rotate_left;simp -dsimp only[simprocAttr,↓aa,zp]
 ·refine bX ?_;refine zi oI ?_;refine ah ?_;refine aS ?_;simp -dsimp only[simprocAttr,↓aa,zp,jP];refine ah ?_;refine cH rfl ?_;refine aA (ah ?_);refine aq ?_;simp -dsimp only[simprocAttr,↓aa,zp,zr,Tryz.results52];simp[aw,ae.upto]
 exact bQ.mp rfl rfl
def R2(l:List Int)(n:Int):Bool:=l.any fun x=>decide (x=n)
theorem B5{l:List Int}{n:Int}:R2 l n=true↔n∈l:=by
 simp[R2]
def Jm(f:Func)(a b:Int):Prop:=∃x∈kX f a,x.block=b
def QE(f:Func):List (Int×Int)->Prop
 | []=>True
 | [p]=>p.1=0
 | p::q::r=>Jm f q.1 p.1∧p.1≠0∧QE f (q::r)
theorem QE.tail{f:Func}{p:Int×Int}{r:List (Int×Int)}(h:QE f (p::r)):QE f r:=by
 cases r with
 | nil=>trivial
 | cons q r=>exact h.2.2
theorem QE.head{f:Func}{b e e':Int}{r:List (Int×Int)}(h:QE f ((b,e)::r)):QE f ((b,e')::r):=by
 cases r with
 | nil=>exact h
 | cons q r=>exact h
structure Jn(f:Func)(S:Sr):Prop where
 st:QE f S.st
 out:∀i v,S.out[i]?=some v->(v≠0∧∃a,Jm f a v∧((∃j,i<j∧S.out[j]?=some a)∨∃e,(a,e)∈S.st))∨(v=0∧S.st=[]∧i+1=S.out.length)
theorem Jn.step{f:Func}(hg:uC f){S:Sr}(hS:xo f S)(h:Jn f S):Jn f (fF f S):=by
 obtain⟨seen,st,out⟩:=S;obtain⟨h1,h2⟩:=h;simp only at h1 h2;cases st with
 | nil=>exact⟨h1,h2⟩
 | cons p r =>
  obtain⟨b,e⟩:=p;have hp:=hS.blk (b,e) (by simp);simp only at hp;have hold:∀i v,out[i]?=some v->v≠0∧∃a,Jm f a v∧((∃j,i<j∧out[j]?=some a)∨∃e',(a,e')∈(b,e)::r):=fun i v hi=>by
   rcases h2 i v hi with q|⟨_,q,_⟩
   ·exact q
   cases q
  simp only[fF];split
  ·refine⟨h1.tail,fun i v hi=>?_⟩;simp only at hi ⊢;by_cases bg:i<out.length
   ·rw[List.getElem?_append_left bg]at hi;obtain⟨q0,a,q1,q2⟩:=hold i v hi;refine .inl ⟨q0,a,q1,?_⟩;rcases q2 with⟨j,q2,q3⟩|⟨e',q2⟩
    ·exact .inl ⟨j,q2,by rw[List.getElem?_append_left (I q3)];exact q3⟩
    rcases List.mem_cons.1 q2 with q|q
    ·simp only[Prod.mk.injEq]at q;exact .inl ⟨out.length,bg,by rw[q.1];simp⟩
    exact .inr ⟨e',q⟩
   have ga:=I hi;simp only[List.length_append,List.length_cons,List.length_nil]at ga;have:i=out.length:=by omega
   subst this;simp at hi;subst hi;cases r with
   | nil=>exact .inr ⟨h1,rfl,by simp⟩
   | cons q r=>exact .inl ⟨h1.2.1,q.1,h1.1,.inr ⟨q.2,by simp⟩⟩
  rename_i he;obtain⟨x,hx,H0,mH,tF⟩:=hg.next ⟨hp.1,hp.2.1⟩ hp.2.2.1 (by omega)
  split
  ·refine⟨h1.head,fun i v hi=>.inl ?_⟩;obtain⟨q0,a,q1,q2⟩:=hold i v hi;refine⟨q0,a,q1,?_⟩;rcases q2 with q2|⟨e',q2⟩
   ·exact .inl q2
   rcases List.mem_cons.1 q2 with q|q
   ·simp only[Prod.mk.injEq]at q;exact .inr ⟨e+1,by simp[q.1]⟩
   exact .inr ⟨e',by simp[q]⟩
  refine⟨⟨⟨x,List.mem_of_getElem? hx,H0⟩,by simp only;omega,h1.head⟩,fun i v hi=>.inl ?_⟩;obtain⟨q0,a,q1,q2⟩:=hold i v hi;refine⟨q0,a,q1,?_⟩;rcases q2 with q2|⟨e',q2⟩
  ·exact .inl q2
  rcases List.mem_cons.1 q2 with q|q
  ·simp only[Prod.mk.injEq]at q;exact .inr ⟨e+1,by simp[q.1]⟩
  exact .inr ⟨e',by simp[q]⟩
theorem Jn.run{f:Func}(hg:uC f):∀(n:Nat) (S:Sr),xo f S->Jn f S->Jn f (jx f n S)
 | 0,S,_,h=>h
 | n+1,S,hS,h=>by
  simp only[jx];cases fq:S.st with
  | nil=>simpa[fq]using h
  | cons p r =>
   simp only[List.isEmpty_cons,Bool.false_eq_true,if_false];exact Jn.run hg n _ (pS hg hS (by rw[fq];simp)).1 (h.step hg hS)
theorem Jn.start(f:Func):Jn f (cW f):=⟨rfl,fun i v h=>by simp[cW]at h⟩
theorem s7{f:Func}(hg:uC f){n:Nat}{v:Int}(h:(bH f)[n]?=some v):(n=0∧v=0)∨∃a,Jm f a v∧a∈(bH f).take n:=by
 have h0:=nM hg;have h1:=si hg 100000 _ h0.1 h0.2;have hJ:=Jn.run hg 100000 _ h0.1 (Jn.start f);have hn:=I h;unfold bH iN at *;generalize jx f 100000 (cW f)=S at *;have hl:n<S.out.length:=by simpa using hn
 rw[List.getElem?_reverse hl]at h;rcases hJ.out _ _ h with⟨_,a,q1,q2⟩|⟨q1,_,q3⟩
 ·rcases q2 with⟨j,q3,q4⟩|⟨e,q3⟩
  ·refine .inr ⟨a,q1,?_⟩;have hj:=I q4;have:(S.out.reverse)[S.out.length-1-j]?=some a:=by
    rw[List.getElem?_reverse (by omega),<-q4];congr 1;omega
   exact List.mem_of_getElem? (i:=S.out.length-1-j) (by rw[List.getElem?_take,if_pos (by omega)];exact this)
  rw[h1.2]at q3;cases q3
 exact .inl ⟨by omega,q1⟩
theorem Fw{k:Nat}{ls:List (List Int)}{e:Edge}{j:Nat}{a:Int}(h:a∈ls[j]?.getD []):a∈(lv k ls e)[j]?.getD []:=by
 unfold lv;by_cases q:e.block.toNat=j
 ·subst q;by_cases hl:e.block.toNat<ls.length
  ·rw[List.getElem?_set_self hl];simp[h]
  rw[List.getElem?_eq_none (by omega)]at h;simp at h
 rw[List.getElem?_set_ne q];exact h
theorem qR{k:Nat}{j:Nat}{a:Int}:∀{es:List Edge} {ls:List (List Int)},a∈ls[j]?.getD []->a∈(lY k ls es)[j]?.getD []
 | [],_,h=>h
 | e::r,ls,h=>qR (es:=r) (Fw h)
theorem wL{j:Nat}{a:Int}:∀{bs:List Block} {k:Nat} {ls:List (List Int)},a∈ls[j]?.getD []->a∈(mM k ls bs)[j]?.getD []
 | [],_,_,h=>h
 | b::r,k,ls,h=>wL (bs:=r) (qR h)
theorem y7{k:Nat}:∀{es:List Edge} {ls:List (List Int)} {x:Edge},x∈es->x.block.toNat<ls.length->(k:Int)∈(lY k ls es)[x.block.toNat]?.getD []
 | [],_,_,h,_=>by cases h
 | e::r,ls,x,h,hl=>by
  show(k:Int)∈(lY k (lv k ls e) r)[x.block.toNat]?.getD [];rcases List.mem_cons.1 h with q|q
  ·subst q;apply qR;unfold lv;rw[List.getElem?_set_self hl];simp
  exact y7 q (by rw[y8];exact hl)
theorem zb:∀{bs:List Block} {k i:Nat} {ls:List (List Int)} {b:Block} {x:Edge},bs[i]?=some b->x∈b.term.to->x.block.toNat<ls.length->((k+i:Nat):Int)∈(mM k ls bs)[x.block.toNat]?.getD []
 | [],_,_,_,_,_,h,_,_=>by simp at h
 | c::r,k,i,ls,b,x,h,hx,hl=>by
  cases i with
  | zero =>
   simp only[List.getElem?_cons_zero,Option.some.injEq]at h;subst h;exact wL (bs:=r) (y7 hx hl)
  | succ i =>
   have:=zb (bs:=r) (k:=k+1) (i:=i) (ls:=lY k ls c.term.to) (by simpa using h) hx (by rw[ta];exact hl);rw[show k+(i+1)=k+1+i by omega];exact this
theorem yt{f:Func}{a v:Int}(ha:0<=a∧a<f.blocks.length)(hv:0<=v∧v<f.blocks.length)(h:Jm f a v):a∈(cI f)[v.toNat]?.getD []:=by
 obtain⟨x,hx,hxv⟩:=h;have hb:=ep ha.1 ha.2;have:=zb (bs:=f.blocks) (k:=0) (ls:=List.replicate f.blocks.length []) hb hx (by rw[hxv,List.length_replicate];omega);rw[hxv,Nat.zero_add,Int.toNat_of_nonneg ha.1]at this;exact this
theorem CP{f:Func}(hg:uC f){n:Nat}{v:Int}(h:(bH f)[n]?=some v):((decide ((n:Int)=0)&&decide (v=0)) ||((cI f)[v.toNat]?.getD []).any (R2 ((bH f).take n)))=true:=by
 have hb:=(lZ hg).2.2;have fX:∀x∈bH f,0<=x∧x<f.blocks.length:=fun x hx=>hb x (by simpa[bH]using hx);rcases s7 hg h with⟨q1,q2⟩|⟨a,q1,q2⟩
 ·simp[q1,q2]
 have ha:=fX a (List.mem_of_mem_take q2);have hv:=fX v (List.mem_of_getElem? h);simp only[Bool.or_eq_true,List.any_eq_true];exact .inr ⟨a,yt ha hv q1,B5.2 q2⟩
structure Nd(f:Func)(S:Sr):Prop where
 nd:(S.out++S.st.map (·.1)).Nodup
 seen:∀v,v∈S.out++S.st.map (·.1)↔(0<=v∧S.seen[v.toNat]?.getD false=true)
 outs:∀v∈S.out,∀x∈kX f v,S.seen[x.block.toNat]?.getD false=true
 st:∀p∈S.st,∀(j:Nat) x,(j:Int)<p.2->(kX f p.1)[j]?=some x->S.seen[x.block.toNat]?.getD false=true
theorem mf{l:List Bool}{k j:Nat}(h:l[j]?.getD false=true):(l.set k true)[j]?.getD false=true:=by
 have hj:j<l.length:=by
  refine Classical.byContradiction fun q=>?_;rw[List.getElem?_eq_none (by omega)]at h;cases h
 by_cases e:k=j
 ·subst e;rw[List.getElem?_set_self hj];rfl
 rw[List.getElem?_set_ne e];exact h
theorem Nd.step{f:Func}(hg:uC f){S:Sr}(hS:xo f S)(h:Nd f S):Nd f (fF f S):=by
 obtain⟨seen,st,out⟩:=S;obtain⟨h1,h2,h3,h4⟩:=h;simp only at h1 h2 h3 h4;cases st with
 | nil=>exact⟨h1,h2,h3,h4⟩
 | cons p r =>
  obtain⟨b,e⟩:=p;have hp:=hS.blk (b,e) (by simp);simp only at hp;have hlen:=hS.len;simp only at hlen;simp only[fF];split
  ·rename_i he;refine⟨?_,fun v=>?_,fun v hv x hx=>?_,fun q hq=>h4 q (by simp[hq])⟩
   ·simp only[List.append_assoc,List.cons_append,List.nil_append];simpa using h1
   ·rw[<-h2 v];simp only[List.append_assoc,List.cons_append,List.nil_append,List.map_cons]
   simp only at hv ⊢;rcases List.mem_append.1 hv with q|q
   ·exact h3 v q x hx
   rw[List.mem_singleton.1 q]at hx;obtain⟨j,hj⟩:=List.getElem?_of_mem hx;have:=I hj;exact h4 (b,e) (by simp) j x (by simp only;omega) hj
  rename_i he;obtain⟨x,hx,H0,mH,tF⟩:=hg.next ⟨hp.1,hp.2.1⟩ hp.2.2.1 (by omega)
  split
  ·rename_i hs;refine⟨by simpa using h1,fun v=>by simpa using h2 v,h3,fun q hq j y hj hy=>?_⟩;simp only at hq ⊢;rcases List.mem_cons.1 hq with q'|q'
   ·subst q';simp only at hj hy;by_cases gQ:(j:Int)<e
    ·exact h4 (b,e) (by simp) j y gQ hy
    have:j=e.toNat:=by omega
    subst this;rw[hx]at hy;simp only[Option.some.injEq]at hy;subst hy;rw[H0];exact hs
   exact h4 q (by simp[q']) j y hj hy
  rename_i hs;have KU:dB f b e ∉ out++(b::r.map (·.1)):=fun hm=>by
   have:=(h2 (dB f b e)).1 (by simpa using hm);exact hs this.2
  have hk:(dB f b e).toNat<seen.length:=by omega
  refine⟨?_,fun v=>?_,fun v hv y hy=>mf (h3 v hv y hy),fun q hq j y hj hy=>?_⟩
  ·simp only[List.map_cons]at h1 ⊢;rw[List.nodup_append]at h1 ⊢;simp only[List.mem_append,not_or]at KU;refine⟨h1.1,List.nodup_cons.2 ⟨KU.2,h1.2.1⟩,fun a ha c hc=>?_⟩;rcases List.mem_cons.1 hc with q|q
   ·subst q;exact fun e=>KU.1 (e ▸ ha)
   exact h1.2.2 a ha c q
  ·simp only[List.map_cons];have Kr:=h2 v;simp only[List.map_cons]at Kr;by_cases e1:v=dB f b e
   ·subst e1;rw[List.getElem?_set_self hk];simp;omega
   have:v∈out++dB f b e::b::r.map (·.1)↔v∈out++(b::r.map (·.1)):=by
    simp only[List.mem_append,List.mem_cons,e1,false_or]
   rw[this,Kr];by_cases h0:0<=v
   ·rw[List.getElem?_set_ne (by omega)]
   simp[h0]
  simp only at hq ⊢;rcases List.mem_cons.1 hq with q'|q'
  ·subst q';simp only at hj;omega
  rcases List.mem_cons.1 q' with q'|q'
  ·subst q';simp only at hj hy;by_cases gQ:(j:Int)<e
   ·exact mf (h4 (b,e) (by simp) j y gQ hy)
   have:j=e.toNat:=by omega
   subst this;rw[hx]at hy;simp only[Option.some.injEq]at hy;subst hy;rw[H0,List.getElem?_set_self hk];rfl
  exact mf (h4 q (by simp[q']) j y hj hy)
theorem Nd.run{f:Func}(hg:uC f):∀(n:Nat) (S:Sr),xo f S->Nd f S->Nd f (jx f n S)
 | 0,S,_,h=>h
 | n+1,S,hS,h=>by
  simp only[jx];cases fq:S.st with
  | nil=>simpa[fq]using h
  | cons p r =>
   simp only[List.isEmpty_cons,Bool.false_eq_true,if_false];exact Nd.run hg n _ (pS hg hS (by rw[fq];simp)).1 (h.step hg hS)
theorem Nd.start{f:Func}(hg:uC f):Nd f (cW f):=by
 have hl:=List.length_pos_iff.2 hg.ne;refine⟨by simp[cW],fun v=>?_,fun v hv=>by simp[cW]at hv,fun p hp j x hj=>?_⟩
 ·simp only[cW,List.nil_append,List.map_cons,List.map_nil,List.mem_singleton];constructor
  ·intro e;subst e;refine⟨by omega,?_⟩;rw[Int.toNat_zero,List.getElem?_set_self (by simpa using hl)];rfl
  rintro⟨h0,h⟩;refine Classical.byContradiction fun q=>?_;rw[List.getElem?_set_ne (by omega),List.getElem?_replicate]at h;split at h<;>simp at h
 simp only[cW,List.mem_singleton]at hp;subst hp;simp only at hj;omega
theorem fT{l:List Int}{n:Int}:(0<=kH l n↔n∈l)∧(0<=kH l n->l[(kH l n).toNat]?=some n):=by
 unfold kH;have hm:l.findIdx (· == n)<l.length↔n∈l:=by
  rw[List.findIdx_lt_length];simp
 by_cases h:l.findIdx (· == n)<l.length
 ·rw[if_pos h];refine⟨⟨fun _=>hm.1 h,fun _=>by omega⟩,fun _=>?_⟩;have:=List.findIdx_getElem (w:=h);simp only[beq_iff_eq]at this;rw[Int.toNat_natCast,List.getElem?_eq_getElem h,this]
 rw[if_neg h];exact⟨⟨fun q=>absurd q (by omega),fun q=>absurd (hm.2 q) h⟩,fun q=>absurd q (by omega)⟩
def gX(f:Func)(k:Int):Int:=kH (bH f) k
structure mY(f:Func):Prop where
 inj:∀a b,0<=gX f a->gX f a=gX f b->a=b
 zero:gX f 0=0
 at_:∀(i:Nat) v,(bH f)[i]?=some v->gX f v=i
 get:∀v,0<=gX f v->(bH f)[(gX f v).toNat]?=some v
 low:∀v,-1<=gX f v∧gX f v<(bH f).length
 fwd:∀v,1<=gX f v->∃a,Jm f a v∧0<=gX f a∧gX f a<gX f v
 next:∀a b,0<=gX f a->Jm f a b->0<=gX f b
 range:∀v,0<=gX f v->0<=v∧v<f.blocks.length
 few:(bH f).length<=128
 pos:0<(bH f).length
theorem jF{f:Func}(hg:uC f):mY f:=by
 obtain⟨g1,g2,g3⟩:=lZ hg;have h0:=nM hg;have h1:=si hg 100000 _ h0.1 h0.2;have hN:=Nd.run hg 100000 _ h0.1 (Nd.start hg);have uM:(bH f).Nodup:=by
  have:=hN.nd;rw[h1.2]at this;simp only[List.map_nil,List.append_nil]at this;unfold bH List.Nodup;rw[List.pairwise_reverse];exact List.Pairwise.imp (fun h=>Ne.symm h) this
 have fX:∀v,v∈bH f↔v∈iN f:=fun v=>by simp[bH]
 have ct:0<(bH f).length:=by
  have:bH f≠[]:=by simpa[bH]using g1
  exact List.length_pos_iff.2 this
 have fm:∀v,0<=gX f v->(bH f)[(gX f v).toNat]?=some v:=fun v hv=>fT.2 hv;have B6:∀(i:Nat) v,(bH f)[i]?=some v->gX f v=i:=fun i v hi=>by
  have hm:v∈bH f:=List.mem_of_getElem? hi;have h2:=fm v (fT.1.2 hm);have h3:0<=gX f v:=fT.1.2 hm;have:=(List.getElem?_inj (I h2) uM).1 (h2.trans hi.symm);omega
 have Ag:∀v,-1<=gX f v∧gX f v<(bH f).length:=fun v=>by
  unfold gX kH;split
  ·omega
  omega
 refine⟨fun a b ha e=>?_,?_,B6,fm,Ag,fun v hv=>?_,fun a b ha e=>?_,fun v hv=>?_,by simpa[bH]using g2,ct⟩
 ·have h2:=fm a ha;have h3:=fm b (by omega);rw[e,h3]at h2;simpa using h2.symm
 ·have:(bH f)[0]?=some (bH f)[0]:=List.getElem?_eq_getElem ct;rcases s7 hg this with⟨_,q⟩|⟨a,_,q⟩
  ·have:=B6 0 _ this;rw[q]at this;simpa using this
  simp at q
 ·have h2:=fm v (by omega);rcases s7 hg h2 with⟨q,_⟩|⟨a,q1,q2⟩
  ·omega
  obtain⟨j,hj⟩:=List.getElem?_of_mem q2;rw[List.getElem?_take]at hj;split at hj
  ·have:=B6 j a hj;exact⟨a,q1,by omega,by omega⟩
  cases hj
 ·have hm:a∈iN f:=(fX a).1 (fT.1.1 ha);obtain⟨x,hx,H0⟩:=e;have:=hN.outs a hm x hx;rw[H0]at this;have hb:0<=b:=by
   have hra:=g3 a hm;have:=hg.fZ _ (gx hra.1 hra.2) x hx;omega
  have h3:=(hN.seen b).2 ⟨hb,this⟩;rw[h1.2]at h3;simp only[List.map_nil,List.append_nil]at h3;exact fT.1.2 ((fX b).2 h3)
 exact g3 v ((fX v).1 (fT.1.1 hv))
def DP(l:List Int)(k:Int):Int:=l[k.toNat]?.getD (-1)
def AI(f:Func)(k:Int):List Int:=(cI f)[k.toNat]?.getD []
theorem It{k:Nat}{ls:List (List Int)}{e:Edge}{j:Nat}{a:Int}(h:a∈(lv k ls e)[j]?.getD []):a∈ls[j]?.getD []∨(a=k∧j=e.block.toNat):=by
 unfold lv at h;by_cases q:e.block.toNat=j
 ·subst q;by_cases hl:e.block.toNat<ls.length
  ·rw[List.getElem?_set_self hl]at h;simp only[Option.getD_some,List.mem_append,List.mem_singleton]at h;rcases h with h|h
   ·exact .inl h
   exact .inr ⟨h,rfl⟩
  rw[List.getElem?_eq_none (by simp;omega)]at h;simp at h
 rw[List.getElem?_set_ne q]at h;exact .inl h
theorem y6{k:Nat}{j:Nat}{a:Int}:∀{es:List Edge} {ls:List (List Int)},a∈(lY k ls es)[j]?.getD []->a∈ls[j]?.getD []∨(a=k∧∃e∈es,j=e.block.toNat)
 | [],_,h=>.inl h
 | e::r,ls,h=>by
  have h:a∈(lY k (lv k ls e) r)[j]?.getD []:=h;rcases y6 h with q|⟨q1,x,q2,q3⟩
  ·rcases It q with q|⟨q1,q2⟩
   ·exact .inl q
   exact .inr ⟨q1,e,by simp,q2⟩
  exact .inr ⟨q1,x,by simp[q2],q3⟩
theorem za{j:Nat}{a:Int}:∀{bs:List Block} {k:Nat} {ls:List (List Int)},a∈(mM k ls bs)[j]?.getD []->a∈ls[j]?.getD []∨∃(i:Nat) (b:Block),bs[i]?=some b∧a=(k+i:Nat)∧∃e∈b.term.to,j=e.block.toNat
 | [],_,_,h=>.inl h
 | b::r,k,ls,h=>by
  rw[mM]at h;rcases za h with q|⟨i,c,q1,q2,q3⟩
  ·rcases y6 q with q|⟨q1,q2⟩
   ·exact .inl q
   exact .inr ⟨0,b,rfl,q1,q2⟩
  exact .inr ⟨i+1,c,q1,by rw[q2];congr 1;omega,q3⟩
theorem Iu{f:Func}(hg:uC f){k p:Int}(hk:0<=k)(h:p∈AI f k):(0<=p∧p<f.blocks.length)∧Jm f p k:=by
 rcases za h with q|⟨i,b,q1,q2,e,q3,q4⟩
 ·rw[List.getElem?_replicate]at q;split at q<;>simp at q
 have hi:=I q1;refine⟨by omega,e,?_,?_⟩
 ·have:ax f p=b:=by simp[ax,show p.toNat=i by omega,q1]
  rw[kX,this];exact q3
 have:=hg.fZ b (List.mem_of_getElem? q1) e q3;omega

end Go.Proofs.YtjdnhamngpafmaaGreat
namespace Go.Proofs.YtjdnhamngpafmaaGreat
open Go.Av Go.Sort
def pe(l:List Int):List Int:=l.mergeSort fun x y=>decide (x<=y)
theorem lC(l:List Int):(pe l).Perm l:=List.mergeSort_perm _ _
theorem sg(l:List Int):(pe l).Pairwise (fun x y=>x<=y):=by
 have h:=List.pairwise_mergeSort (le:=fun x y:Int=>decide (x<=y)) (fun a b c h1 h2=>by simp only[decide_eq_true_eq]at h1 h2 ⊢;omega) (fun a b=>by simp only[Bool.or_eq_true,decide_eq_true_eq];omega) l;exact h.imp fun q=>by simpa using q
def yc(P:Program)(f:FuncId):Prop:=∀(blk off cap:Nat) (zs:List Int) (w:World),Go.Sort.Holds (Value.int .i64) w blk off zs.toArray->blk<w.heap.size->zs.length<4611686018427387904 ->
 Calls P f #[.slice (some ⟨blk,off,none⟩) zs.length cap] w fun e w' =>
  e=.returned (.tuple #[])∧∃n os,w'=grow (putRow (Value.int .i64) (Sort.ahead w n) blk off (zs.mergeSort fun x y=>decide (x<=y)).toArray) os
theorem Df{P:Program}{f:FuncId}(HM:Go.Av.Enters P f)(hc:yc P f){O:List aj}{id:Nat}{zs:List Int}(ho:O[id]?=some (.cells (zs.map aI)))(hl:zs.length<=1000) :
  bd P f O [.os id zs.length 1] (fun r O'=>r=.cD []∧O'=O.set id (.cells ((pe zs).map aI))):=by
 refine⟨HM,fun g vs hg Gt Ni=>?_⟩;subst Gt;obtain⟨h1,h2⟩:=Ni;simp only[List.length_singleton]at h1;have GD:vs[0]?=some (vs[0]'(by omega)):=Array.getElem?_eq_getElem _;obtain⟨l,o,cap,he,jd,hns,cY,hb,cE,Aj⟩:=(h2 0 _ _ rfl GD).s8;have Ni:vs = #[.slice (some ⟨l.block,0,none⟩) zs.length cap]:=by
  apply Array.ext
  ·simpa using h1
  intro i Gv QW;have:i=0:=by omega
  subst this;exact Aj
 subst Ni;obtain⟨arr,t,iK,dk,hlen,fS,oJ,HS⟩:=hg.row ho he;rw[List.length_map]at hlen;have fB:∀(j:Nat) x,zs[j]?=some x->arr[j]?=some (.int .i64 x)∧iv (.int .i64 x):=fun j x hj=>by
  have EO:=I hj;have Su:arr[j]?=some (arr[j]'(by omega)):=Array.getElem?_eq_getElem _;obtain⟨e,hf⟩:=(fS j (aI x) _ (by simp[hj]) Su).cb;exact⟨by rw[Su,e],hf⟩
 have hH:Go.Sort.Holds (Value.int .i64) g.w l.block 0 zs.toArray:=fun j hj=>by
  have jc:j<zs.length:=by simpa using hj
  refine⟨?_,by simp[World.frozen?,dk]⟩;rw[show g.w.cell? ⟨l.block,0+j,none⟩=arr[0+j]? from Go.Av.cell_of_row dk (0+j),Nat.zero_add,(fB j _ (List.getElem?_eq_getElem jc)).1];simp[jc]
 refine(hc l.block 0 cap zs g.w hH (aW dk) (by omega)).mono ?_;rintro e w' ⟨rfl,n,os,xR⟩;have Nf:(zs.mergeSort fun x y=>decide (x<=y))=pe zs:=rfl;rw[Nf]at xR;have hp:=lC zs;obtain⟨ss,OR⟩:∃ss,ss=pe zs:=⟨_,rfl⟩
 rw[<-OR]at xR hp ⊢;have mW:=hp.length_eq;have XV:=aW dk;have ew:∀k,k<g.w.heap.size->w'.heap[k]?=(g.w.heap.modify l.block (onCells (putCells (Value.int .i64) 0 ss.toArray)))[k]?:=fun k hk=>by
  subst xR;simp only[grow,putRow,mapBlock,Sort.ahead];rw[Array.getElem?_append_left (by simpa using hk)]
 have VU:w'.heap[l.block]?=some (.cells (putCells (Value.int .i64) 0 ss.toArray arr) t (0,0)):=by
  rw[ew _ XV,Array.getElem?_modify,if_pos rfl,dk];rfl
 have VK:∀k,k<g.w.heap.size->k≠l.block->w'.heap[k]?=g.w.heap[k]?:=fun k hk ct=>by
  rw[ew k hk,Array.getElem?_modify,if_neg (fun q=>ct q.symm)]
 have jB:∀(j:Nat) x,ss[j]?=some x->(putCells (Value.int .i64) 0 ss.toArray arr)[j]?=some (.int .i64 x):=fun j x hj=>by
  have EO:=I hj;have Su:arr[j]?=some (arr[j]'(by omega)):=Array.getElem?_eq_getElem _;simp only[putCells,Array.getElem?_mapIdx,Su,Option.map_some,Nat.zero_add,Nat.zero_le,true_and,Nat.sub_zero,List.size_toArray];rw[if_pos EO];simp[hj]
 have eR:ld g id (.cells (zs.map aI)) (some l) (.cells (ss.map aI)) w' :=
  {obj:=ho
   os:=by rw[xR];rfl
   tape:=by rw[xR];rfl
   output:=by rw[xR];rfl
   size:=by rw[xR];simp[grow,putRow,mapBlock,Sort.ahead]
   block:=fun k hk ct=>VK k hk fun e=>ct l he trivial e.symm
   cell:=fun b off x hx hb=>by
    by_cases e:b=l.block
    ·have:=hb l he trivial e.symm;omega
    rw[jL (VK b (pw hx) e)];exact hx
   place:=fun l1 h1 _=>by
    simp only[Option.some.injEq]at h1;subst h1;exact .inr ⟨l,he,trivial,rfl,Nat.le_refl _⟩
   spare:=fun m h=>by cases h
   plain:=fun _=>⟨by simp[aj.aF],he⟩
   gone:=by simp }
 refine⟨g.bB id (some l) (.cells (ss.map aI)) w',.tuple #[],.cD [],rfl,rfl,Le.bB hg eR,Good.bB hg eR ?_ ?_,.cD rfl (by simp),rfl,rfl⟩
 ·refine⟨l,_,t,rfl,iK,VU,by simp[putCells,mW];omega,fun j c u hj hu=>?_,fun c hc=>?_,by simpa[putCells]using HS⟩
  ·rw[List.getElem?_map]at hj;obtain⟨x,hx,rfl⟩:=Option.map_eq_some_iff.1 hj;rw[jB j x hx]at hu;simp only[Option.some.injEq]at hu;subst hu;have hm:x∈zs:=hp.subset (List.mem_of_getElem? hx);obtain⟨i,hi⟩:=List.getElem?_of_mem hm;exact .v (fB i x hi).2
  obtain⟨x,_,rfl⟩:=List.mem_map.1 hc;trivial
 intro l1 h1 _;simp only[Option.some.injEq]at h1;subst h1;rw[xR];simp[grow,putRow,mapBlock,Sort.ahead];omega
end Go.Proofs.YtjdnhamngpafmaaGreat
namespace Go.Proofs.YtjdnhamngpafmaaGreat
open Go.Av
def ec(f:Func):List Int:=pe (bH f)
theorem dT{f:Func}{k:Int}:k∈ec f↔0<=gX f k:=by
 unfold ec gX;rw[(lC _).mem_iff];exact fT.1.symm
theorem CY(f:Func):(ec f).length=(bH f).length:=(lC _).length_eq
end Go.Proofs.YtjdnhamngpafmaaGreat
namespace Go.Av
theorem ve{P:Program}{kb:Nat}{c:Code}{Q:dE->St->Prop}{n:Nat}{br:List (Nat×ae)}{A:Nat}{C:Nat->List ae}{N M:Nat}(pos:Nat->Nat)
  (dv:∀i,∀d∈C i,d.scalar) (hl:∀i,(C i).length=M) (F:Nat->List aj->Prop)
  (hF:∀i O,i<N->O[A]?=some (.cells (C i))->F i O->(C (i+1)=C i∧F (i+1) O) ∨
   ∃id o x y,id≠A∧O[id]?=some o∧¬o.aF∧o.live∧(C i)[pos i]?=some x∧(C (i+1))=(C i).set (pos i) y∧bQ O id x y∧F (i+1) ((O.set id .gone).set A (.cells (C (i+1))))) :
  ∀(m i:Nat) (O:List aj),i+m=N->O[A]?=some (.cells (C i))->F i O->(∀O',O'.length=O.length->O'[A]?=some (.cells (C N))->F N O'->cc P kb c Q ⟨n,br,O'⟩)->cc P kb c Q ⟨n,br,O⟩
 | 0,i,O,hi,hA,hf,h=>by
  have:i=N:=by omega
  subst this;exact h O rfl hA hf
 | m+1,i,O,hi,hA,hf,h=>by
  rcases hF i O (by omega) hA hf with⟨e,fC⟩|⟨id,o,x,y,h1,h2,h3,h4,h5,h6,h7,fC⟩
  ·exact ve pos dv hl F hF m (i+1) O (by omega) (by rw[e];exact hA) fC h
  have Oc:=I hA;refine iB id h2 h3 h4 br (fun s z hz=>⟨z,hz,.refl z⟩) A (Ne.symm h1) (C i) (C (i+1)) hA (by rw[hl,hl]) (dv (i+1)) (fun j a b ha hb=>?_) (ve pos dv hl F hF m (i+1) _ (by omega) (by rw[List.getElem?_set_self (by rw[List.length_set];exact Oc)]) fC fun O' RZ=>h O' (by rw[RZ,List.length_set,List.length_set]));rw[h6,List.getElem?_set]at hb;split at hb
  ·rename_i e;rw[<-e,h5]at ha;rw[if_pos (I h5)]at hb;simp only[Option.some.injEq]at ha hb;subst ha;subst hb;exact h7
  rw[ha]at hb;simp only[Option.some.injEq]at hb;subst hb;exact .refl _
end Go.Av
namespace Go.Proofs.YtjdnhamngpafmaaGreat
open Go.Av
def gY(A:List Int)(e:Edge):Edge:=⟨DP A e.block,e.args⟩
def tg(A:List Int)(b:Block):Block:=⟨b.params,b.ins,⟨b.term.kind,b.term.arg,b.term.n,b.term.cases,b.term.to.map (gY A)⟩⟩
def nS(f:Func):List Int:=(List.range f.blocks.length).map fun(k:Nat)=>kH (ec f) (k:Int)
def bj(f:Func):Func:=⟨f.name,(ec f).map fun k=>tg (nS f) (ax f k)⟩
theorem qS{f:Func}(hw:mY f):(ec f).Nodup:=by
 refine(lC _).nodup_iff.2 ?_;unfold List.Nodup;rw[List.pairwise_iff_getElem];intro i j hi hj sR e;have h1:=hw.at_ i _ (List.getElem?_eq_getElem hi);have h2:=hw.at_ j _ (List.getElem?_eq_getElem hj);rw[e,h2]at h1;omega
theorem ni(a b:List Edge):ib (a++b)=ib a++ib b:=by simp[ib]
def nC(A:List Int)(es:List Edge)(n:Nat):List Edge:=(es.take n).map (gY A)++es.drop n
theorem Ii(A:List Int)(es:List Edge):nC A es 0=es:=by simp[nC]
theorem Lk(A:List Int){es:List Edge}{n:Nat}(h:es.length<=n):nC A es n=es.map (gY A):=by
 unfold nC;rw[List.take_of_length_le h,List.drop_of_length_le h,List.append_nil]
theorem CG(A:List Int)(es:List Edge)(n:Nat):(nC A es n).length=es.length:=by
 unfold nC;rw[List.length_append,List.length_map,List.length_take,List.length_drop];omega
theorem RQ{es:List Edge}{n:Nat}{e:Edge}(h:es[n]?=some e):(ib es)[n*2]?=some (aI e.block)∧(ib es)[n*2+1]?=some (aK e.args):=by
 have hl:=I h;have e1:es=es.take n++e::es.drop (n+1):=by
  rw[<-bP h,List.take_append_drop]
 have hlen:(ib (es.take n)).length=n*2:=by rw[nj,List.length_take];omega
 have e2:ib es=ib (es.take n)++(aI e.block::aK e.args::ib (es.drop (n+1))):=by
  conv=>lhs;rw[e1]
  rw[ni];rfl
 rw[e2];refine⟨?_,?_⟩
 ·rw[List.getElem?_append_right (by omega),hlen,Nat.sub_self];rfl
 rw[List.getElem?_append_right (by omega),hlen,show n*2+1-n*2=1 by omega];rfl
theorem O9(A:List Int){es:List Edge}{n:Nat}{e:Edge}(h:es[n]?=some e):(nC A es n)[n]?=some e:=by
 have hl:=I h;unfold nC;rw[List.getElem?_append_right (by rw[List.length_map,List.length_take];omega),List.length_map,List.length_take,show n-min n es.length=0 by omega,List.getElem?_drop,Nat.add_zero,h]
theorem Ih(A:List Int){es:List Edge}{n:Nat}{e:Edge}(h:es[n]?=some e):bo (ib (nC A es n)) (n*2) [.v (.int .i64 (DP A e.block))]=ib (nC A es (n+1)):=by
 have hl:=I h;have hlen:(ib ((es.take n).map (gY A))).length=n*2:=by rw[nj,List.length_map,List.length_take];omega
 have h1:ib (nC A es n)=ib ((es.take n).map (gY A))++(aI e.block::aK e.args::ib (es.drop (n+1))):=by
  unfold nC;rw[ni,bP h];rfl
 have h2:ib (nC A es (n+1))=ib ((es.take n).map (gY A))++(aI (DP A e.block)::aK e.args::ib (es.drop (n+1))):=by
  unfold nC;rw[ni,List.take_add_one,h,List.map_append,ni,List.append_assoc];rfl
 rw[cG _ (by rw[nj,CG];omega),h1,h2,List.set_append_right _ _ (by omega),hlen,Nat.sub_self,List.set_cons_zero]
def uA(ids:List Nat)(l:List Int):List Nat:=l.map fun k=>ids[k.toNat]?.getD 0
def oh(f:Func)(A:List Int)(l:List Int):List Block:=l.map fun k=>tg A (ax f k)
structure Jr(f:Func)(A:List Int)(ids:List Nat)(eg X:Nat)(l:List Int)(oid:Nat)(O:List aj):Prop where
 up:∀o∈O,o.upto O.length
 r1:O[1]?=some (.cells [aI 0,.aC 7 [] .ex])
 x5:5<=X
 xb:eg≠X
 bl:5<=eg∧O[eg]?=some (.cells (fN ids f.blocks))
 li:ids.length=f.blocks.length
 own:∀(j id:Nat) (b:Block),ids[j]?=some id->f.blocks[j]?=some b->b.term.to≠[]->5<=id∧id≠eg∧id≠X∧(l≠[]->id≠oid)∧O[id]?=some (.cells (ib (if(j:Int)∈l then b.term.to.map (gY A)else b.term.to)))
 inj:∀(i j id:Nat) (b c:Block),ids[i]?=some id->ids[j]?=some id->f.blocks[i]?=some b->f.blocks[j]?=some c->b.term.to≠[]->c.term.to≠[]->i=j
 out:O[X]?=some (.cells [aI f.name,jG oid (oh f A l)])
 aC:l≠[]->5<=oid∧oid≠X∧oid≠eg∧O[oid]?=some (.cells (fN (uA ids l) (oh f A l)))
theorem iM(A:List Int)(b:Block):(tg A b).term.to=b.term.to.map (gY A):=rfl
theorem LC(A:List Int)(id:Nat)(b:Block):qO id (b.term.to.map (gY A))=qO id b.term.to:=by
 unfold qO;by_cases h:b.term.to=[]
 ·rw[if_pos h,if_pos (by rw[h];rfl)]
 rw[if_neg h,if_neg (by simpa using h),List.length_map]
theorem Jr.snoc{f:Func}{A:List Int}{ids:List Nat}{eg X:Nat}{l:List Int}{oid:Nat}{O O1:List aj}(h:Jr f A ids eg X l oid O){k:Nat}{b:Block}{id:Nat}(hb:f.blocks[k]?=some b)(gp:ids[k]?=some id)(hk:(k:Int) ∉ l)
  (hlen:O1.length=O.length) (bG:∀o∈O1,o.upto O.length) (ew:∀j,(b.term.to≠[]->j≠id)->(l≠[]->j≠oid)->O1[j]?=O[j]?) (vZ:b.term.to≠[]->O1[id]?=some (.cells (ib (b.term.to.map (gY A))))) {cs ar:List ae}
  (fS:cs=fN (uA ids (l++[(k:Int)])) (oh f A (l++[(k:Int)]))) (R1:ar=[aI f.name,.os O.length (l.length+1) 7]):Jr f A ids eg X (l++[(k:Int)]) O.length ((O1++[aj.cells cs]).set X (.cells ar)):=by
 have XO:=I h.out;have pW:=I h.bl.2;have iK:l≠[]->oid≠X∧oid≠eg∧5<=oid:=fun q=>by obtain⟨a,b,c,_⟩:=h.aC q;exact⟨b,c,a⟩
 have tD:∀(j id:Nat) (c:Block),ids[j]?=some id->f.blocks[j]?=some c->c.term.to≠[]->id<O.length:=fun j id c h1 h2 h3=>I (h.own j id c h1 h2 h3).2.2.2.2;have nU:∀j,j<O.length->j≠X->(b.term.to≠[]->j≠id)->(l≠[]->j≠oid)->((O1++[aj.cells cs]).set X (.cells ar))[j]?=O[j]?:=fun j hj hjX h1 h2=>by
  rw[List.getElem?_set_ne (Ne.symm hjX),List.getElem?_append_left (by omega),ew j h1 h2]
 have Vj:=h.own k id b gp hb;subst fS;subst R1;exact {
  up:=by
   intro o ho;rw[List.length_set,List.length_append,List.length_singleton,hlen];rcases List.mem_or_eq_of_mem_set ho with q|q
   ·rcases List.mem_append.1 q with q|q
    ·exact aj.cj (by omega) (bG o q)
    rw[List.mem_singleton]at q;subst q;refine yi fun j mh c h1 h2 h3=>?_;unfold uA at h1;unfold oh at h2;rw[List.getElem?_map,Option.map_eq_some_iff]at h1 h2;obtain⟨k1,e1,e2⟩:=h1;obtain⟨k2,e3,e4⟩:=h2;rw[e1]at e3;simp only[Option.some.injEq]at e3;subst e3;subst e4;rw[iM]at h3;have rO:(ax f k1).term.to≠[]:=fun q=>h3 (by rw[q];rfl);have Gx:k1.toNat<f.blocks.length:=by
     refine Classical.byContradiction fun q=>rO ?_;unfold ax;rw[List.getElem?_eq_none (by omega)];rfl
    have qh:f.blocks[k1.toNat]?=some (ax f k1):=by
     unfold ax;rw[List.getElem?_eq_getElem Gx];rfl
    have Vk:ids[k1.toNat]?=some mh:=by
     rw[List.getElem?_eq_getElem (by rw[h.li];exact Gx)]at e2 ⊢;exact congrArg some e2
    have:=tD _ _ _ Vk qh rO;omega
   subst q;exact⟨trivial,show _<_ by omega,trivial⟩
  r1:=by
   rw[nU 1 (I h.r1) (by have:=h.x5;omega) (fun q=>by have:=(Vj q).1;omega) (fun q=>by have:=(iK q).2.2;omega)];exact h.r1
  x5:=h.x5
  xb:=h.xb
  bl:=by
   refine⟨h.bl.1,?_⟩;rw[nU eg pW h.xb (fun q=>Ne.symm (Vj q).2.1) (fun q=>Ne.symm (iK q).2.1)];exact h.bl.2
  li:=h.li
  own:=fun j mh c h1 h2 h3=>by
   obtain⟨o1,o2,o3,o4,o5⟩:=h.own j mh c h1 h2 h3;have xK:=I o5;refine⟨o1,o2,o3,fun _=>by omega,?_⟩;rw[List.getElem?_set_ne (Ne.symm o3),List.getElem?_append_left (by omega)];by_cases e:j=k
   ·subst e;rw[gp]at h1;rw[hb]at h2;simp only[Option.some.injEq]at h1 h2;subst h1;subst h2;rw[if_pos (by simp)];exact vZ h3
   rw[ew mh (fun q e2=>by
    subst e2;exact e (h.inj j k mh c b h1 gp h2 hb h3 q)) o4,o5]
   have Yn:((j:Int)∈l++[(k:Int)])=((j:Int)∈l):=by
    apply propext;rw[List.mem_append,List.mem_singleton];exact⟨fun q=>q.resolve_right (by omega),.inl⟩
   simp only[Yn]
  inj:=h.inj
  out:=by
   rw[List.getElem?_set_self (by rw[List.length_append];omega)];have:jG O.length (oh f A (l++[(k:Int)]))=.os O.length (l.length+1) 7:=by
    unfold jG oh;rw[if_neg (by simp),List.length_map,List.length_append];rfl
   rw[this]
  aC:=fun _=>by
   have h5:=h.x5;refine⟨by omega,by omega,by omega,?_⟩;rw[List.getElem?_set_ne (by omega),List.getElem?_append_right (by omega),hlen,Nat.sub_self];rfl }
end Go.Proofs.YtjdnhamngpafmaaGreat
