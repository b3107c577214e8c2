/-
  Texts bound together by a program of mine: YtjdnhamngpafmaaGreatT25, YtjdnhamngpafmaaGreatT4, YtjdnhamngpafmaaGreatT5, YtjdnhamngpafmaaGreatT6, YtjdnhamngpafmaaGreatT7, YtjdnhamngpafmaaGreatT8, YtjdnhamngpafmaaGreatT9, YtjdnhamngpafmaaGreatT10, YtjdnhamngpafmaaGreatT26, YtjdnhamngpafmaaGreatT11, YtjdnhamngpafmaaGreatT12, YtjdnhamngpafmaaGreatT13, YtjdnhamngpafmaaGreatT14, YtjdnhamngpafmaaGreatT15, YtjdnhamngpafmaaGreatT16, YtjdnhamngpafmaaGreatT17, YtjdnhamngpafmaaGreatT27, YtjdnhamngpafmaaGreatT28, YtjdnhamngpafmaaGreatT29, YtjdnhamngpafmaaGreatT31, YtjdnhamngpafmaaGreatT32, YtjdnhamngpafmaaGreatT33, YtjdnhamngpafmaaGreatPq, YtjdnhamngpafmaaGreatT34, YtjdnhamngpafmaaGreatT35, YtjdnhamngpafmaaGreatPn, YtjdnhamngpafmaaGreatT36, YtjdnhamngpafmaaGreatPs.
-/
import Derived.Test.YtjdnhamngpafmaaGreatF2
set_option linter.all false
set_option maxRecDepth 100000
set_option maxHeartbeats 4000000

namespace Go.Proofs.YtjdnhamngpafmaaGreat
open Go.Av
def B2(i:Ins)(many:Int)(known:Bool):Bool:=(!known ||(decide (0<=many)&&!decide ((i.args.length:Int)=many))) ||(decide (i.op=14)&&decide ((i.args.length:Int)=0))
def vO(i:Ins):Bool:=(decide (i.op=8) ||decide (i.op=9))&&decide ((16:Int)<i.args.length)
def B3(i:Ins):Bool:=(decide (i.op=13) ||decide (i.op=14))&&decide ((6:Int)<i.args.length)
def kN(i:Ins):Int:=if B2 i (bq i).1 (bq i).2 then 3 else if vO i ||B3 i then 2 else if cy i then 0 else 4
theorem yx(i:Ins):bD Tryz.prog 87 [i.enc] (aI (kN i)):=by
 have kq:=xW i;have YB:=CN i;unfold kN;generalize bq i=r at *;obtain⟨many,known⟩:=r;simp only at kq ⊢;generalize cy i=nb at *;refine zf true 0 Tryz.func87 Tryz.ntmps87 ?_;dsimp only[Tmp,TypeId,slotsOf];refine aA (ah ?_);refine aA ?_;refine zi kq ?_;refine ah ?_;refine aJ (ai ?_);refine gI (⟨68,[(1,.mp 0 0),(2,aI 0),(10,.v (.bool (B2 i many known)))],[.cells [aI i.to,aI i.op,aI i.n,aK i.args]]⟩) ?_ ?_
 ·cases known<;>cases hA:decide ((0:Int)<=many)<;>cases hB:decide ((i.args.length:Int)=many)<;>cases hC:decide (i.op=14)<;>cases hD:decide ((i.args.length:Int)=0)
  all_goals
   refine fb hT hm ?_;simp -dsimp only[simprocAttr,↓aa,zp,hA,hB,hC,hD];refine ba ?_;show bc _ _;refine zq rfl ?_ ?_;simp -dsimp only[simprocAttr,↓aa,zp,zc]
   ·exact Sub.of_eq (by unfold B2;rw[hA,hB,hC,hD];rfl)
   rfl
 cases hfa:B2 i many known
 ·refine cr rfl ?_;refine gI (⟨68,[(1,.mp 0 0),(2,aI 0),(35,.v (.bool (vO i ||B3 i)))],[.cells [aI i.to,aI i.op,aI i.n,aK i.args]]⟩) ?_ ?_
  ·refine gI (⟨68,[(1,.mp 0 0),(2,aI 0),(35,.v (.bool (vO i)))],[.cells [aI i.to,aI i.op,aI i.n,aK i.args]]⟩) ?_ ?_
   ·cases hA:decide (i.op=8)<;>cases hB:decide (i.op=9)<;>cases hC:decide ((16:Int)<i.args.length)
    all_goals
     refine fb hT hm ?_;simp -dsimp only[simprocAttr,↓aa,zp,hA,hB,hC];refine ba ?_;show bc _ _;refine zq rfl ?_ ?_;simp -dsimp only[simprocAttr,↓aa,zp,zc]
     ·exact Sub.of_eq (by unfold vO;rw[hA,hB,hC];rfl)
     rfl
   cases Ya:vO i
   ·refine cr rfl ?_;cases hA:decide (i.op=13)<;>cases hB:decide (i.op=14)<;>cases hC:decide ((6:Int)<i.args.length)
    all_goals
     refine fb hT hm ?_;simp -dsimp only[simprocAttr,↓aa,zp,hA,hB,hC];refine ba ?_;show bc _ _;refine zq rfl ?_ ?_;simp -dsimp only[simprocAttr,↓aa,zp,zc]
     ·exact Sub.of_eq (by unfold B3;rw[hA,hB,hC];rfl)
     rfl
   refine cH rfl ?_;refine a6 ?_;show bc _ _;refine zq rfl ?_ ?_;simp -dsimp only[simprocAttr,↓aa,zp,zc]
   ·exact Sub.refl _
   rfl
  cases XR:(vO i ||B3 i)
  ·refine cr rfl ?_;refine aA ?_;refine zi YB ?_;refine ah ?_;cases hnb:nb
   ·refine cH rfl ?_;refine aA (ah ?_);refine aq ?_;simp -dsimp only[simprocAttr,↓aa,zp,zr,Tryz.results87]
   refine cr rfl ?_;refine la ?_;refine aA (ah ?_);refine aq ?_;simp -dsimp only[simprocAttr,↓aa,zp,zr,Tryz.results87]
  refine cH rfl ?_;refine aA (ah ?_);refine aq ?_;simp -dsimp only[simprocAttr,↓aa,zp,zr,Tryz.results87]
 refine cH rfl ?_;refine aA (ah ?_);refine aq ?_;simp -dsimp only[simprocAttr,↓aa,zp,zr,Tryz.results87]
theorem dz{O:List aj}{k:Nat}{y:aj}(h:O[k]?=some y)(x:aj):(O.set k x)[k]?=some x:=List.getElem?_set_self (I h)
theorem bw{O:List aj}{n k:Nat}{cs ds:List ae}(h:∀o∈O,o.upto n)(hk:O[k]?=some (.cells cs))(hd:aw n cs->aw n ds):∀o∈O.set k (.cells ds),o.upto n :=
 bz h (hd (h _ (List.mem_of_getElem? hk)))
theorem bZ{n:Nat}{u v:bY}{m p:Mach}(h:aw n (aE u m))(hs:p.sid=m.sid):aw n (aE v p):=by
 simp only[aE,aw,ae.upto,az,Func.ag,true_and,and_true]at h ⊢;rw[hs];exact h
theorem pO(m:Mach)(n:Int):(m.cU n).sid=m.sid:=by
 unfold Mach.cU;split<;>rfl
theorem wJ{u:bY}{m:Mach}{O:List aj}(bG:∀o∈O,o.upto O.length)(h0:O[2]?=some (.cells (aE u m)))(n:Int)(h1:0<=m.left)(h2:m.left<=2 ^ 40)(h3:0<=n) :
  bd Tryz.prog 82 O [.mp 2 0,aI n] (fun r O'=>r=.cD []∧O'=O.set 2 (.cells (aE u (m.cU n)))):=by
 have hs:=dz h0;have oe:=bw bG h0 (ds:=aE u (m.cU n)) (fun h=>bZ h (pO m n));have eH:=cA (O:=O) (k:=2) (x:=.cells (aE u (m.cU n)));unfold aE at h0;by_cases hc:m.left<n
 ·have hd:decide (m.left<n)=true:=decide_eq_true hc;have hp:[bn u.fns,aI u.main,.os m.sid m.frames.length 1,aI m.left,.v (.bool true),.v (.bool true),.aC 1 (m.out.map aI) (.tok 3),aI m.fin,aI m.val]=aE u (m.cU n):=by
   simp[Mach.cU,hc,aE]
  refine zf true O.length Tryz.func82 Tryz.ntmps82 ?_;dsimp only[Tmp,TypeId,slotsOf];refine c9 ?_;simp -dsimp only[simprocAttr,↓aa,zp,h0];refine ah ?_;apply aP rfl<;>intro h
  ·refine aS ?_;simp -dsimp only[simprocAttr,↓aa,zp,h0,hs,List.set_set,hp];refine ah ?_;refine aq ?_;simp -dsimp only[simprocAttr,↓aa,zp,zr,Tryz.results82,eH,List.length_set];exact⟨oe,trivial⟩
  simp[hd]at h
 have hd:decide (m.left<n)=false:=decide_eq_false hc;have hp:[bn u.fns,aI u.main,.os m.sid m.frames.length 1,aI (m.left-n),.v (.bool m.short),.v (.bool m.over),.aC 1 (m.out.map aI) (.tok 3),aI m.fin,aI m.val]=aE u (m.cU n):=by
  simp[Mach.cU,hc,aE]
 refine zf true O.length Tryz.func82 Tryz.ntmps82 ?_;dsimp only[Tmp,TypeId,slotsOf];refine c9 ?_;simp -dsimp only[simprocAttr,↓aa,zp,h0];refine ah ?_;apply aP rfl<;>intro h
 ·simp[hd]at h
 refine cd ?_;refine kC ?_;simp -dsimp only[simprocAttr,↓aa,zp,h0,hs,List.set_set,hp]
 repeat(refine⟨by omega,?_⟩)
 refine ba ?_;simp -dsimp only[simprocAttr,↓aa,zp,zr,Tryz.results82,eH,List.length_set];exact⟨oe,trivial⟩
theorem k8{u:bY}{m:Mach}{O:List aj}(bG:∀o∈O,o.upto O.length)(h0:O[2]?=some (.cells (aE u m)))(e n:Int) :
  bd Tryz.prog 114 O [.mp 2 0,aI e,aI n] (fun r O'=>r=.cD []∧O'=O.set 2 (.cells (aE u (m.stop e n)))):=by
 have hs:=dz h0;have oe:=bw bG h0 (ds:=aE u (m.stop e n)) (fun h=>bZ h rfl);have eH:=cA (O:=O) (k:=2) (x:=.cells (aE u (m.stop e n)));unfold aE at h0;have hp:[bn u.fns,aI u.main,.os m.sid m.frames.length 1,aI m.left,.v (.bool m.short),.v (.bool true),.aC 1 (m.out.map aI) (.tok 3),aI e,aI n]=aE u (m.stop e n):=rfl;refine zf true O.length Tryz.func114 Tryz.ntmps114 ?_;dsimp only[Tmp,TypeId,slotsOf];refine aS ?_;simp -dsimp only[simprocAttr,↓aa,zp,h0];refine ah ?_;refine kC ?_;simp -dsimp only[simprocAttr,↓aa,zp,hs,List.set_set,hp];refine ba ?_;simp -dsimp only[simprocAttr,↓aa,zp,zr,Tryz.results114,eH,List.length_set];exact⟨oe,trivial⟩
theorem na{sz:Nat}{xs:List ae}(h:∀x∈xs,x.cells.length=sz){k:Nat}(hk:k<xs.length){y:ae}(hy:y.cells.length=sz):bo (au xs) (k*sz) y.cells=au (xs.set k y):=by
 induction xs generalizing k with
 | nil=>simp at hk
 | cons p r ih =>
  have hp:=h p (by simp);cases k with
  | zero =>
   simp only[List.set_cons_zero,au,List.flatMap_cons,bo,Nat.zero_mul,List.take_zero,List.nil_append,Nat.zero_add,hy];rw[List.drop_append_of_le_length (by omega),List.drop_of_length_le (by omega)];rfl
  | succ k =>
   have:=ih (fun x hx=>h x (by simp[hx])) (k:=k) (by simpa using hk);have e1:(k+1)*sz-sz=k*sz:=by rw[Nat.succ_mul];omega
   have e2:(k+1)*sz+sz-sz=k*sz+sz:=by rw[Nat.succ_mul];omega
   have e3:sz<=(k+1)*sz:=by rw[Nat.succ_mul];omega
   simp only[List.set_cons_succ,au,List.flatMap_cons,bo,hy]at this ⊢;rw[List.take_append,List.drop_append,hp,List.take_of_length_le (by omega),List.drop_of_length_le (by omega),e1,e2,List.nil_append,List.append_assoc,this]
def ku(es:List (Int×SV))(k:Int):ae:=(Option.map SV.enc (iu es k)).getD (.agg [aI 0,aI 0,.aC 4 [] .ex,.v (.pointer none)])
theorem wM(es:List (Int×SV))(k:Int):(ku es k).share=(fk es k).enc:=by
 unfold ku fk;cases iu es k with
 | none=>rfl
 | some v=>exact v.al
theorem fV(es:List (Int×SV))(k:Int):(ku es k).cells.length=4:=by
 unfold ku;cases iu es k with
 | none=>rfl
 | some v=>exact v.dc
theorem jW(es:List (Int×SV))(k:Int):(ku es k).flat:=by
 unfold ku;cases iu es k with
 | none=>trivial
 | some v=>exact v.av
def sb(es:List (Int×SV))(l:List Int)(k:Nat):List ae:=(l.take k).map (ku es)++List.replicate (l.length-k) (.agg [aI 0,aI 0,.aC 4 [] .ex,.v (.pointer none)])
theorem wR{es:List (Int×SV)}{l:List Int}{k:Nat}(h:k<=l.length):(sb es l k).length=l.length:=by
 simp[sb];omega
theorem qU{es:List (Int×SV)}{l:List Int}{k:Nat}:∀x∈sb es l k,x.cells.length=4:=fun x hx=>by
 simp only[sb,List.mem_append,List.mem_map,List.mem_replicate]at hx;rcases hx with⟨v,_,rfl⟩|⟨_,rfl⟩
 ·exact fV es v
 rfl
theorem II(es:List (Int×SV))(l:List Int):au (sb es l 0)=(List.replicate l.length [aI 0,aI 0,.aC 4 [] .ex,.v (.pointer none)]).flatten:=by
 simp[sb,au,List.flatMap,ae.cells]
theorem IH{es:List (Int×SV)}{l:List Int}{k:Nat}{v:Int}(h:l[k]?=some v):(sb es l k).set k (ku es v)=sb es l (k+1):=by
 have bg:=I h;obtain⟨j,hj⟩:∃j,l.length-k=j+1:=⟨l.length-k-1,by omega⟩
 have e:l.take (k+1)=l.take k++[v]:=by rw[List.take_add_one,h];rfl
 have ek:((l.take k).map (ku es)).length=k:=by simp;omega
 unfold sb;rw[e,hj,show l.length-(k+1)=j by omega,List.set_append_right _ _ (by omega),ek,Nat.sub_self];simp[List.replicate_succ]
theorem LN(es:List (Int×SV))(l:List Int):(au (sb es l l.length)).map ae.bk=au ((cB es l).map SV.enc):=by
 rw[<-fO];simp only[sb,Nat.sub_self,List.replicate_zero,List.append_nil,List.take_length,cB,List.map_map];congr 1;apply List.map_congr_left;intro v _;exact wM es v
theorem jO{es:List (Int×SV)}{n:Nat}(h:∀e∈es,SV.bp n e.2)(k:Int):SV.bp n (fk es k):=by
 unfold fk;cases hl:iu es k with
 | none=>exact .mk (by simp) (by simp)
 | some v =>
  obtain⟨e,h1,rfl⟩:=yX hl;exact h e h1
theorem pg{es:List (Int×SV)}{n:Nat}(h:∀e∈es,SV.bp n e.2)(l:List Int):∀v∈cB es l,SV.bp n v:=fun v hv=>by
 obtain⟨k,_,rfl⟩:=List.mem_map.1 hv;exact jO h k
theorem jZ{f:Fr}{O:List aj}(bG:∀o∈O,o.upto O.length)(hf:O[f.bW]?=some (.cells (aX f)))(hv:O[f.dx]?=some (.map (.int .i64) (f.vals.map ic)))(hu:∀e∈f.vals,SV.bp O.length e.2)(l:List Int)(hl:l.length<=4096) :
  bd Tryz.prog 113 O [.mp f.bW 0,aK l] (fun r O'=>r=.aC 4 ((cB f.vals l).map SV.enc) .sh∧O'=O):=by
 have eX:=SV.ag (pg hu l);have gL:∀X:List aj,(O++X)[f.bW]?=some (.cells (aX f)):=fun X=>cw hf;have TW:∀X:List aj,(O++X)[f.dx]?=some (.map (.int .i64) (f.vals.map ic)):=fun X=>cw hv;unfold aX at gL;refine zf true O.length Tryz.func113 Tryz.ntmps113 ?_;dsimp only[Tmp,TypeId,slotsOf];refine aA (ah ?_);refine aA ?_
 repeat(refine⟨by omega,?_⟩)
 refine ah ?_;refine bX (ah ?_);refine ai (aO (ι:={k:Nat // k<=l.length}) (fun k=>⟨29,[(0,.mp f.bW 0),(5,.ms O.length 0 l.length l.length),(11,aK l),(12,aI l.length),(13,aI k.1)],O++[.cells (au (sb f.vals l k.1))]⟩) (fun k=>l.length-k.1) ⟨0,by omega⟩ ?_ ?_)
 ·refine zq rfl ?_ ?_;simp -dsimp only[simprocAttr,↓aa,zp,zc];rw[II]
 rintro⟨k,hk⟩;refine aA (ah ?_);apply iz rfl<;>intro h
 ·refine cd ?_;have bg:k<l.length:=by simpa using h
  obtain⟨v,Co⟩:∃v,l[k]?=some v:=⟨l[k],by simp[bg]⟩
  have we:(Option.map SV.enc (iu f.vals v)).getD (.agg [aI 0,aI 0,.aC 4 [] .ex,.v (.pointer none)])=ku f.vals v:=rfl;have dk:=bE (qU (es:=f.vals) (l:=l) (k:=k));rw[wR hk]at dk;have iw:=na (qU (es:=f.vals) (l:=l) (k:=k)) (k:=k) (by rw[wR hk];exact bg) (fV f.vals v);rw[IH Co]at iw;have hn:=lA O (aj.cells (au (sb f.vals l k)));have fq:=fun y=>wZ O (aj.cells (au (sb f.vals l k))) y;refine aJ (ai ?_);refine aS ?_;simp -dsimp only[simprocAttr,↓aa,zp,Co];refine ah ?_;refine kC ?_;simp -dsimp only[simprocAttr,↓aa,zp,gL,TW,mJ,we,hn,fq,jW,fV,dk,iw]
  repeat(refine⟨by omega,?_⟩)
  refine ah ?_;refine cT ?_
  repeat(refine⟨by omega,?_⟩)
  refine fK ?_;refine⟨⟨k+1,bg⟩,by simp;omega,?_⟩;refine zq rfl ?_ ?_;simp -dsimp only[simprocAttr,↓aa,zp,zc]
  ·exact Sub.int (by simp)
  rfl
 refine aM ?_;simp -dsimp only[bS,ne_eq,Nat.reduceEqDiff,reduceCtorEq];have gl:k=l.length:=by simp at h;omega
 subst gl;refine DT 5 (sz:=4) ((cB f.vals l).map SV.enc) [(5,.aC 4 ((cB f.vals l).map SV.enc) .sh)] rfl ?_ ?_ ?_ (by omega) (by simp[bF,bh,Go.Av.look]) ?_ ?_ ?_
 ·intro x hx;obtain⟨y,_,rfl⟩:=List.mem_map.1 hx;exact y.dc
 ·simp[cB]
 ·rw[<-LN,List.take_of_length_le];rw[bE qU,wR hk];exact Nat.le_refl _
 ·exact bG
 ·intro p hp;simp only[List.mem_singleton]at hp;subst hp;exact⟨eX,trivial⟩
 refine aA (ah ?_);refine aq ?_;simp -dsimp only[simprocAttr,↓aa,zp,zr,Tryz.results113,List.take_length];exact⟨bG,eX⟩
theorem cX(n:Int):bD Tryz.prog 132 [aI n] (SV.word n).enc:=by
 refine zf true 0 Tryz.func132 Tryz.ntmps132 ?_;dsimp only[Tmp,TypeId,slotsOf];refine aA (ah ?_);refine aA (ah ?_);refine aq ?_;simp -dsimp only[simprocAttr,↓aa,zp,zr,Tryz.results132];simp[SV.word,SV.jN,eP,aw,ae.upto]
theorem w9(b:Bool):bD Tryz.prog 151 [.v (.bool b)] (SV.word (if b then 1 else 0)).enc:=by
 have h1:=cX 1;have h0:=cX 0;have c1:(SV.word 1).enc.cells=[aI 0,aI 1,.aC 4 [] .sh,.v (.pointer none)]:=rfl;have c0:(SV.word 0).enc.cells=[aI 0,aI 0,.aC 4 [] .sh,.v (.pointer none)]:=rfl;refine zf true 0 Tryz.func151 Tryz.ntmps151 ?_;dsimp only[Tmp,TypeId,slotsOf];refine aA (ah ?_);refine bX (ah ?_);apply aP rfl<;>intro h
 ·refine aA ?_;refine .inl ⟨_,h1,by simp only[aw,ae.upto,zt],ao ?_⟩;simp -dsimp only[simprocAttr,↓aa,zp,c1];refine ah ?_;refine aq ?_;simp -dsimp only[simprocAttr,↓aa,zp,zr,Tryz.results151];subst h;exact⟨by simp[aw,ae.upto],rfl⟩
 refine cd ?_;refine aA ?_;refine .inl ⟨_,h0,by simp only[aw,ae.upto,zt],ao ?_⟩;simp -dsimp only[simprocAttr,↓aa,zp,c0];refine ah ?_;refine aq ?_;simp -dsimp only[simprocAttr,↓aa,zp,zr,Tryz.results151];subst h;exact⟨by simp[aw,ae.upto],rfl⟩
theorem Jv{O:List aj}(bG:∀o∈O,o.upto O.length)(l:List SV)(hl:∀v∈l,SV.bp O.length v)(k:Int):bd Tryz.prog 133 O [.aC 4 (l.map SV.enc) .sh,aI k] (fun r O'=>r=.v (.bool (lf l k))∧O'=O):=by
 refine zf true O.length Tryz.func133 Tryz.ntmps133 ?_;dsimp only[Tmp,TypeId,slotsOf];refine aA (ah ?_);refine bX (ah ?_);refine gg 7 rfl (fun hlen=>?_);simp only[List.length_map]at hlen;refine ai (aO (ι:={j:Nat // j<=l.length∧∀v∈l.take j,v.kind=k}) (fun j=>⟨18,[(1,aI k),(4,.v (.bool false)),(7,.aC 4 (l.map SV.enc) .sh),(8,aI l.length),(9,aI j.1)],O⟩) (fun j=>l.length-j.1) ⟨0,by omega,by simp⟩ ?_ ?_)
 ·refine zq rfl ?_ ?_;simp -dsimp only[simprocAttr,↓aa,zp,zc];rfl
 rintro⟨j,hj,cz⟩;refine aA (ah ?_);apply iz rfl<;>intro h
 ·refine cd ?_;have bg:j<l.length:=by simpa using h
  obtain⟨v,hv⟩:∃v,l[j]?=some v:=⟨l[j],by simp[bg]⟩
  have qH:=(hl v (List.mem_of_getElem? hv)).aQ;rw[SV.gi]at qH;refine aJ (ai ?_);refine aS ?_;simp -dsimp only[simprocAttr,↓aa,zp,hv];refine ah ?_;refine aY 6 ([aI v.kind,aI v.n,.aC 4 (v.list.map SV.enc) .sh,eP v.arr]) [(1,aI k),(4,.v (.bool false)),(6,.ip none [aI v.kind,aI v.n,.aC 4 (v.list.map SV.enc) .sh,eP v.arr]),(7,.aC 4 (l.map SV.enc) .sh),(8,aI l.length),(9,aI j)] rfl (by simp only[List.map_cons,List.map_nil,cK,b9,dN,dO,dM,dK,dL,cn]) (by omega) (by simp[bF,bh,Go.Av.look]) ?_ ?_ ?_
  ·exact bG
  ·intro p hp;simp only[List.mem_cons,List.mem_nil_iff,or_false]at hp;have hlu:=SV.ag hl;rcases hp with rfl|rfl|rfl|rfl|rfl|rfl
   ·trivial
   ·trivial
   ·exact qH
   ·exact⟨hlu,trivial⟩
   ·trivial
   trivial
  refine aA (ah ?_);apply aP rfl<;>intro h
  ·refine aA (ah ?_);refine aq ?_;simp -dsimp only[simprocAttr,↓aa,zp,zr,Tryz.results133];have hk:v.kind≠k:=by simpa using h
   refine⟨bG,?_⟩;have:lf l k=false:=by
    simp only[lf,List.all_eq_false,decide_eq_true_eq];exact⟨v,List.mem_of_getElem? hv,hk⟩
   rw[this]
  refine la ?_;have hk:v.kind=k:=by simpa using h
  refine cT ?_
  repeat(refine⟨by omega,?_⟩)
  refine fK ?_;refine⟨⟨j+1,bg,fun w hw=>?_⟩,by simp;omega,?_⟩
  ·rw[List.take_add_one,hv]at hw;simp only[Option.toList_some,List.mem_append,List.mem_singleton]at hw;rcases hw with hw|rfl
   ·exact cz w hw
   exact hk
  refine zq rfl ?_ ?_;simp -dsimp only[simprocAttr,↓aa,zp,zc]
  ·exact Sub.int (by simp)
  rfl
 refine aM ?_;simp -dsimp only[bS,ne_eq,Nat.reduceEqDiff,reduceCtorEq];have gl:j=l.length:=by simp at h;omega
 subst gl;refine aA (ah ?_);refine aq ?_;simp -dsimp only[simprocAttr,↓aa,zp,zr,Tryz.results133];rw[List.take_length]at cz;refine⟨bG,?_⟩;have:lf l k=true:=by
  simp only[lf,List.all_eq_true,decide_eq_true_eq];exact cz
 rw[this]
theorem zD{O:List aj}(bG:∀o∈O,o.upto O.length)(l:List SV)(hl:∀v∈l,SV.bp O.length v)(k:Int)(X:List aj):bd Tryz.prog 133 (O++X) [.aC 4 (l.map SV.enc) .sh,aI k] (fun r O'=>r=.v (.bool (lf l k))∧O'=O++X) :=
 bd.frame (Jv bG l hl k) rfl ⟨⟨SV.ag hl,trivial⟩,trivial,trivial⟩ bG X
theorem dt(n:Int):(SV.word n).enc.cells=[aI 0,aI n,.aC 4 [] .sh,.v (.pointer none)]:=rfl
theorem xh(k:Nat)(n:Int):SV.bp k (SV.word n):=.mk (by simp) (by simp)
theorem qX(k:Nat):SV.bp k SV.zero:=.mk (by simp) (by simp)
theorem l9{k:Nat}{n m:Int}:aw k [(SV.word n).enc,.v (.int .i64 m)]:=⟨(xh k n).aQ,trivial,trivial⟩
theorem fW{k:Nat}{m:Int}:aw k [SV.zero.enc,.v (.int .i64 m)]:=⟨(qX k).aQ,trivial,trivial⟩
theorem fE(n:Int):ae.agg [aI 0,aI n,.aC 4 [] .sh,.v (.pointer none)]=(SV.word n).enc:=rfl
theorem cv:ae.agg [aI 0,aI 0,.aC 4 [] .sh,.v (.pointer none)]=SV.zero.enc:=rfl
theorem tv(op a b:Int)(ha:fU a)(hb:fU b):bD Tryz.prog 134 [aI op,aI a,aI b] (.cD [(df op a b).1.enc,aI (df op a b).2]):=by
 have q1:=Ju a b ha hb;have q2:=Ma a b ha hb;have q3:=Ln a b ha hb;have q4:=fun h=>JZ a b ha hb h;have q5:=fun h=>Ll a b ha hb h;refine zf true 0 Tryz.func134 Tryz.ntmps134 ?_;dsimp only[Tmp,TypeId,slotsOf];refine aA (ah ?_);refine bX (ah ?_);refine ai ?_;refine aA (ah ?_);apply aP rfl<;>intro h
 ·have e:op=1:=by simpa using h
  refine aA ?_;refine .inl ⟨_,q1,by simp only[aw,ae.upto,zt],ao ?_⟩;refine .inl ⟨_,cX _,by simp[aw,ae.upto,uY],ao ?_⟩;simp -dsimp only[simprocAttr,↓aa,zp,dt];refine ah ?_;refine aq ?_;simp -dsimp only[simprocAttr,↓aa,zp,zr,Tryz.results134,fE];simp[df,e,l9]
 have e1:op≠1:=by simpa using h
 refine aA (ah ?_);apply aP rfl<;>intro h
 ·have e:op=2:=by simpa using h
  refine aA ?_;refine .inl ⟨_,q2,by simp only[aw,ae.upto,zt],ao ?_⟩;refine .inl ⟨_,cX _,by simp[aw,ae.upto,uY],ao ?_⟩;simp -dsimp only[simprocAttr,↓aa,zp,dt];refine ah ?_;refine aq ?_;simp -dsimp only[simprocAttr,↓aa,zp,zr,Tryz.results134,fE];simp[df,e,l9]
 have e2:op≠2:=by simpa using h
 refine aA (ah ?_);apply aP rfl<;>intro h
 ·have e:op=3:=by simpa using h
  refine aA ?_;refine .inl ⟨_,q3,by simp only[aw,ae.upto,zt],ao ?_⟩;refine .inl ⟨_,cX _,by simp[aw,ae.upto,uY],ao ?_⟩;simp -dsimp only[simprocAttr,↓aa,zp,dt];refine ah ?_;refine aq ?_;simp -dsimp only[simprocAttr,↓aa,zp,zr,Tryz.results134,fE];simp[df,e,l9]
 have e3:op≠3:=by simpa using h
 refine aA (ah ?_);apply aP rfl<;>intro h
 ·have e:op=6:=by simpa using h
  refine aA ?_;refine .inl ⟨_,w9 _,by simp only[aw,ae.upto,zt],ao ?_⟩;simp -dsimp only[simprocAttr,↓aa,zp,dt];refine ah ?_;refine aq ?_;simp -dsimp only[simprocAttr,↓aa,zp,zr,Tryz.results134,fE];simp[df,e,l9]
 have e6:op≠6:=by simpa using h
 refine aA (ah ?_);apply aP rfl<;>intro h
 ·have e:op=7:=by simpa using h
  refine aA ?_;refine .inl ⟨_,w9 _,by simp only[aw,ae.upto,zt],ao ?_⟩;simp -dsimp only[simprocAttr,↓aa,zp,dt];refine ah ?_;refine aq ?_;simp -dsimp only[simprocAttr,↓aa,zp,zr,Tryz.results134,fE];simp[df,e,l9]
 have e7:op≠7:=by simpa using h
 refine la ?_;refine bX (ah ?_);apply aP rfl<;>intro h
 ·have e:b=0:=by simpa using h
  refine aA (ah ?_);refine aq ?_;simp -dsimp only[simprocAttr,↓aa,zp,zr,Tryz.results134,cv];simp[df,e1,e2,e3,e6,e7,e,fW]
 have e0:b≠0:=by simpa using h
 refine cd ?_;refine bX (ah ?_);apply aP rfl<;>intro h
 ·have e:op=4:=by simpa using h
  refine aA ?_;refine zi (q4 e0) ?_;refine ah ?_;refine aA ?_;refine .inl ⟨_,cX _,by simp only[aw,ae.upto,zt],ao ?_⟩;simp -dsimp only[simprocAttr,↓aa,zp,dt];refine ah ?_;refine aq ?_;simp -dsimp only[simprocAttr,↓aa,zp,zr,Tryz.results134,fE];simp[df,e,l9,e0]
 have e4:op≠4:=by simpa using h
 refine cd ?_;refine aA ?_;refine zi (q5 e0) ?_;refine ah ?_;refine aA ?_;refine .inl ⟨_,cX _,by simp only[aw,ae.upto,zt],ao ?_⟩;simp -dsimp only[simprocAttr,↓aa,zp,dt];refine ah ?_;refine aq ?_;simp -dsimp only[simprocAttr,↓aa,zp,zr,Tryz.results134,fE];simp[df,e1,e2,e3,e4,e6,e7,l9,e0]
theorem gf{l:List SV}{k:Nat}{v:SV}(h:l[k]?=some v):b8 l k=v:=by simp[b8,h]
theorem wP{k:Nat}{v:SV}{m:Int}(h:SV.bp k v):aw k [v.enc,.v (.int .i64 m)]:=⟨h.aQ,trivial,trivial⟩
theorem nO{k:Nat}{v:SV}(h:SV.bp k v):∀x∈v.list,SV.bp k x:=by cases h;assumption
theorem CO{O:List aj}(bG:∀o∈O,o.upto O.length)(i:Ins)(args:List SV)(hl:∀v∈args,SV.bp O.length v)(o:SV)(h0:args[0]?=some o)
  (hp:i.op≠10->i.op≠11->i.op≠12->∃p,args[1]?=some p) (hn:i.op=11->0<=i.n) :
  bd Tryz.prog 135 O [i.enc,.aC 4 (args.map SV.enc) .sh] (fun r O'=>r=.cD [(cV i args).1.enc,aI (cV i args).2]∧O'=O):=by
 have hou:=hl o (List.mem_of_getElem? h0);have ha:=gf h0;refine zf true O.length Tryz.func135 Tryz.ntmps135 ?_;dsimp only[Tmp,TypeId,slotsOf];refine aA (ah ?_);refine aS ?_;simp -dsimp only[simprocAttr,↓aa,zp,h0];refine ah ?_;refine aJ (ai ?_);refine aA (ah ?_);apply aP rfl<;>intro h
 ·have e:i.op=11:=by simpa using h
  by_cases hk:o.kind=1∨o.kind=2
  ·have hd:(decide (o.kind=1)=true)∨(decide (o.kind=1)=false∧decide (o.kind=2)=true):=by
    rcases hk with hk|hk
    ·exact .inl (decide_eq_true hk)
    exact .inr ⟨decide_eq_false (by omega),decide_eq_true hk⟩
   have W3:¬(o.kind≠1∧o.kind≠2):=by omega
   have vX:=hn e;by_cases hlen:(o.list.length:Int)<=i.n
   ·have ll:decide ((o.list.length:Int)<=i.n)=true:=decide_eq_true hlen;rcases hd with hd|⟨hd,pE⟩
    ·refine c9 ?_;simp -dsimp only[simprocAttr,↓aa,zp,hd,ll];refine ah ?_;refine cH rfl ?_;refine aA (ah ?_);refine aq ?_;simp -dsimp only[simprocAttr,↓aa,zp,zr,Tryz.results135,cv];refine⟨bG,fW,?_⟩;simp[cV,e,ha,hlen]
    refine c9 ?_;simp -dsimp only[simprocAttr,↓aa,zp,hd,pE,ll];refine ah ?_;refine cH rfl ?_;refine aA (ah ?_);refine aq ?_;simp -dsimp only[simprocAttr,↓aa,zp,zr,Tryz.results135,cv];refine⟨bG,fW,?_⟩;simp[cV,e,ha,hlen]
   have ll:decide ((o.list.length:Int)<=i.n)=false:=decide_eq_false hlen;obtain⟨x,hx⟩:∃x,o.list[i.n.toNat]?=some x:=⟨o.list[i.n.toNat]'(by omega),List.getElem?_eq_getElem _⟩
   have GI:=nO hou x (List.mem_of_getElem? hx);have vR:=gf hx;rcases hd with hd|⟨hd,pE⟩
   ·refine c9 ?_;simp -dsimp only[simprocAttr,↓aa,zp,hd,ll];refine ah ?_;refine cr rfl ?_;refine cd ?_;refine aS ?_;simp -dsimp only[simprocAttr,↓aa,zp,hx]
    repeat(refine⟨by omega,?_⟩)
    refine ah ?_;refine aq ?_;simp -dsimp only[simprocAttr,↓aa,zp,zr,Tryz.results135];refine⟨bG,wP GI,?_⟩;simp[cV,e,ha,hlen,vR,W3]
   refine c9 ?_;simp -dsimp only[simprocAttr,↓aa,zp,hd,pE,ll];refine ah ?_;refine cr rfl ?_;refine cd ?_;refine aS ?_;simp -dsimp only[simprocAttr,↓aa,zp,hx]
   repeat(refine⟨by omega,?_⟩)
   refine ah ?_;refine aq ?_;simp -dsimp only[simprocAttr,↓aa,zp,zr,Tryz.results135];refine⟨bG,wP GI,?_⟩;simp[cV,e,ha,hlen,vR,W3]
  have Gx:decide (o.kind=1)=false:=decide_eq_false (by omega);have Gy:decide (o.kind=2)=false:=decide_eq_false (by omega);have W3:o.kind≠1∧o.kind≠2:=by omega
  refine c9 ?_;simp -dsimp only[simprocAttr,↓aa,zp,Gx,Gy];refine ah ?_;refine cH rfl ?_;refine aA (ah ?_);refine aq ?_;simp -dsimp only[simprocAttr,↓aa,zp,zr,Tryz.results135,cv];refine⟨bG,fW,?_⟩;simp[cV,e,ha,W3]
 have TC:i.op≠11:=by simpa using h
 refine aA (ah ?_);apply aP rfl<;>intro h
 ·have hk:o.kind≠1:=by simpa using h
  refine aA (ah ?_);refine aq ?_;simp -dsimp only[simprocAttr,↓aa,zp,zr,Tryz.results135,cv];refine⟨bG,fW,?_⟩;simp[cV,TC,ha,hk]
 have hk:o.kind=1:=by simpa using h
 refine aA (ah ?_);apply aP rfl<;>intro h
 ·have RL:i.op=10:=by simpa using h
  refine aA ?_;refine .inl ⟨_,cX o.n,by simp only[aw,ae.upto,zt],ao ?_⟩;simp -dsimp only[simprocAttr,↓aa,zp,dt];refine ah ?_;refine aq ?_;simp -dsimp only[simprocAttr,↓aa,zp,zr,Tryz.results135,fE];refine⟨bG,l9,?_⟩;simp[cV,RL,ha,hk]
 have RL:i.op≠10:=by simpa using h
 refine aA (ah ?_);apply aP rfl<;>intro h
 ·have RM:i.op=12:=by simpa using h
  refine aA ?_;refine .inl ⟨_,cX o.list.length,by simp only[aw,ae.upto,zt],ao ?_⟩;simp -dsimp only[simprocAttr,↓aa,zp,dt];refine ah ?_;refine aq ?_;simp -dsimp only[simprocAttr,↓aa,zp,zr,Tryz.results135,fE];refine⟨bG,l9,?_⟩;simp[cV,RM,ha,hk]
 have RM:i.op≠12:=by simpa using h
 obtain⟨p,h1⟩:=hp RL TC RM;have hb:=gf h1;refine aS ?_;simp -dsimp only[simprocAttr,↓aa,zp,h1];refine ah ?_;apply aP rfl<;>intro h
 ·have GB:p.kind≠0:=by simpa using h
  refine aA (ah ?_);refine aq ?_;simp -dsimp only[simprocAttr,↓aa,zp,zr,Tryz.results135,cv];refine⟨bG,fW,?_⟩;simp[cV,RL,TC,RM,ha,hb,hk,GB]
 have GB:p.kind=0:=by simpa using h
 by_cases iK:p.n<0
 ·have ll:decide (p.n<0)=true:=decide_eq_true iK;refine aS ?_;simp -dsimp only[simprocAttr,↓aa,zp,h1,ll];refine⟨ob (by kernel_rfl),?_⟩;refine ah ?_;refine cH rfl ?_;refine aA (ah ?_);refine aq ?_;simp -dsimp only[simprocAttr,↓aa,zp,zr,Tryz.results135,cv];refine⟨bG,fW,?_⟩;simp[cV,RL,TC,RM,ha,hb,hk,GB,iK]
 have ll:decide (p.n<0)=false:=decide_eq_false iK;by_cases hlen:(o.list.length:Int)<=p.n
 ·have qi:decide ((o.list.length:Int)<=p.n)=true:=decide_eq_true hlen;refine aS ?_;simp -dsimp only[simprocAttr,↓aa,zp,h1,ll,qi];refine⟨ob (by kernel_rfl),?_⟩;refine ah ?_;refine cH rfl ?_;refine aA (ah ?_);refine aq ?_;simp -dsimp only[simprocAttr,↓aa,zp,zr,Tryz.results135,cv];refine⟨bG,fW,?_⟩;simp[cV,RL,TC,RM,ha,hb,hk,GB,iK,hlen]
 have qi:decide ((o.list.length:Int)<=p.n)=false:=decide_eq_false hlen;obtain⟨x,hx⟩:∃x,o.list[p.n.toNat]?=some x:=⟨o.list[p.n.toNat]'(by omega),List.getElem?_eq_getElem _⟩
 have GI:=nO hou x (List.mem_of_getElem? hx);have vR:=gf hx;refine aS ?_;simp -dsimp only[simprocAttr,↓aa,zp,h1,ll,qi];refine⟨ob (by kernel_rfl),?_⟩;refine ah ?_;refine cr rfl ?_;refine la ?_;refine aS ?_;simp -dsimp only[simprocAttr,↓aa,zp,h1,hx]
 repeat(refine⟨by omega,?_⟩)
 refine⟨ob (by kernel_rfl),?_⟩;refine ah ?_;refine aq ?_;simp -dsimp only[simprocAttr,↓aa,zp,zr,Tryz.results135];refine⟨bG,wP GI,?_⟩;simp[cV,RL,TC,RM,ha,hb,hk,GB,iK,hlen,vR]
theorem zw{op:Int}:∀{l r:List SV} {k:Nat} {x y:SV},l[k]?=some x->r[k]?=some y->kY op (l.take (k+1)) (r.take (k+1))=kY op (l.take k) (r.take k)++[(df op x.n y.n).1]
 | a::l,b::r,0,x,y,h1,h2=>by
  simp only[List.getElem?_cons_zero,Option.some.injEq]at h1 h2;subst h1;subst h2;simp[kY]
 | a::l,b::r,k+1,x,y,h1,h2=>by
  have ih:=zw (op:=op) (l:=l) (r:=r) (k:=k) (by simpa using h1) (by simpa using h2);simp only[List.take_succ_cons,kY,List.cons_append];rw[ih]
theorem xj{op:Int}:∀(l r:List SV),(kY op l r).length=min l.length r.length
 | [],_=>by simp[kY]
 | _::_,[]=>by simp[kY]
 | a::l,b::r=>by simp[kY,xj l r]
theorem qd(k:Nat)(op a b:Int):SV.bp k (df op a b).1:=by
 unfold df
 repeat' split
 all_goals exact xh _ _
theorem qY{op:Int}{k:Nat}:∀(l r:List SV),∀v∈kY op l r,SV.bp k v
 | [],_,v,h=>by simp[kY]at h
 | _::_,[],v,h=>by simp[kY]at h
 | a::l,b::r,v,h=>by
  simp only[kY,List.mem_cons]at h;rcases h with rfl|h
  ·exact qd _ _ _ _
  exact qY l r v h
theorem Dm{O:List aj}(bG:∀o∈O,o.upto O.length)(i:Ins)(args:List SV)(hl:∀v∈args,SV.bp O.length v)(h1:i.op=24->∃x,args[0]?=some x)(h2:i.op≠22->i.op≠24->∃x y,args=[x,y])
  (hn:i.op=24->0<=i.n) (hw:∀v∈args,v.kind=4->v.list.length<=1000∧∀x∈v.list,fU x.n) :
  bd Tryz.prog 136 O [i.enc,.aC 4 (args.map SV.enc) .sh] (fun r O'=>r=.cD [(di i args).1.enc,aI (di i args).2]∧O'=O):=by
 have KS:∀l:List SV,ae.agg [aI 4,aI 0,.aC 4 (l.map SV.enc) .sh,.v (.pointer none)]=(SV.mk 4 0 l none).enc:=fun l=>(SV.jN 4 0 l none).symm;refine zf true O.length Tryz.func136 Tryz.ntmps136 ?_;dsimp only[Tmp,TypeId,slotsOf];refine aA (ah ?_);refine b7 2 0 ([aI i.to,aI i.op,aI i.n,aK i.args]) rfl rfl (by rfl) ?_;simp -dsimp only[simprocAttr,↓aa,zp];refine bX (ah ?_);refine ai ?_;refine aA (ah ?_);apply aP rfl<;>intro h
 ·have e:i.op=22:=by simpa using h
  refine bX ?_;refine .inr (.inr ⟨_,zD bG args hl 0 _,ao (zj ?_)⟩);refine ah ?_;cases cz:lf args 0 with
  | true =>
   apply aP rfl<;>intro h
   ·simp[cz]at h
   refine cd ?_;refine aA (ah ?_);refine aq ?_;simp -dsimp only[simprocAttr,↓aa,zp,zr,Tryz.results136,KS];have hz:=(SV.bp.mk (k:=4) (m:=0) (a:=none) (by simp) hl).aQ;rw[SV.jN]at hz;refine⟨bG,⟨hz,trivial,trivial⟩,?_⟩;simp[di,e,cz,SV.jN]
  | false =>
   apply aP rfl<;>intro h
   ·refine aA (ah ?_);refine aq ?_;simp -dsimp only[simprocAttr,↓aa,zp,zr,Tryz.results136,cv];refine⟨bG,fW,?_⟩;simp[di,e,cz]
   simp[cz]at h
 have M4:i.op≠22:=by simpa using h
 refine aA (ah ?_);apply aP rfl<;>intro h
 ·have e:i.op=24:=by simpa using h
  obtain⟨x,hx⟩:=h1 e;have vR:=gf hx;have vX:=hn e;have GI:=hl x (List.mem_of_getElem? hx);by_cases hk:x.kind=4
  ·have hd:decide (x.kind=4)=true:=decide_eq_true hk;by_cases hlen:(x.list.length:Int)<=i.n
   ·have ll:decide ((x.list.length:Int)<=i.n)=true:=decide_eq_true hlen;refine c9 ?_;simp -dsimp only[simprocAttr,↓aa,zp,hx,hd,ll];refine⟨ob (by kernel_rfl),?_⟩;refine ah ?_;refine cH rfl ?_;refine aA (ah ?_);refine aq ?_;simp -dsimp only[simprocAttr,↓aa,zp,zr,Tryz.results136,cv];refine⟨bG,fW,?_⟩;simp[di,e,vR,hlen]
   have ll:decide ((x.list.length:Int)<=i.n)=false:=decide_eq_false hlen;obtain⟨z,hz⟩:∃z,x.list[i.n.toNat]?=some z:=⟨x.list[i.n.toNat]'(by omega),List.getElem?_eq_getElem _⟩
   have OY:=nO GI z (List.mem_of_getElem? hz);have UN:=gf hz;refine c9 ?_;simp -dsimp only[simprocAttr,↓aa,zp,hx,hd,ll];refine⟨ob (by kernel_rfl),?_⟩;refine ah ?_;refine cr rfl ?_;refine cd ?_;refine aS ?_;simp -dsimp only[simprocAttr,↓aa,zp,hx,hz]
   repeat(refine⟨by omega,?_⟩)
   refine⟨ob (by kernel_rfl),?_⟩;refine ah ?_;refine aq ?_;simp -dsimp only[simprocAttr,↓aa,zp,zr,Tryz.results136];refine⟨bG,wP OY,?_⟩;simp[di,e,vR,hlen,hk,UN]
  have hd:decide (x.kind=4)=false:=decide_eq_false hk;refine c9 ?_;simp -dsimp only[simprocAttr,↓aa,zp,hx,hd];refine⟨ob (by kernel_rfl),?_⟩;refine ah ?_;refine cH rfl ?_;refine aA (ah ?_);refine aq ?_;simp -dsimp only[simprocAttr,↓aa,zp,zr,Tryz.results136,cv];refine⟨bG,fW,?_⟩;simp[di,e,vR,hk]
 have QN:i.op≠24:=by simpa using h
 obtain⟨x,y,e⟩:=h2 M4 QN;subst e;have cz:=zD bG [x,y] hl 4;cases hk:lf [x,y] 4 with
 | false =>
  simp only[hk,List.map_cons,List.map_nil]at cz;refine la ?_;refine bX ?_;refine .inr (.inr ⟨_,cz _,ao (zj ?_)⟩);refine⟨ob (by kernel_rfl),?_⟩;refine ah ?_;refine cH rfl ?_;refine aA (ah ?_);refine aq ?_;simp -dsimp only[simprocAttr,↓aa,zp,zr,Tryz.results136,cv];refine⟨bG,fW,?_⟩;simp[di,M4,QN,hk]
 | true =>
  simp only[hk,List.map_cons,List.map_nil]at cz;by_cases hlen:x.list.length=y.list.length
  ·have hd:decide ((x.list.length:Int)=y.list.length)=true:=decide_eq_true (by omega);refine la ?_;refine bX ?_;refine .inr (.inr ⟨_,cz _,ao ?_⟩);simp -dsimp only[simprocAttr,↓aa,zp,hd];refine⟨ob (by kernel_rfl),?_⟩;refine ah ?_;apply aP rfl<;>intro h
   ·cases h
   refine cd ?_;refine aA (ah ?_);refine db (O.length+2) 2 (by rw[lQ];rfl) rfl ?_;simp -dsimp only[simprocAttr,↓aa,zp];refine bX (ah ?_);refine gg 68 rfl (fun Vt=>?_);simp only[List.length_map]at Vt;have gl:x.kind=4∧y.kind=4:=by simpa[lf]using hk
   obtain⟨Bk,YW⟩:=hw x (by simp) gl.1;obtain⟨YX,YZ⟩:=hw y (by simp) gl.2;refine ai (aO (ι:={j:Nat // j<=x.list.length}) (fun j=>⟨99,[(1,.aC 4 [x.enc,y.enc] .sh),(2,.ip none [aI i.to,aI i.op,aI i.n,aK i.args]),(4,.mp (O.length+1) 0),(5,aI 0),(6,.mp (O.length+2) 0),(68,.aC 4 (x.list.map SV.enc) .sh),(69,aI x.list.length),(70,aI j.1)],O++[.gone,.cells [aI 0,aI 0,.aC 4 [] .ex,.v (.pointer none)],.cells [aI 4,aI 0,.aC 4 ((kY i.n (x.list.take j.1) (y.list.take j.1)).map SV.enc) (.tok (O.length+3)),.v (.pointer none)],.spare j.1]⟩) (fun j=>x.list.length-j.1) ⟨0,by omega⟩ ?_ ?_)
   ·refine zq rfl ?_ ?_;simp -dsimp only[simprocAttr,↓aa,zp,zc];simp[kY]
   rintro⟨j,hj⟩;have Al:(kY i.n (x.list.take j) (y.list.take j)).length=j:=by
    rw[xj,List.length_take,List.length_take];omega
   refine aA (ah ?_);apply iz rfl<;>intro h
   ·refine cd ?_;have bg:j<x.list.length:=by simpa using h
    obtain⟨a,ha⟩:∃a,x.list[j]?=some a:=⟨x.list[j],by simp[bg]⟩
    obtain⟨b,hb⟩:∃b,y.list[j]?=some b:=⟨y.list[j]'(by omega),List.getElem?_eq_getElem _⟩
    have haw:=YW a (List.mem_of_getElem? ha);have UW:=YZ b (List.mem_of_getElem? hb);refine aJ (ai ?_);refine aS ?_;simp -dsimp only[simprocAttr,↓aa,zp,ha];refine ah ?_;refine b7 8 4 ([aI a.kind,aI a.n,.aC 4 (a.list.map SV.enc) .sh,eP a.arr]) rfl rfl (by simp only[List.map_cons,List.map_nil,cK,b9,dN,dO,dM,dK,dL,cn]) ?_;simp -dsimp only[simprocAttr,↓aa,zp];refine aS ?_;simp -dsimp only[simprocAttr,↓aa,zp,hb];refine zi (tv i.n a.n b.n haw UW) ?_;refine⟨ob (by kernel_rfl),?_⟩;refine ah ?_;generalize hB:(df i.n a.n b.n).1=B;refine b7 9 5 ([aI B.kind,aI B.n,.aC 4 (B.list.map SV.enc) .sh,eP B.arr]) rfl rfl (by simp only[List.map_cons,List.map_nil,cK,b9,dN,dO,dM,dK,dL,cn]) ?_;simp -dsimp only[simprocAttr,↓aa,zp];refine kC ?_;simp -dsimp only[simprocAttr,↓aa,zp,Al]
    repeat(refine⟨by omega,?_⟩)
    refine ah ?_;have Am:=zw (op:=i.n) ha hb;rw[hB]at Am;have GI:=(hl x (by simp)).mono (show O.length<=O.length+4 by omega);have We:=(hl y (by simp)).mono (show O.length<=O.length+4 by omega);have OY:=SV.ag (n:=O.length+4) (qY (op:=i.n) (x.list.take (j+1)) (y.list.take (j+1)));rw[Am,List.map_append,List.map_cons,List.map_nil]at OY;have YV:=SV.ag (nO GI);refine NG 4 ([.gone,.cells [aI 0,aI 0,.aC 4 [] .ex,.v (.pointer none)],.cells [aI 4,aI 0,.aC 4 ((kY i.n (x.list.take j) (y.list.take j)).map SV.enc++[B.enc]) (.tok (O.length+3)),.v (.pointer none)],.spare (j+1)]) [(1,.aC 4 [x.enc,y.enc] .sh),(2,.ip none [aI i.to,aI i.op,aI i.n,aK i.args]),(4,.mp (O.length+1) 0),(5,aI 0),(6,.mp (O.length+2) 0),(68,.aC 4 (x.list.map SV.enc) .sh),(69,aI x.list.length),(70,aI j)] rfl (by simp) (by omega) (by simp[bF,bh,Go.Av.look]) ?_ ?_ ?_ ?_
    ·exact fun o ho=>aj.cj (by omega) (bG o ho)
    ·simp[aj.upto,aw,ae.upto,OY]
    ·simp[aw,ae.upto,az,GI.aQ,We.aQ,YV]
    refine cT ?_
    repeat(refine⟨by omega,?_⟩)
    refine fK ?_;refine⟨⟨j+1,bg⟩,by simp;omega,?_⟩;refine zq rfl ?_ ?_;simp -dsimp only[simprocAttr,↓aa,zp,zc]
    ·exact Sub.int (by simp)
    simp only[Am,List.map_append,List.map_cons,List.map_nil]
   refine aM ?_;simp -dsimp only[bS,ne_eq,Nat.reduceEqDiff,reduceCtorEq];have rK:j=x.list.length:=by simp at h;omega
   subst rK;have hy:y.list.take x.list.length=y.list:=by rw[hlen,List.take_length]
   have hz:=(SV.bp.mk (k:=4) (m:=0) (a:=none) (n:=O.length) (l:=kY i.n x.list y.list) (by simp) (qY _ _)).aQ;rw[SV.jN]at hz;refine aA (ah ?_);refine aq ?_;simp -dsimp only[simprocAttr,↓aa,zp,zr,Tryz.results136,hy];refine⟨bG,⟨hz,trivial,trivial⟩,?_⟩;have fG:b8 [x,y] 0=x∧b8 [x,y] 1=y:=⟨rfl,rfl⟩
   simp[di,M4,QN,hk,hlen,SV.jN,fG,eP]
  have hd:decide ((x.list.length:Int)=y.list.length)=false:=decide_eq_false (by omega);refine la ?_;refine bX ?_;refine .inr (.inr ⟨_,cz _,ao ?_⟩);simp -dsimp only[simprocAttr,↓aa,zp,hd];refine⟨ob (by kernel_rfl),?_⟩;refine ah ?_;refine cH rfl ?_;refine aA (ah ?_);refine aq ?_;simp -dsimp only[simprocAttr,↓aa,zp,zr,Tryz.results136,cv];refine⟨bG,fW,?_⟩;simp[di,M4,QN,hk,hlen,b8]
def kH(l:List Int)(n:Int):Int:=if l.findIdx (· == n)<l.length then(l.findIdx (· == n):Nat)else -1
theorem Ex{l:List Int}{n:Int}{k:Nat}(hk:l[k]?=some n)(h:∀x∈l.take k,x≠n):l.findIdx (· == n)=k:=by
 have bg:=I hk;have e:l=l.take k++n::l.drop (k+1):=by
  rw[List.getElem?_eq_getElem bg]at hk;simp only[Option.some.injEq]at hk
  conv=>lhs;rw[<-List.take_append_drop k l,List.drop_eq_getElem_cons bg,hk]
 have hn:(l.take k).findIdx (· == n)=(l.take k).length:=by
  rw[List.findIdx_eq_length];intro x hx;simpa using h x hx
 rw[e,List.findIdx_append,hn];simp[List.findIdx_cons];omega
theorem qI(l:List Int)(n:Int):bD Tryz.prog 66 [aK l,aI n] (aI (kH l n)):=by
 refine zf true 0 Tryz.func66 Tryz.ntmps66 ?_;dsimp only[Tmp,TypeId,slotsOf];refine aA (ah ?_);refine gg 0 rfl (fun hlen=>?_);simp only[List.length_map]at hlen;refine bX (ah ?_);refine ai (aO (ι:={j:Nat // j<=l.length∧∀x∈l.take j,x≠n}) (fun j=>⟨19,[(0,aK l),(1,aI n),(4,aI 0),(7,aI l.length),(8,aI j.1)],[]⟩) (fun j=>l.length-j.1) ⟨0,by omega,by simp⟩ ?_ ?_)
 ·refine zq rfl ?_ ?_;simp -dsimp only[simprocAttr,↓aa,zp,zc];rfl
 rintro⟨j,hj,cz⟩;refine aA (ah ?_);apply iz rfl<;>intro h
 ·refine cd ?_;have bg:j<l.length:=by simpa using h
  obtain⟨v,hv⟩:∃v,l[j]?=some v:=⟨l[j],by simp[bg]⟩
  refine aJ (ai ?_);refine aA (ah ?_);refine aS ?_;simp -dsimp only[simprocAttr,↓aa,zp,hv]
  repeat(refine⟨by omega,?_⟩)
  refine ah ?_;apply aP rfl<;>intro h
  ·have hk:n=v:=by simpa using h
   refine aA (ah ?_);refine aq ?_;simp -dsimp only[simprocAttr,↓aa,zp,zr,Tryz.results66];subst hk;have:=Ex hv cz;simp[kH,this,bg]
  refine la ?_;have hk:n≠v:=by simpa using h
  refine cT ?_
  repeat(refine⟨by omega,?_⟩)
  refine fK ?_;refine⟨⟨j+1,bg,fun w hw=>?_⟩,by simp;omega,?_⟩
  ·rw[List.take_add_one,hv]at hw;simp only[Option.toList_some,List.mem_append,List.mem_singleton]at hw;rcases hw with hw|rfl
   ·exact cz w hw
   exact fun e=>hk e.symm
  refine zq rfl ?_ ?_;simp -dsimp only[simprocAttr,↓aa,zp,zc]
  ·exact Sub.int (by simp)
  rfl
 refine aM ?_;simp -dsimp only[bS,ne_eq,Nat.reduceEqDiff,reduceCtorEq];have gl:j=l.length:=by simp at h;omega
 subst gl;refine aA (ah ?_);refine aq ?_;simp -dsimp only[simprocAttr,↓aa,zp,zr,Tryz.results66];rw[List.take_length]at cz;have:l.findIdx (· == n)=l.length:=by
  rw[List.findIdx_eq_length];intro x hx;simpa using cz x hx
 simp[kH,this]
theorem BK(t:Term)(n:Int)(ht:t.cases.length<=2 ^ 60):bD Tryz.prog 131 [t.enc,aI n] (aI (gJ t n)):=by
 have OH:=qI t.cases n;have hle:t.cases.findIdx (· == n)<=t.cases.length:=List.findIdx_le_length;refine zf true 0 Tryz.func131 Tryz.ntmps131 ?_;dsimp only[Tmp,TypeId,slotsOf];refine aA (ah ?_);refine bX (ah ?_);apply aP rfl<;>intro h
 ·have e:t.kind=2:=by simpa using h
  refine bX (ah ?_);apply aP rfl<;>intro h
  ·have e0:n≠0:=by simpa using h
   refine aA (ah ?_);refine aq ?_;simp -dsimp only[simprocAttr,↓aa,zp,zr,Tryz.results131];simp[gJ,e,e0]
  have e0:n=0:=by simpa using h
  refine cd ?_;refine aA (ah ?_);refine aq ?_;simp -dsimp only[simprocAttr,↓aa,zp,zr,Tryz.results131];simp[gJ,e,e0]
 have e:t.kind≠2:=by simpa using h
 refine cd ?_;by_cases hf:t.cases.findIdx (· == n)<t.cases.length
 ·have hI:kH t.cases n=(t.cases.findIdx (· == n):Nat):=by simp[kH,hf]
  rw[hI]at OH;generalize hq:t.cases.findIdx (· == n)=q at OH;refine bX ?_;refine zi OH ?_;refine ah ?_;refine aA (ah ?_);apply aP rfl<;>intro h
  ·refine aA (ah ?_);refine aq ?_;simp -dsimp only[simprocAttr,↓aa,zp,zr,Tryz.results131];simp[gJ,e,hq]
  simp at h
 have hI:kH t.cases n=-1:=by simp[kH,hf]
 rw[hI]at OH;have hq:t.cases.findIdx (· == n)=t.cases.length:=by omega
 refine bX ?_;refine zi OH ?_;refine ah ?_;refine aA (ah ?_);apply aP rfl<;>intro h
 ·simp at h
 refine cd ?_;refine aA (ah ?_);refine aq ?_;simp -dsimp only[simprocAttr,↓aa,zp,zr,Tryz.results131];simp[gJ,e,hq]
def fc(t:Term):Int:=if t.kind=1 then 1 else if t.kind=2 then 2 else if t.kind=3 then(t.cases.length:Int)+1 else 0
def sx(t:Term):Bool:=decide (t.kind=0) ||(decide (t.kind=2) ||decide (t.kind=3))
def ef(t:Term):Bool:=(decide (0<=t.kind)&&decide (t.kind<=4))&&(((decide ((t.to.length:Int)=fc t)&&(sx t ||decide (t.arg=0)))&&(decide (t.kind=4) ||decide (t.n=0)))&&(decide (t.kind=3) ||decide ((t.cases.length:Int)=0)))
theorem Po(t:Term)(hk:t.kind=0)(gK:t.cases.length<=2 ^ 60):bD Tryz.prog 110 [t.enc] (.v (.bool (ef t))):=by
 have he:fc t=0:=by simp[fc,hk]
 have ha:sx t=true:=by simp[sx,hk]
 unfold ef;rw[he,ha];have h0:decide (t.kind=0)=true:=decide_eq_true hk;have h4:decide (t.kind=4)=false:=decide_eq_false (by omega);have h3:decide (t.kind=3)=false:=decide_eq_false (by omega);have iK:decide (0<=t.kind)=true:=decide_eq_true (by omega);have pY:decide (t.kind<=4)=true:=decide_eq_true (by omega);rw[iK,pY,h3,h4];refine zf true 0 Tryz.func110 Tryz.ntmps110 ?_;dsimp only[Tmp,TypeId,slotsOf];refine aA (ah ?_);refine aA (ah ?_);refine bX (ah ?_);refine ai ?_;refine aS ?_;simp -dsimp only[simprocAttr,↓aa,zp,h0];refine ah ?_;refine cH rfl ?_;refine cT (ah ?_);cases hA:decide ((t.to.length:Int)=0)<;>cases hB:decide (t.arg=0)<;>cases hC:decide (t.n=0)<;>cases hD:decide ((t.cases.length:Int)=0)
 all_goals
  refine aS ?_;simp -dsimp only[simprocAttr,↓aa,zp,hA,hB,hC,hD];refine ah ?_;refine aq ?_;simp -dsimp only[simprocAttr,↓aa,zp,zr,Tryz.results110,Bool.true_or,Bool.false_or,Bool.or_true,Bool.or_false,Bool.true_and,Bool.false_and,Bool.and_true,Bool.and_false]
theorem Pp(t:Term)(hk:t.kind=1)(gK:t.cases.length<=2 ^ 60):bD Tryz.prog 110 [t.enc] (.v (.bool (ef t))):=by
 have he:fc t=1:=by simp[fc,hk]
 have ha:sx t=false:=by simp[sx,hk]
 unfold ef;rw[he,ha];have h0:decide (t.kind=0)=false:=decide_eq_false (by omega);have h1:decide (t.kind=1)=true:=decide_eq_true hk;have h4:decide (t.kind=4)=false:=decide_eq_false (by omega);have h3:decide (t.kind=3)=false:=decide_eq_false (by omega);have iK:decide (0<=t.kind)=true:=decide_eq_true (by omega);have pY:decide (t.kind<=4)=true:=decide_eq_true (by omega);rw[iK,pY,h3,h4];refine zf true 0 Tryz.func110 Tryz.ntmps110 ?_;dsimp only[Tmp,TypeId,slotsOf];refine aA (ah ?_);refine aA (ah ?_);refine bX (ah ?_);refine ai ?_;refine aS ?_;simp -dsimp only[simprocAttr,↓aa,zp,h0];refine ah ?_;refine cr rfl ?_;refine aS ?_;simp -dsimp only[simprocAttr,↓aa,zp,h1];refine ah ?_;refine cH rfl ?_;refine cT (ah ?_);cases hA:decide ((t.to.length:Int)=1)<;>cases hB:decide (t.arg=0)<;>cases hC:decide (t.n=0)<;>cases hD:decide ((t.cases.length:Int)=0)
 all_goals
  refine aS ?_;simp -dsimp only[simprocAttr,↓aa,zp,hA,hB,hC,hD];refine ah ?_;refine aq ?_;simp -dsimp only[simprocAttr,↓aa,zp,zr,Tryz.results110,Bool.true_or,Bool.false_or,Bool.or_true,Bool.or_false,Bool.true_and,Bool.false_and,Bool.and_true,Bool.and_false]
theorem Pq(t:Term)(hk:t.kind=2)(gK:t.cases.length<=2 ^ 60):bD Tryz.prog 110 [t.enc] (.v (.bool (ef t))):=by
 have he:fc t=2:=by simp[fc,hk]
 have ha:sx t=true:=by simp[sx,hk]
 unfold ef;rw[he,ha];have h0:decide (t.kind=0)=false:=decide_eq_false (by omega);have h1:decide (t.kind=1)=false:=decide_eq_false (by omega);have h2:decide (t.kind=2)=true:=decide_eq_true hk;have h4:decide (t.kind=4)=false:=decide_eq_false (by omega);have h3:decide (t.kind=3)=false:=decide_eq_false (by omega);have iK:decide (0<=t.kind)=true:=decide_eq_true (by omega);have pY:decide (t.kind<=4)=true:=decide_eq_true (by omega);rw[iK,pY,h3,h4];refine zf true 0 Tryz.func110 Tryz.ntmps110 ?_;dsimp only[Tmp,TypeId,slotsOf];refine aA (ah ?_);refine aA (ah ?_);refine bX (ah ?_);refine ai ?_;refine aS ?_;simp -dsimp only[simprocAttr,↓aa,zp,h0];refine ah ?_;refine cr rfl ?_;refine aS ?_;simp -dsimp only[simprocAttr,↓aa,zp,h1];refine ah ?_;refine cr rfl ?_;refine aS ?_;simp -dsimp only[simprocAttr,↓aa,zp,h2];refine ah ?_;refine cH rfl ?_;refine cT (ah ?_);cases hA:decide ((t.to.length:Int)=2)<;>cases hB:decide (t.arg=0)<;>cases hC:decide (t.n=0)<;>cases hD:decide ((t.cases.length:Int)=0)
 all_goals
  refine aS ?_;simp -dsimp only[simprocAttr,↓aa,zp,hA,hB,hC,hD];refine ah ?_;refine aq ?_;simp -dsimp only[simprocAttr,↓aa,zp,zr,Tryz.results110,Bool.true_or,Bool.false_or,Bool.or_true,Bool.or_false,Bool.true_and,Bool.false_and,Bool.and_true,Bool.and_false]
theorem Pr(t:Term)(hk:t.kind=3)(gK:t.cases.length<=2 ^ 60):bD Tryz.prog 110 [t.enc] (.v (.bool (ef t))):=by
 have he:fc t=(t.cases.length:Int)+1:=by simp[fc,hk]
 have ha:sx t=true:=by simp[sx,hk]
 unfold ef;rw[he,ha];have h0:decide (t.kind=0)=false:=decide_eq_false (by omega);have h1:decide (t.kind=1)=false:=decide_eq_false (by omega);have h2:decide (t.kind=2)=false:=decide_eq_false (by omega);have h3:decide (t.kind=3)=true:=decide_eq_true hk;have h4:decide (t.kind=4)=false:=decide_eq_false (by omega);have iK:decide (0<=t.kind)=true:=decide_eq_true (by omega);have pY:decide (t.kind<=4)=true:=decide_eq_true (by omega);rw[iK,pY,h3,h4];refine zf true 0 Tryz.func110 Tryz.ntmps110 ?_;dsimp only[Tmp,TypeId,slotsOf];refine aA (ah ?_);refine aA (ah ?_);refine bX (ah ?_);refine ai ?_;refine aS ?_;simp -dsimp only[simprocAttr,↓aa,zp,h0];refine ah ?_;refine cr rfl ?_;refine aS ?_;simp -dsimp only[simprocAttr,↓aa,zp,h1];refine ah ?_;refine cr rfl ?_;refine aS ?_;simp -dsimp only[simprocAttr,↓aa,zp,h2];refine ah ?_;refine cr rfl ?_;refine aS ?_;simp -dsimp only[simprocAttr,↓aa,zp,h3];refine ah ?_;refine cH rfl ?_;refine cT ?_
 repeat(refine⟨by omega,?_⟩)
 refine ah ?_;cases hA:decide ((t.to.length:Int)=(t.cases.length:Int)+1)<;>cases hB:decide (t.arg=0)<;>cases hC:decide (t.n=0)<;>cases hD:decide ((t.cases.length:Int)=0)
 all_goals
  refine aS ?_;simp -dsimp only[simprocAttr,↓aa,zp,hA,hB,hC,hD];refine ah ?_;refine aq ?_;simp -dsimp only[simprocAttr,↓aa,zp,zr,Tryz.results110,Bool.true_or,Bool.false_or,Bool.or_true,Bool.or_false,Bool.true_and,Bool.false_and,Bool.and_true,Bool.and_false]
theorem Pt(t:Term)(hk:t.kind=4)(gK:t.cases.length<=2 ^ 60):bD Tryz.prog 110 [t.enc] (.v (.bool (ef t))):=by
 have he:fc t=0:=by simp[fc,hk]
 have ha:sx t=false:=by simp[sx,hk]
 unfold ef;rw[he,ha];have h0:decide (t.kind=0)=false:=decide_eq_false (by omega);have h1:decide (t.kind=1)=false:=decide_eq_false (by omega);have h2:decide (t.kind=2)=false:=decide_eq_false (by omega);have h3:decide (t.kind=3)=false:=decide_eq_false (by omega);have h4:decide (t.kind=4)=true:=decide_eq_true hk;have iK:decide (0<=t.kind)=true:=decide_eq_true (by omega);have pY:decide (t.kind<=4)=true:=decide_eq_true (by omega);rw[iK,pY,h3,h4];refine zf true 0 Tryz.func110 Tryz.ntmps110 ?_;dsimp only[Tmp,TypeId,slotsOf];refine aA (ah ?_);refine aA (ah ?_);refine bX (ah ?_);refine ai ?_;refine aS ?_;simp -dsimp only[simprocAttr,↓aa,zp,h0];refine ah ?_;refine cr rfl ?_;refine aS ?_;simp -dsimp only[simprocAttr,↓aa,zp,h1];refine ah ?_;refine cr rfl ?_;refine aS ?_;simp -dsimp only[simprocAttr,↓aa,zp,h2];refine ah ?_;refine cr rfl ?_;refine aS ?_;simp -dsimp only[simprocAttr,↓aa,zp,h3];refine ah ?_;refine cr rfl ?_;refine aS ?_;simp -dsimp only[simprocAttr,↓aa,zp,h4];refine ah ?_;refine cH rfl ?_;refine cT (ah ?_);cases hA:decide ((t.to.length:Int)=0)<;>cases hB:decide (t.arg=0)<;>cases hC:decide (t.n=0)<;>cases hD:decide ((t.cases.length:Int)=0)
 all_goals
  refine aS ?_;simp -dsimp only[simprocAttr,↓aa,zp,hA,hB,hC,hD];refine ah ?_;refine aq ?_;simp -dsimp only[simprocAttr,↓aa,zp,zr,Tryz.results110,Bool.true_or,Bool.false_or,Bool.or_true,Bool.or_false,Bool.true_and,Bool.false_and,Bool.and_true,Bool.and_false]
theorem Dc(t:Term)(hk:¬(0<=t.kind∧t.kind<=4)):bD Tryz.prog 110 [t.enc] (.v (.bool (ef t))):=by
 have hr:ef t=false:=by
  unfold ef;have:(decide (0<=t.kind)&&decide (t.kind<=4))=false:=by
   by_cases h0:0<=t.kind<;>by_cases h4:t.kind<=4<;>simp[h0,h4]<;>omega
  rw[this];rfl
 rw[hr];have h0:decide (t.kind=0)=false:=decide_eq_false (by omega);have h1:decide (t.kind=1)=false:=decide_eq_false (by omega);have h2:decide (t.kind=2)=false:=decide_eq_false (by omega);have h3:decide (t.kind=3)=false:=decide_eq_false (by omega);have h4:decide (t.kind=4)=false:=decide_eq_false (by omega);refine zf true 0 Tryz.func110 Tryz.ntmps110 ?_;dsimp only[Tmp,TypeId,slotsOf];refine aA (ah ?_);refine aA (ah ?_);refine bX (ah ?_);refine ai ?_;refine aS ?_;simp -dsimp only[simprocAttr,↓aa,zp,h0];refine ah ?_;refine cr rfl ?_;refine aS ?_;simp -dsimp only[simprocAttr,↓aa,zp,h1];refine ah ?_;refine cr rfl ?_;refine aS ?_;simp -dsimp only[simprocAttr,↓aa,zp,h2];refine ah ?_;refine cr rfl ?_;refine aS ?_;simp -dsimp only[simprocAttr,↓aa,zp,h3];refine ah ?_;refine cr rfl ?_;refine aS ?_;simp -dsimp only[simprocAttr,↓aa,zp,h4];refine ah ?_;refine cr rfl ?_;refine aA (ah ?_);refine aq ?_;simp -dsimp only[simprocAttr,↓aa,zp,zr,Tryz.results110]
theorem FM(t:Term)(gK:t.cases.length<=2 ^ 60):bD Tryz.prog 110 [t.enc] (.v (.bool (ef t))):=by
 by_cases hk:0<=t.kind∧t.kind<=4
 ·rcases(show t.kind=0∨t.kind=1∨t.kind=2∨t.kind=3∨t.kind=4 by omega)with h|h|h|h|h
  ·exact Po t h gK
  ·exact Pp t h gK
  ·exact Pq t h gK
  ·exact Pr t h gK
  exact Pt t h gK
 exact Dc t hk
def oH(l:List Int)(n:Int):Bool:=decide (l.findIdx (· == n)<l.length)
theorem qg(l:List Int)(n:Int):bD Tryz.prog 39 [aK l,aI n] (.v (.bool (oH l n))):=by
 have OH:=qI l n;have hd:decide (0<=kH l n)=oH l n:=by
  unfold kH oH;by_cases h:l.findIdx (· == n)<l.length
  ·rw[if_pos h];simp[h]
  rw[if_neg h];simp[h]
 generalize kH l n=r at *;refine zf true 0 Tryz.func39 Tryz.ntmps39 ?_;dsimp only[Tmp,TypeId,slotsOf];refine aA (ah ?_);refine aA ?_;refine .inl ⟨_,OH,by simp only[aw,ae.upto,zt,zu,az],ao ?_⟩;simp -dsimp only[simprocAttr,↓aa,zp,hd];refine ah ?_;refine aq ?_;simp -dsimp only[simprocAttr,↓aa,zp,zr,Tryz.results39]
theorem xq{u:bY}{m:Mach}{O:List aj}(bG:∀o∈O,o.upto O.length)(h0:O[2]?=some (.cells (aE u m)))(size fill:SV)(hs:SV.bp O.length size)(hf:SV.bp O.length fill)(h1:0<=m.left)(h2:m.left<=2 ^ 40)(od:m.short=false)
  (ct:∀x,((m.bA size fill).2.1).arr≠some x) :
  bd Tryz.prog 154 O [.mp 2 0,size.enc,fill.enc] (fun r O'=>r=.cD [(m.bA size fill).2.1.enc,aI (m.bA size fill).2.2]∧O'=O.set 2 (.cells (aE u (m.bA size fill).1))):=by
 have iw:O.set 2 (.cells (aE u m))=O:=by
  obtain⟨bg,e⟩:=List.getElem?_eq_some_iff.1 h0;rw[<-e,List.set_getElem_self]
 by_cases hk:size.kind=0
 ·by_cases hn:size.n<0∨1024<size.n
  ·have hd:decide (size.kind=0)=true:=decide_eq_true hk;rcases(show size.n<0∨(¬size.n<0∧1024<size.n) by omega)with mH|⟨mH,tF⟩
   ·have sQ:decide (size.n<0)=true:=decide_eq_true mH;refine zf true O.length Tryz.func154 Tryz.ntmps154 ?_;dsimp only[Tmp,TypeId,slotsOf];refine aA (ah ?_);refine aJ (ai ?_);refine aS ?_;simp -dsimp only[simprocAttr,↓aa,zp,hd];refine ah ?_;refine cr rfl ?_;refine aS ?_;simp -dsimp only[simprocAttr,↓aa,zp,sQ];refine ah ?_;refine cH rfl ?_;refine aA (ah ?_);refine aq ?_;simp -dsimp only[simprocAttr,↓aa,zp,zr,Tryz.results154,cv];refine⟨bG,fW,?_⟩;simp[Mach.bA,hk,hn,iw]
   have sQ:decide (size.n<0)=false:=decide_eq_false mH;have pE:decide (1024<size.n)=true:=decide_eq_true tF;refine zf true O.length Tryz.func154 Tryz.ntmps154 ?_;dsimp only[Tmp,TypeId,slotsOf];refine aA (ah ?_);refine aJ (ai ?_);refine aS ?_;simp -dsimp only[simprocAttr,↓aa,zp,hd];refine ah ?_;refine cr rfl ?_;refine aS ?_;simp -dsimp only[simprocAttr,↓aa,zp,sQ,pE];refine ah ?_;refine cH rfl ?_;refine aA (ah ?_);refine aq ?_;simp -dsimp only[simprocAttr,↓aa,zp,zr,Tryz.results154,cv];refine⟨bG,fW,?_⟩;simp[Mach.bA,hk,hn,iw]
  have hd:decide (size.kind=0)=true:=decide_eq_true hk;have sQ:decide (size.n<0)=false:=decide_eq_false (by omega);have pE:decide (1024<size.n)=false:=decide_eq_false (by omega);by_cases hp:m.left<size.n
  ·have kG:(m.cU size.n).short=true:=by simp[Mach.cU,hp]
   have xP:=bd.frame (wJ bG h0 size.n h1 h2 (by omega)) (by simp) ⟨I h0,trivial,trivial⟩ bG;have HF:=dz h0 (.cells (aE u (m.cU size.n)));have eI:=bw bG h0 (ds:=aE u (m.cU size.n)) (fun h=>bZ h (pO m size.n));obtain⟨O1,dV⟩:∃O1,O1=O.set 2 (.cells (aE u (m.cU size.n))):=⟨_,rfl⟩
   have hlen:O.length=O1.length:=by rw[dV];simp
   have eX:(m.bA size fill)=(m.cU size.n,.zero,0):=by simp[Mach.bA,hk,hn,kG]
   rw[eX];simp only[<-dV]at xP HF eI ⊢;have Ey:∀X,(O1++X)[2]?=some (.cells (aE u (m.cU size.n))):=fun X=>cw HF;unfold aE at Ey;rw[kG]at Ey;rw[hlen]at eI;refine zf true O.length Tryz.func154 Tryz.ntmps154 ?_;dsimp only[Tmp,TypeId,slotsOf];refine aA (ah ?_);refine aJ (ai ?_);refine aS ?_;simp -dsimp only[simprocAttr,↓aa,zp,hd];refine ah ?_;refine cr rfl ?_;refine aS ?_;simp -dsimp only[simprocAttr,↓aa,zp,sQ,pE];refine ah ?_;refine cr rfl ?_;refine la ?_;refine aA ?_;refine .inr (.inl ⟨_,_,xP _,.inl (ao (zj ?_))⟩);refine ah ?_;refine c9 ?_;simp -dsimp only[simprocAttr,↓aa,zp,Ey];refine ah ?_;refine cH rfl ?_;refine aS ?_;simp -dsimp only[simprocAttr,↓aa,zp,hlen];refine ah ?_;refine aq ?_;simp -dsimp only[simprocAttr,↓aa,zp,zr,Tryz.results154,cv,hlen];exact⟨eI,fW⟩
  exfalso;have kG:(m.cU size.n).short=false:=by simp[Mach.cU,hp,od]
  refine ct (m.next+8) ?_;simp[Mach.bA,hk,hn,kG,SV.arr]
 have hd:decide (size.kind=0)=false:=decide_eq_false hk;refine zf true O.length Tryz.func154 Tryz.ntmps154 ?_;dsimp only[Tmp,TypeId,slotsOf];refine aA (ah ?_);refine aJ (ai ?_);refine aS ?_;simp -dsimp only[simprocAttr,↓aa,zp,hd];refine ah ?_;refine cH rfl ?_;refine aA (ah ?_);refine aq ?_;simp -dsimp only[simprocAttr,↓aa,zp,zr,Tryz.results154,cv];refine⟨bG,fW,?_⟩;simp[Mach.bA,hk,iw]
theorem pU{O X:List aj}{k:Nat}:(O++X).take (O.length+k)=O++X.take k:=by
 rw[List.take_append,List.take_of_length_le (by omega),Nat.add_sub_cancel_left]
def uB(v:SV)(n k:Nat):List ae:=List.replicate k v.enc++List.replicate (n-k) (.agg [aI 0,aI 0,.aC 4 [] .ex,.v (.pointer none)])
theorem C5{v:SV}{n k:Nat}(h:k<=n):(uB v n k).length=n:=by
 simp[uB];omega
theorem wQ{v:SV}{n k:Nat}:∀x∈uB v n k,x.cells.length=4:=fun x hx=>by
 simp only[uB,List.mem_append,List.mem_replicate]at hx;rcases hx with⟨_,rfl⟩|⟨_,rfl⟩
 ·exact v.dc
 rfl
theorem IG(v:SV)(n:Nat):au (uB v n 0)=(List.replicate n [aI 0,aI 0,.aC 4 [] .ex,.v (.pointer none)]).flatten:=by
 simp[uB,au,List.flatMap,ae.cells]
theorem IF{v:SV}{n k:Nat}(h:k<n):(uB v n k).set k v.enc=uB v n (k+1):=by
 obtain⟨j,hj⟩:∃j,n-k=j+1:=⟨n-k-1,by omega⟩
 unfold uB;rw[hj,show n-(k+1)=j by omega,List.set_append_right _ _ (by simp),List.replicate_succ' (n:=k)];simp[List.replicate_succ]
theorem LM(v:SV)(n:Nat):uB v n n=(List.replicate n v).map SV.enc:=by simp[uB]
theorem Bq{u:bY}{m:Mach}{O:List aj}(bG:∀o∈O,o.upto O.length)(h0:O[2]?=some (.cells (aE u m)))(size fill:SV)(hs:SV.bp O.length size)(hf:SV.bp O.length fill)(h1:0<=m.left)(h2:m.left<=2 ^ 40)(od:m.short=false)
  (hk:size.kind=0) (mH:0<=size.n) (tF:size.n<=1024) (hp:size.n<=m.left) :
  bd Tryz.prog 154 O [.mp 2 0,size.enc,fill.enc] (fun r O'=>r=.cD [.agg [aI 3,aI 0,.aC 4 [] .sh,.mp (O.length+4) 0],aI 0]∧O'=O.set 2 (.cells (aE u (m.cU size.n))) ++
   [.gone,.gone,.cells [aI 3,aI 0,.aC 4 [] .ex,.mp (O.length+4) 0],.cells (au ((List.replicate size.n.toNat fill).map SV.enc)),.cells [.ms (O.length+3) 0 size.n.toNat size.n.toNat]]):=by
 have hd:decide (size.kind=0)=true:=decide_eq_true hk;have sQ:decide (size.n<0)=false:=decide_eq_false (by omega);have pE:decide (1024<size.n)=false:=decide_eq_false (by omega);have kG:(m.cU size.n).short=false:=by simp[Mach.cU,od,show ¬m.left<size.n by omega]
 have xP:=bd.frame (wJ bG h0 size.n h1 h2 (by omega)) (by simp) ⟨I h0,trivial,trivial⟩ bG;have HF:=dz h0 (.cells (aE u (m.cU size.n)));have eI:=bw bG h0 (ds:=aE u (m.cU size.n)) (fun h=>bZ h (pO m size.n));obtain⟨O1,dV⟩:∃O1,O1=O.set 2 (.cells (aE u (m.cU size.n))):=⟨_,rfl⟩
 have hlen:O.length=O1.length:=by rw[dV];simp
 simp only[<-dV]at xP HF eI ⊢;have Ey:∀X,(O1++X)[2]?=some (.cells (aE u (m.cU size.n))):=fun X=>cw HF;unfold aE at Ey;rw[kG]at Ey;rw[hlen]at eI;obtain⟨n,hn⟩:∃n:Nat,size.n=n:=⟨size.n.toNat,by omega⟩
 refine zf true (O.length+5) Tryz.func154 Tryz.ntmps154 ?_;dsimp only[Tmp,TypeId,slotsOf];refine aA (ah ?_);refine b7 4 0 ([aI size.kind,aI size.n,.aC 4 (size.list.map SV.enc) .sh,eP size.arr]) rfl rfl (by simp only[List.map_cons,List.map_nil,cK,b9,dN,dO,dM,dK,dL,cn]) ?_;simp -dsimp only[simprocAttr,↓aa,zp];refine b7 5 1 ([aI fill.kind,aI fill.n,.aC 4 (fill.list.map SV.enc) .sh,eP fill.arr]) rfl rfl (by simp only[List.map_cons,List.map_nil,cK,b9,dN,dO,dM,dK,dL,cn]) ?_;simp -dsimp only[simprocAttr,↓aa,zp];refine aJ (ai ?_);refine aS ?_;simp -dsimp only[simprocAttr,↓aa,zp,hd];refine ah ?_;apply aP rfl<;>intro h
 ·cases h
 refine aS ?_;simp -dsimp only[simprocAttr,↓aa,zp,sQ,pE];refine ah ?_;apply aP rfl<;>intro h
 ·cases h
 refine la ?_;refine aA ?_;refine .inr (.inl ⟨_,_,xP _,.inl (ao (zj ?_))⟩);refine ah ?_;refine c9 ?_;simp -dsimp only[simprocAttr,↓aa,zp,Ey];refine ah ?_;apply aP rfl<;>intro h
 ·cases h
 refine cd ?_;refine aS ?_;simp -dsimp only[simprocAttr,↓aa,zp,hlen,hn]
 repeat(refine⟨by omega,?_⟩)
 refine ah ?_;refine c9 ?_;simp -dsimp only[simprocAttr,↓aa,zp,hlen,hn];refine ah ?_;refine ai (aO (ι:={j:Nat // j<=n}) (fun j=>⟨48,[(5,.ip none [aI fill.kind,aI fill.n,.aC 4 (fill.list.map SV.enc) .sh,eP fill.arr]),(6,.mp (O1.length+2) 0),(7,aI 0),(8,.mp (O1.length+4) 0),(38,aI n),(39,aI j.1)],O1++[.gone,.gone,.cells [aI 0,aI 0,.aC 4 [] .ex,.v (.pointer none)],.cells (au (uB fill n j.1)),.cells [.ms (O1.length+3) 0 n n]]⟩) (fun j=>n-j.1) ⟨0,by omega⟩ ?_ ?_)
 ·refine zq rfl ?_ ?_;simp -dsimp only[simprocAttr,↓aa,zp,zc];rw[IG]
 rintro⟨j,hj⟩;refine aA (ah ?_);apply iz rfl<;>intro h
 ·refine cd ?_;have bg:j<n:=by simpa using h
  have dk:=bE (wQ (v:=fill) (n:=n) (k:=j));rw[C5 hj]at dk;have iw:=na (wQ (v:=fill) (n:=n) (k:=j)) (k:=j) (by rw[C5 hj];exact bg) fill.dc;rw[IF bg,SV.ak]at iw;refine aJ (ai ?_);refine aA (ah ?_);refine kC ?_;simp -dsimp only[simprocAttr,↓aa,zp,dk,iw]
  repeat(refine⟨by omega,?_⟩)
  refine ah ?_;refine cT ?_
  repeat(refine⟨by omega,?_⟩)
  refine fK ?_;refine⟨⟨j+1,bg⟩,by simp;omega,?_⟩;refine zq rfl ?_ ?_;simp -dsimp only[simprocAttr,↓aa,zp,zc]
  ·exact Sub.int (by simp)
  rfl
 refine aM ?_;simp -dsimp only[bS,ne_eq,Nat.reduceEqDiff,reduceCtorEq];have rK:j=n:=by simp at h;omega
 subst rK;refine aA (ah ?_);refine aq ?_;simp -dsimp only[simprocAttr,↓aa,zp,zr,Tryz.results154,hlen];have hj2:size.n.toNat=j:=by omega
 have fX:∀v∈List.replicate j fill,SV.bp (O1.length+5) v:=fun v hv=>by
  rw[(List.mem_replicate.1 hv).2];exact hf.mono (by omega)
 rw[pU,hj2,LM];refine⟨fun o ho=>?_,by simp[aw,ae.upto],rfl⟩;rcases List.mem_append.1 ho with ho|ho
 ·exact aj.cj (by omega) (eI o ho)
 have hc:=SV.jM fX;simp only[List.take_succ_cons,List.take_zero,List.mem_cons,List.mem_nil_iff,or_false]at ho;rcases ho with rfl|rfl|rfl|rfl|rfl
 ·trivial
 ·trivial
 ·simp[aj.upto,aw,ae.upto]
 ·exact hc
 simp[aj.upto,aw,ae.upto]
theorem lz{O X:List aj}{k:Nat}{x y:aj}(h:O[k]?=some x):(O++X).set k y=O.set k y++X:=by
 rw[List.set_append_left _ _ (I h)]
theorem mO{O:List aj}{k:Nat}{x:aj}(h:O[k]?=some x):O.set k x=O:=by
 obtain⟨bg,e⟩:=List.getElem?_eq_some_iff.1 h;rw[<-e,List.set_getElem_self]
theorem zU{u:bY}{m:Mach}{O:List aj}(bG:∀o∈O,o.upto O.length)(h0:O[2]?=some (.cells (aE u m)))(wg:O[3]?=some (.spare m.out.length))(i:Ins)(args:List SV)(hl:∀v∈args,SV.bp O.length v)
  (kq:i.op=15) (x:SV) (hx:args[0]?=some x) (ho:m.out.length<=1000) :
  bd Tryz.prog 137 O [.mp 2 0,i.enc,.aC 4 (args.map SV.enc) .sh] (fun r O'=>r=.cD [(m.effect i args).2.1.enc,aI (m.effect i args).2.2]∧O'=(O.set 3 (.spare (m.effect i args).1.out.length)).set 2 (.cells (aE u (m.effect i args).1))):=by
 have vR:=gf hx;have lk:decide (i.op=15)=true:=decide_eq_true kq;have ew:(O.set 3 (.spare m.out.length)).set 2 (.cells (aE u m))=O:=by rw[mO wg,mO h0]
 have Gn:∀X,(O++X)[2]?=some (.cells (aE u m)):=fun X=>cw h0;have HG:∀X,(O++X)[3]?=some (.spare m.out.length):=fun X=>cw wg;unfold aE at Gn;by_cases hk:x.kind=0
 ·have hd:decide (x.kind=0)=true:=decide_eq_true hk;by_cases hf:m.out.length=1000
  ·have Sd:decide ((m.out.length:Int)=1000)=true:=decide_eq_true (by omega);have eX:m.effect i args=(m,.zero,6):=by simp[Mach.effect,kq,vR,hk,hf]
   rw[eX];refine zf true O.length Tryz.func137 Tryz.ntmps137 ?_;dsimp only[Tmp,TypeId,slotsOf];refine aA (ah ?_);refine b7 4 0 ([aI i.to,aI i.op,aI i.n,aK i.args]) rfl rfl (by rfl) ?_;simp -dsimp only[simprocAttr,↓aa,zp];refine c9 ?_;simp -dsimp only[simprocAttr,↓aa,zp,lk];refine ah ?_;refine ai ?_;refine aS ?_;simp -dsimp only[simprocAttr,↓aa,zp,lk];refine ah ?_;refine cH rfl ?_;refine c9 ?_;simp -dsimp only[simprocAttr,↓aa,zp,hx,hd];refine ah ?_;refine cr rfl ?_;refine cd ?_;refine c9 ?_;simp -dsimp only[simprocAttr,↓aa,zp,Gn,Sd];refine ah ?_;refine cH rfl ?_;refine aA (ah ?_);refine aq ?_;simp -dsimp only[simprocAttr,↓aa,zp,zr,Tryz.results137,cv,ew];exact⟨bG,fW⟩
  have Sd:decide ((m.out.length:Int)=1000)=false:=decide_eq_false (by omega);have eX:m.effect i args=({ m with out:=m.out++[x.n] },.word 0,0):=by simp[Mach.effect,kq,vR,hk,hf]
  rw[eX];obtain⟨m',eF⟩:∃m',m' = { m with out:=m.out++[x.n] }:=⟨_,rfl⟩
  have K2:=bx (k:=2) (j:=3) (y:=.spare (m.out.length+1)) h0 (by omega);have hp:[bn u.fns,aI u.main,.os m.sid m.frames.length 1,aI m.left,.v (.bool m.short),.v (.bool m.over),.aC 1 (m.out.map aI++[aI x.n]) (.tok 3),aI m.fin,aI m.val]=aE u m':=by
   rw[eF];simp[aE]
  obtain⟨O2,uI⟩:∃O2,O2=(O.set 3 (.spare (m.out.length+1))).set 2 (.cells (aE u m')):=⟨_,rfl⟩
  have hlen:O.length=O2.length:=by rw[uI];simp
  have fJ:∀o∈O2,o.upto O2.length:=by
   rw[<-hlen,uI];exact bw (bz bG trivial) K2 (fun h=>bZ h (by rw[eF]))
  have e1:∀X,(O++X).set 3 (.spare (m.out.length+1))=O.set 3 (.spare (m.out.length+1))++X:=fun X=>lz wg;have e2:∀X y,(O.set 3 (.spare (m.out.length+1))++X).set 2 y=(O.set 3 (.spare (m.out.length+1))).set 2 y++X:=fun X y=>lz K2;have e3:∀X,(O.set 3 (.spare (m.out.length+1))++X)[2]?=some (.cells (aE u m)):=fun X=>cw K2;unfold aE at e3;have Na:m'.out.length=m.out.length+1:=by rw[eF];simp
  rw[<-eF];simp only[Na,<-uI];refine zf true O.length Tryz.func137 Tryz.ntmps137 ?_;dsimp only[Tmp,TypeId,slotsOf];refine aA (ah ?_);refine b7 4 0 ([aI i.to,aI i.op,aI i.n,aK i.args]) rfl rfl (by rfl) ?_;simp -dsimp only[simprocAttr,↓aa,zp];refine c9 ?_;simp -dsimp only[simprocAttr,↓aa,zp,lk];refine ah ?_;refine ai ?_;refine aS ?_;simp -dsimp only[simprocAttr,↓aa,zp,lk];refine ah ?_;refine cH rfl ?_;refine c9 ?_;simp -dsimp only[simprocAttr,↓aa,zp,hx,hd];refine ah ?_;refine cr rfl ?_;refine cd ?_;refine c9 ?_;simp -dsimp only[simprocAttr,↓aa,zp,Gn,Sd];refine ah ?_;refine cr rfl ?_;refine cd ?_;refine aS ?_;simp -dsimp only[simprocAttr,↓aa,zp,Gn,hx,HG,e1,e2,e3,hp,<-uI]
  repeat(refine⟨by omega,?_⟩)
  refine⟨ob (by kernel_rfl),?_⟩;refine ah ?_;refine aS ?_;simp -dsimp only[simprocAttr,↓aa,zp,hlen];refine .inl ⟨_,cX 0,by simp only[aw,ae.upto,zt,zu,az],ao ?_⟩;simp -dsimp only[simprocAttr,↓aa,zp,dt];refine ah ?_;refine aq ?_;simp -dsimp only[simprocAttr,↓aa,zp,zr,Tryz.results137,fE,hlen];exact⟨fJ,l9⟩
 have hd:decide (x.kind=0)=false:=decide_eq_false hk;have eX:m.effect i args=(m,.zero,5):=by simp[Mach.effect,kq,vR,hk]
 rw[eX];refine zf true O.length Tryz.func137 Tryz.ntmps137 ?_;dsimp only[Tmp,TypeId,slotsOf];refine aA (ah ?_);refine b7 4 0 ([aI i.to,aI i.op,aI i.n,aK i.args]) rfl rfl (by rfl) ?_;simp -dsimp only[simprocAttr,↓aa,zp];refine c9 ?_;simp -dsimp only[simprocAttr,↓aa,zp,lk];refine ah ?_;refine ai ?_;refine aS ?_;simp -dsimp only[simprocAttr,↓aa,zp,lk];refine ah ?_;refine cH rfl ?_;refine c9 ?_;simp -dsimp only[simprocAttr,↓aa,zp,hx,hd];refine ah ?_;refine cH rfl ?_;refine aA (ah ?_);refine aq ?_;simp -dsimp only[simprocAttr,↓aa,zp,zr,Tryz.results137,cv,ew];exact⟨bG,fW⟩
theorem BR{u:bY}{m:Mach}{O:List aj}(bG:∀o∈O,o.upto O.length)(h0:O[2]?=some (.cells (aE u m)))(i:Ins)(size fill:SV)(hs:SV.bp O.length size)(hf:SV.bp O.length fill)
  (kq:i.op=16) (h1:0<=m.left) (h2:m.left<=2 ^ 40) (od:m.short=false) (ct:∀x,((m.bA size fill).2.1).arr≠some x) :
  bd Tryz.prog 137 O [.mp 2 0,i.enc,.aC 4 [size.enc,fill.enc] .sh] (fun r O'=>r=.cD [(m.bA size fill).2.1.enc,aI (m.bA size fill).2.2]∧O'=O.set 2 (.cells (aE u (m.bA size fill).1))):=by
 have lk:decide (i.op=15)=false:=decide_eq_false (by omega);have pX:decide (i.op=16)=true:=decide_eq_true (by omega);have dD:=bd.frame (xq bG h0 size fill hs hf h1 h2 od ct) (by simp) ⟨I h0,hs.aQ,hf.aQ,trivial⟩ bG;have YM:(m.bA size fill).1.sid=m.sid:=by
  unfold Mach.bA
  repeat' split
  all_goals first|rfl|exact pO _ _
 have eI:=bw bG h0 (ds:=aE u (m.bA size fill).1) (fun h=>bZ h YM);have qH:SV.bp O.length (m.bA size fill).2.1:=by
  have:∀r:Mach×SV×Int,r=m.bA size fill->r.2.1=SV.zero∨∃x,r.2.1.arr=some x:=fun r hr=>by
   subst hr;unfold Mach.bA
   repeat' split
   all_goals first|exact .inl rfl|exact .inr ⟨_,rfl⟩
  rcases this _ rfl with e|⟨x,e⟩
  ·rw[e];exact qX _
  exact absurd e (ct x)
 generalize m.bA size fill=R at *;obtain⟨O1,dV⟩:∃O1,O1=O.set 2 (.cells (aE u R.1)):=⟨_,rfl⟩
 have hlen:O.length=O1.length:=by rw[dV];simp
 simp only[<-dV]at dD eI ⊢;rw[hlen]at eI qH;refine zf true O.length Tryz.func137 Tryz.ntmps137 ?_;dsimp only[Tmp,TypeId,slotsOf];refine aA (ah ?_);refine b7 4 0 ([aI i.to,aI i.op,aI i.n,aK i.args]) rfl rfl (by rfl) ?_;simp -dsimp only[simprocAttr,↓aa,zp];refine bX (ah ?_);refine ai ?_;refine aS ?_;simp -dsimp only[simprocAttr,↓aa,zp,lk];refine ah ?_;refine cr rfl ?_;refine aS ?_;simp -dsimp only[simprocAttr,↓aa,zp,pX];refine ah ?_;refine cH rfl ?_;refine aA ?_;refine .inr (.inl ⟨_,_,dD _,.inl (ao ?_)⟩);simp -dsimp only[simprocAttr,↓aa,zp,hlen];refine⟨ob (by kernel_rfl),?_⟩;refine ah ?_;refine aq ?_;simp -dsimp only[simprocAttr,↓aa,zp,zr,Tryz.results137,hlen];exact⟨eI,wP qH⟩
theorem Hy{u:bY}{m:Mach}{O:List aj}(bG:∀o∈O,o.upto O.length)(h0:O[2]?=some (.cells (aE u m)))(i:Ins)(size fill:SV)(hs:SV.bp O.length size)(hf:SV.bp O.length fill)
  (kq:i.op=16) (h1:0<=m.left) (h2:m.left<=2 ^ 40) (od:m.short=false) (hk:size.kind=0) (mH:0<=size.n) (tF:size.n<=1024) (hp:size.n<=m.left) :
  bd Tryz.prog 137 O [.mp 2 0,i.enc,.aC 4 [size.enc,fill.enc] .sh] (fun r O'=>r=.cD [.agg [aI 3,aI 0,.aC 4 [] .sh,.mp (O.length+6) 0],aI 0]∧O'=O.set 2 (.cells (aE u (m.cU size.n))) ++
   [.gone,.cells [aI 3,aI 0,.aC 4 [] .sh,.mp (O.length+6) 0],.gone,.gone,.cells [aI 3,aI 0,.aC 4 [] .ex,.mp (O.length+6) 0],.cells (au ((List.replicate size.n.toNat fill).map SV.enc)),.cells [.ms (O.length+5) 0 size.n.toNat size.n.toNat]]):=by
 have lk:decide (i.op=15)=false:=decide_eq_false (by omega);have pX:decide (i.op=16)=true:=decide_eq_true (by omega);have HZ:∀o∈O++[.gone,.cells [aI 0,aI 0,.aC 4 [] .ex,.v (.pointer none)]],o.upto (O++[aj.gone,.cells [aI 0,aI 0,.aC 4 [] .ex,.v (.pointer none)]]).length:=fun o ho=>by
  rcases List.mem_append.1 ho with ho|ho
  ·exact aj.cj (by simp) (bG o ho)
  simp only[List.mem_cons,List.mem_nil_iff,or_false]at ho;rcases ho with rfl|rfl
  ·trivial
  simp[aj.upto,aw,ae.upto]
 have Yr:(O++[aj.gone,.cells [aI 0,aI 0,.aC 4 [] .ex,.v (.pointer none)]]).length=O.length+2:=by simp
 have dD:=Bq HZ (cw h0) size fill (hs.mono (by simp)) (hf.mono (by simp)) h1 h2 od hk mH tF hp;have HF:=dz h0 (.cells (aE u (m.cU size.n)));have eI:=bw bG h0 (ds:=aE u (m.cU size.n)) (fun h=>bZ h (pO m size.n));rw[lz h0,Yr]at dD;obtain⟨O1,dV⟩:∃O1,O1=O.set 2 (.cells (aE u (m.cU size.n))):=⟨_,rfl⟩
 have hlen:O.length=O1.length:=by rw[dV];simp
 simp only[<-dV]at dD eI ⊢;rw[hlen]at eI;have fX:∀v∈List.replicate size.n.toNat fill,SV.bp (O1.length+7) v:=fun v hv=>by
  rw[(List.mem_replicate.1 hv).2];exact hf.mono (by omega)
 have hc:=SV.jM fX;generalize dk:au ((List.replicate size.n.toNat fill).map SV.enc)=row at *;refine zf true (O.length+7) Tryz.func137 Tryz.ntmps137 ?_;dsimp only[Tmp,TypeId,slotsOf];refine aA (ah ?_);refine b7 4 0 ([aI i.to,aI i.op,aI i.n,aK i.args]) rfl rfl (by rfl) ?_;simp -dsimp only[simprocAttr,↓aa,zp];refine bX (ah ?_);refine ai ?_;refine aS ?_;simp -dsimp only[simprocAttr,↓aa,zp,lk];refine ah ?_;refine cr rfl ?_;refine aS ?_;simp -dsimp only[simprocAttr,↓aa,zp,pX];refine ah ?_;refine cH rfl ?_;refine aA ?_;refine .inr (.inl ⟨_,_,dD,.inl (ao ?_)⟩);simp -dsimp only[simprocAttr,↓aa,zp,hlen];refine⟨ob (by kernel_rfl),?_⟩;refine ah ?_;refine aq ?_;simp -dsimp only[simprocAttr,↓aa,zp,zr,Tryz.results137,hlen];rw[pU];refine⟨fun o ho=>?_,by simp[aw,ae.upto],rfl⟩;rcases List.mem_append.1 ho with ho|ho
 ·exact aj.cj (by omega) (eI o ho)
 simp only[List.take_succ_cons,List.take_zero,List.mem_cons,List.mem_nil_iff,or_false]at ho;rcases ho with rfl|rfl|rfl|rfl|rfl|rfl|rfl
 ·trivial
 ·simp[aj.upto,aw,ae.upto]
 ·trivial
 ·trivial
 ·simp[aj.upto,aw,ae.upto]
 ·exact hc
 simp[aj.upto,aw,ae.upto]
theorem zT{u:bY}{m:Mach}{O:List aj}(bG:∀o∈O,o.upto O.length)(i:Ins)(x y:SV)(hx:SV.bp O.length x)(hy:SV.bp O.length y)(mq:2<O.length)
  (kq:i.op=18):bd Tryz.prog 137 O [.mp 2 0,i.enc,.aC 4 [x.enc,y.enc] .sh] (fun r O'=>r=.cD [(m.effect i [x,y]).2.1.enc,aI (m.effect i [x,y]).2.2]∧O'=O):=by
 have hl:∀v∈[x,y],SV.bp O.length v:=fun v hv=>by
  simp only[List.mem_cons,List.mem_nil_iff,or_false]at hv;rcases hv with rfl|rfl
  ·exact hx
  exact hy
 have lk:decide (i.op=15)=false:=decide_eq_false (by omega);have pX:decide (i.op=16)=false:=decide_eq_false (by omega);have uu:decide (i.op=18)=true:=decide_eq_true (by omega);have cz:=zD bG [x,y] hl 0;have ha:b8 [x,y] 0=x∧b8 [x,y] 1=y:=⟨rfl,rfl⟩
 cases hk:lf [x,y] 0 with
 | false =>
  simp only[hk,List.map_cons,List.map_nil]at cz;refine zf true O.length Tryz.func137 Tryz.ntmps137 ?_;dsimp only[Tmp,TypeId,slotsOf];refine aA (ah ?_);refine b7 4 0 ([aI i.to,aI i.op,aI i.n,aK i.args]) rfl rfl (by rfl) ?_;simp -dsimp only[simprocAttr,↓aa,zp];refine bX (ah ?_);refine ai ?_;refine aS ?_;simp -dsimp only[simprocAttr,↓aa,zp,lk];refine ah ?_;refine cr rfl ?_;refine aS ?_;simp -dsimp only[simprocAttr,↓aa,zp,pX];refine ah ?_;refine cr rfl ?_;refine aS ?_;simp -dsimp only[simprocAttr,↓aa,zp,uu];refine ah ?_;refine cH rfl ?_;refine bX ?_;refine .inr (.inr ⟨_,cz _,ao (zj ?_)⟩);refine ah ?_;refine cH rfl ?_;refine aA (ah ?_);refine aq ?_;simp -dsimp only[simprocAttr,↓aa,zp,zr,Tryz.results137,cv];refine⟨bG,fW,?_⟩;simp[Mach.effect,kq,hk]
 | true =>
  simp only[hk,List.map_cons,List.map_nil]at cz;by_cases hb:x.n<0∨y.n<=x.n
  ·have tC:decide (x.n<0)=true∨(decide (x.n<0)=false∧decide (y.n<=x.n)=true):=by
    by_cases h1:x.n<0
    ·exact .inl (decide_eq_true h1)
    exact .inr ⟨decide_eq_false h1,decide_eq_true (by omega)⟩
   rcases tC with tC|⟨tC,B7⟩
   ·refine zf true O.length Tryz.func137 Tryz.ntmps137 ?_;dsimp only[Tmp,TypeId,slotsOf];refine aA (ah ?_);refine b7 4 0 ([aI i.to,aI i.op,aI i.n,aK i.args]) rfl rfl (by rfl) ?_;simp -dsimp only[simprocAttr,↓aa,zp];refine bX (ah ?_);refine ai ?_;refine aS ?_;simp -dsimp only[simprocAttr,↓aa,zp,lk];refine ah ?_;refine cr rfl ?_;refine aS ?_;simp -dsimp only[simprocAttr,↓aa,zp,pX];refine ah ?_;refine cr rfl ?_;refine aS ?_;simp -dsimp only[simprocAttr,↓aa,zp,uu];refine ah ?_;refine cH rfl ?_;refine bX ?_;refine .inr (.inr ⟨_,cz _,ao (zj ?_)⟩);refine ah ?_;refine cr rfl ?_;refine cd ?_;refine c9 ?_;simp -dsimp only[simprocAttr,↓aa,zp,tC];refine⟨ob (by kernel_rfl),?_⟩;refine ah ?_;refine cH rfl ?_;refine aA (ah ?_);refine aq ?_;simp -dsimp only[simprocAttr,↓aa,zp,zr,Tryz.results137,cv];refine⟨bG,fW,?_⟩;simp[Mach.effect,kq,hk,ha,hb]
   refine zf true O.length Tryz.func137 Tryz.ntmps137 ?_;dsimp only[Tmp,TypeId,slotsOf];refine aA (ah ?_);refine b7 4 0 ([aI i.to,aI i.op,aI i.n,aK i.args]) rfl rfl (by rfl) ?_;simp -dsimp only[simprocAttr,↓aa,zp];refine bX (ah ?_);refine ai ?_;refine aS ?_;simp -dsimp only[simprocAttr,↓aa,zp,lk];refine ah ?_;refine cr rfl ?_;refine aS ?_;simp -dsimp only[simprocAttr,↓aa,zp,pX];refine ah ?_;refine cr rfl ?_;refine aS ?_;simp -dsimp only[simprocAttr,↓aa,zp,uu];refine ah ?_;refine cH rfl ?_;refine bX ?_;refine .inr (.inr ⟨_,cz _,ao (zj ?_)⟩);refine ah ?_;refine cr rfl ?_;refine cd ?_;refine c9 ?_;simp -dsimp only[simprocAttr,↓aa,zp,tC,B7];refine⟨ob (by kernel_rfl),?_⟩;refine ah ?_;refine cH rfl ?_;refine aA (ah ?_);refine aq ?_;simp -dsimp only[simprocAttr,↓aa,zp,zr,Tryz.results137,cv];refine⟨bG,fW,?_⟩;simp[Mach.effect,kq,hk,ha,hb]
  have tC:decide (x.n<0)=false:=decide_eq_false (by omega);have B7:decide (y.n<=x.n)=false:=decide_eq_false (by omega);refine zf true O.length Tryz.func137 Tryz.ntmps137 ?_;dsimp only[Tmp,TypeId,slotsOf];refine aA (ah ?_);refine b7 4 0 ([aI i.to,aI i.op,aI i.n,aK i.args]) rfl rfl (by rfl) ?_;simp -dsimp only[simprocAttr,↓aa,zp];refine bX (ah ?_);refine ai ?_;refine aS ?_;simp -dsimp only[simprocAttr,↓aa,zp,lk];refine ah ?_;refine cr rfl ?_;refine aS ?_;simp -dsimp only[simprocAttr,↓aa,zp,pX];refine ah ?_;refine cr rfl ?_;refine aS ?_;simp -dsimp only[simprocAttr,↓aa,zp,uu];refine ah ?_;refine cH rfl ?_;refine bX ?_;refine .inr (.inr ⟨_,cz _,ao (zj ?_)⟩);refine ah ?_;refine cr rfl ?_;refine cd ?_;refine c9 ?_;simp -dsimp only[simprocAttr,↓aa,zp,tC,B7];refine⟨ob (by kernel_rfl),?_⟩;refine ah ?_;refine cr rfl ?_;refine cd ?_;refine aA ?_;refine .inl ⟨_,cX 0,by simp only[aw,ae.upto,zt,zu,az],ao ?_⟩;simp -dsimp only[simprocAttr,↓aa,zp,dt];refine ah ?_;refine aq ?_;simp -dsimp only[simprocAttr,↓aa,zp,zr,Tryz.results137,fE];refine⟨bG,l9,?_⟩;simp[Mach.effect,kq,hk,ha,hb]
def Nt(m m':Mach)(a:Option Nat)(O O':List aj):Prop :=
 (O'=O∧m'=m)∨∃(l8 eg k:Nat) (z:SV) (l:List SV),a=some l8∧O[l8]?=some (.cells [.ms eg 0 l.length l.length])∧O[eg]?=some (.cells (au (l.map SV.enc)))∧k<l.length∧l=Mach.iW m.heap a∧SV.bp O.length z ∧
  O'=O.set eg (.cells (au ((l.set k z).map SV.enc)))∧m' = { m with heap:=Mach.kK m.heap a (l.set k z) }
theorem Ej{m:Mach}{O:List aj}(bG:∀o∈O,o.upto O.length)(i:Ins)(args:List SV)(hl:∀v∈args,SV.bp O.length v)(x:SV)(hx:args[0]?=some x)
  (Aa:i.op≠15) (yB:i.op≠16) (Bf:i.op≠18) (h1:i.op≠17->∃y,args[1]?=some y) (h2:i.op≠17->i.op≠19->∃z,args[2]?=some z)
  (hu:∀v∈Mach.iW m.heap x.arr,SV.bp O.length v) (ha:x.kind=3->∃l8 eg,x.arr=some l8∧O[l8]?=some (.cells [.ms eg 0 (Mach.iW m.heap x.arr).length (Mach.iW m.heap x.arr).length])∧O[eg]?=some (.cells (au ((Mach.iW m.heap x.arr).map SV.enc)))) :
  ∃O',bd Tryz.prog 137 O [.mp 2 0,i.enc,.aC 4 (args.map SV.enc) .sh] (fun r O1=>r=.cD [(m.effect i args).2.1.enc,aI (m.effect i args).2.2]∧O1=O')∧Nt m (m.effect i args).1 x.arr O O':=by
 have vR:=gf hx;have lk:decide (i.op=15)=false:=decide_eq_false (by omega);have pX:decide (i.op=16)=false:=decide_eq_false (by omega);have uu:decide (i.op=18)=false:=decide_eq_false (by omega);by_cases hk:x.kind=3
 ·have QX:decide (x.kind=3)=true:=decide_eq_true hk;obtain⟨l8,eg,e1,e2,e3⟩:=ha hk;have U7:eP x.arr=.mp l8 0:=by rw[e1];rfl
  have ZE:=hu;generalize hL:Mach.iW m.heap x.arr=L at *;have Uq:∀X,(O++X)[l8]?=some (.cells [.ms eg 0 L.length L.length]):=fun X=>cw e2;have Zp:∀X,(O++X)[eg]?=some (.cells (au (L.map SV.enc))):=fun X=>cw e3;by_cases Oa:i.op=17
  ·have ur:decide (i.op=17)=true:=decide_eq_true Oa;have eX:m.effect i args=(m,.word L.length,0):=by simp[Mach.effect,Oa,vR,hk,hL]
   rw[eX];refine⟨O,?_,.inl ⟨rfl,rfl⟩⟩;refine zf true O.length Tryz.func137 Tryz.ntmps137 ?_;dsimp only[Tmp,TypeId,slotsOf];refine aA (ah ?_);refine b7 4 0 ([aI i.to,aI i.op,aI i.n,aK i.args]) rfl rfl (by rfl) ?_;simp -dsimp only[simprocAttr,↓aa,zp];refine bX (ah ?_);refine ai ?_;refine aS ?_;simp -dsimp only[simprocAttr,↓aa,zp,lk];refine ah ?_;refine cr rfl ?_;refine aS ?_;simp -dsimp only[simprocAttr,↓aa,zp,pX];refine ah ?_;refine cr rfl ?_;refine aS ?_;simp -dsimp only[simprocAttr,↓aa,zp,uu];refine ah ?_;refine cr rfl ?_;refine la ?_;refine c9 ?_;simp -dsimp only[simprocAttr,↓aa,zp,hx,QX,ur];refine ah ?_;refine cr rfl ?_;refine cd ?_;refine aS ?_;simp -dsimp only[simprocAttr,↓aa,zp,hx,U7,Uq];refine ah ?_;refine c9 ?_;simp -dsimp only[simprocAttr,↓aa,zp,ur];refine ah ?_;refine cH rfl ?_;refine aA ?_;refine .inl ⟨_,cX L.length,by simp only[aw,ae.upto,zt,zu,az],ao ?_⟩;simp -dsimp only[simprocAttr,↓aa,zp,dt];refine ah ?_;refine aq ?_;simp -dsimp only[simprocAttr,↓aa,zp,zr,Tryz.results137,fE];exact⟨bG,l9⟩
  have ur:decide (i.op=17)=false:=decide_eq_false Oa;obtain⟨y,hy⟩:=h1 Oa;have TI:=gf hy;by_cases H2:y.kind=0
  ·have T0:decide (y.kind=0)=true:=decide_eq_true H2;by_cases hb:y.n<0∨(L.length:Int)<=y.n
   ·have eX:m.effect i args=(m,.zero,2):=by simp[Mach.effect,Aa,yB,Bf,Oa,vR,TI,hk,H2,hL,hb]
    rw[eX];refine⟨O,?_,.inl ⟨rfl,rfl⟩⟩;rcases(show y.n<0∨(¬y.n<0∧(L.length:Int)<=y.n) by omega)with WO|⟨WO,Gp⟩
    ·have tC:decide (y.n<0)=true:=decide_eq_true WO;refine zf true O.length Tryz.func137 Tryz.ntmps137 ?_;dsimp only[Tmp,TypeId,slotsOf];refine aA (ah ?_);refine b7 4 0 ([aI i.to,aI i.op,aI i.n,aK i.args]) rfl rfl (by rfl) ?_;simp -dsimp only[simprocAttr,↓aa,zp];refine bX (ah ?_);refine ai ?_;refine aS ?_;simp -dsimp only[simprocAttr,↓aa,zp,lk];refine ah ?_;refine cr rfl ?_;refine aS ?_;simp -dsimp only[simprocAttr,↓aa,zp,pX];refine ah ?_;refine cr rfl ?_;refine aS ?_;simp -dsimp only[simprocAttr,↓aa,zp,uu];refine ah ?_;refine cr rfl ?_;refine la ?_;refine c9 ?_;simp -dsimp only[simprocAttr,↓aa,zp,hx,hy,QX,ur,T0];refine ah ?_;refine cr rfl ?_;refine cd ?_;refine aS ?_;simp -dsimp only[simprocAttr,↓aa,zp,hx,U7,Uq];refine ah ?_;refine c9 ?_;simp -dsimp only[simprocAttr,↓aa,zp,ur];refine ah ?_;refine cr rfl ?_;refine cd ?_;refine aS ?_;simp -dsimp only[simprocAttr,↓aa,zp,hy];refine ah ?_;refine c9 ?_;simp -dsimp only[simprocAttr,↓aa,zp,tC];refine ah ?_;refine cH rfl ?_;refine aA (ah ?_);refine aq ?_;simp -dsimp only[simprocAttr,↓aa,zp,zr,Tryz.results137,cv];exact⟨bG,fW⟩
    have tC:decide (y.n<0)=false:=decide_eq_false WO;have B7:decide ((L.length:Int)<=y.n)=true:=decide_eq_true Gp;refine zf true O.length Tryz.func137 Tryz.ntmps137 ?_;dsimp only[Tmp,TypeId,slotsOf];refine aA (ah ?_);refine b7 4 0 ([aI i.to,aI i.op,aI i.n,aK i.args]) rfl rfl (by rfl) ?_;simp -dsimp only[simprocAttr,↓aa,zp];refine bX (ah ?_);refine ai ?_;refine aS ?_;simp -dsimp only[simprocAttr,↓aa,zp,lk];refine ah ?_;refine cr rfl ?_;refine aS ?_;simp -dsimp only[simprocAttr,↓aa,zp,pX];refine ah ?_;refine cr rfl ?_;refine aS ?_;simp -dsimp only[simprocAttr,↓aa,zp,uu];refine ah ?_;refine cr rfl ?_;refine la ?_;refine c9 ?_;simp -dsimp only[simprocAttr,↓aa,zp,hx,hy,QX,ur,T0];refine ah ?_;refine cr rfl ?_;refine cd ?_;refine aS ?_;simp -dsimp only[simprocAttr,↓aa,zp,hx,U7,Uq];refine ah ?_;refine c9 ?_;simp -dsimp only[simprocAttr,↓aa,zp,ur];refine ah ?_;refine cr rfl ?_;refine cd ?_;refine aS ?_;simp -dsimp only[simprocAttr,↓aa,zp,hy];refine ah ?_;refine c9 ?_;simp -dsimp only[simprocAttr,↓aa,zp,tC,B7];refine ah ?_;refine cH rfl ?_;refine aA (ah ?_);refine aq ?_;simp -dsimp only[simprocAttr,↓aa,zp,zr,Tryz.results137,cv];exact⟨bG,fW⟩
   have tC:decide (y.n<0)=false:=decide_eq_false (by omega);have B7:decide ((L.length:Int)<=y.n)=false:=decide_eq_false (by omega);obtain⟨k,pF⟩:∃k:Nat,y.n=k:=⟨y.n.toNat,by omega⟩
   have Gz:k<L.length:=by omega
   have dk:=SV.Pj L;by_cases Uz:i.op=19
   ·have Sb:decide (i.op=19)=true:=decide_eq_true Uz;obtain⟨z,hz⟩:∃z,L[k]?=some z:=⟨L[k],by simp[Gz]⟩
    have UN:=gf hz;have fm:=SV.GX hz;have OY:SV.bp O.length z:=ZE z (List.mem_of_getElem? hz);have eX:m.effect i args=(m,z,0):=by simp[Mach.effect,Oa,Uz,vR,TI,hk,H2,hL,hb,pF,UN,Gz]
    rw[eX];refine⟨O,?_,.inl ⟨rfl,rfl⟩⟩;refine zf true O.length Tryz.func137 Tryz.ntmps137 ?_;dsimp only[Tmp,TypeId,slotsOf];refine aA (ah ?_);refine b7 4 0 ([aI i.to,aI i.op,aI i.n,aK i.args]) rfl rfl (by rfl) ?_;simp -dsimp only[simprocAttr,↓aa,zp];refine bX (ah ?_);refine ai ?_;refine aS ?_;simp -dsimp only[simprocAttr,↓aa,zp,lk];refine ah ?_;refine cr rfl ?_;refine aS ?_;simp -dsimp only[simprocAttr,↓aa,zp,pX];refine ah ?_;refine cr rfl ?_;refine aS ?_;simp -dsimp only[simprocAttr,↓aa,zp,uu];refine ah ?_;refine cr rfl ?_;refine la ?_;refine c9 ?_;simp -dsimp only[simprocAttr,↓aa,zp,hx,hy,QX,ur,T0];refine ah ?_;refine cr rfl ?_;refine cd ?_;refine aS ?_;simp -dsimp only[simprocAttr,↓aa,zp,hx,U7,Uq];refine ah ?_;refine c9 ?_;simp -dsimp only[simprocAttr,↓aa,zp,ur];refine ah ?_;refine cr rfl ?_;refine cd ?_;refine aS ?_;simp -dsimp only[simprocAttr,↓aa,zp,hy];refine ah ?_;refine c9 ?_;simp -dsimp only[simprocAttr,↓aa,zp,tC,B7];refine ah ?_;refine cr rfl ?_;refine cd ?_;refine c9 ?_;simp -dsimp only[simprocAttr,↓aa,zp,Sb];refine ah ?_;refine cH rfl ?_;refine aS ?_;simp -dsimp only[simprocAttr,↓aa,zp,pF,Zp,dk,fm]
    repeat(refine⟨by omega,?_⟩)
    refine ah ?_;refine aq ?_;simp -dsimp only[simprocAttr,↓aa,zp,zr,Tryz.results137];exact⟨bG,wP OY⟩
   have Sb:decide (i.op=19)=false:=decide_eq_false Uz;obtain⟨z,hz⟩:=h2 Oa Uz;have UN:=gf hz;have iw:=SV.Pk Gz z;rw[SV.ak]at iw;have OY:SV.bp O.length z:=hl z (List.mem_of_getElem? hz);have eX:m.effect i args=({ m with heap:=Mach.kK m.heap x.arr (L.set k z) },.word 0,0):=by simp[Mach.effect,Aa,yB,Bf,Oa,Uz,vR,TI,hk,H2,hL,hb,pF,UN,Gz]
   rw[eX];obtain⟨O1,dV⟩:∃O1,O1=O.set eg (.cells (au ((L.set k z).map SV.enc))):=⟨_,rfl⟩
   have hlen:O.length=O1.length:=by rw[dV];simp
   have eI:∀o∈O1,o.upto O1.length:=by
    rw[<-hlen,dV];refine bz bG (SV.jM fun v hv=>?_);rcases List.mem_or_eq_of_mem_set hv with q|q
    ·exact ZE v q
    exact q ▸ OY
   have wg:∀X y,(O++X).set eg y=O.set eg y++X:=fun X y=>lz e3;refine⟨O1,?_,.inr ⟨l8,eg,k,z,L,e1,e2,e3,Gz,hL.symm,OY,dV,rfl⟩⟩;refine zf true O.length Tryz.func137 Tryz.ntmps137 ?_;dsimp only[Tmp,TypeId,slotsOf];refine aA (ah ?_);refine b7 4 0 ([aI i.to,aI i.op,aI i.n,aK i.args]) rfl rfl (by rfl) ?_;simp -dsimp only[simprocAttr,↓aa,zp];refine bX (ah ?_);refine ai ?_;refine aS ?_;simp -dsimp only[simprocAttr,↓aa,zp,lk];refine ah ?_;refine cr rfl ?_;refine aS ?_;simp -dsimp only[simprocAttr,↓aa,zp,pX];refine ah ?_;refine cr rfl ?_;refine aS ?_;simp -dsimp only[simprocAttr,↓aa,zp,uu];refine ah ?_;refine cr rfl ?_;refine la ?_;refine c9 ?_;simp -dsimp only[simprocAttr,↓aa,zp,hx,hy,QX,ur,T0];refine ah ?_;refine cr rfl ?_;refine cd ?_;refine aS ?_;simp -dsimp only[simprocAttr,↓aa,zp,hx,U7,Uq];refine ah ?_;refine c9 ?_;simp -dsimp only[simprocAttr,↓aa,zp,ur];refine ah ?_;refine cr rfl ?_;refine cd ?_;refine aS ?_;simp -dsimp only[simprocAttr,↓aa,zp,hy];refine ah ?_;refine c9 ?_;simp -dsimp only[simprocAttr,↓aa,zp,tC,B7];refine ah ?_;refine cr rfl ?_;refine cd ?_;refine c9 ?_;simp -dsimp only[simprocAttr,↓aa,zp,Sb];refine ah ?_;refine cr rfl ?_;refine cd ?_;refine aS ?_;simp -dsimp only[simprocAttr,↓aa,zp,pF,hz,Zp,dk,SV.dc,iw,wg,<-dV]
   repeat(refine⟨by omega,?_⟩)
   refine ah ?_;refine aS ?_;simp -dsimp only[simprocAttr,↓aa,zp,hlen];refine .inl ⟨_,cX 0,by simp only[aw,ae.upto,zt,zu,az],ao ?_⟩;simp -dsimp only[simprocAttr,↓aa,zp,dt];refine ah ?_;refine aq ?_;simp -dsimp only[simprocAttr,↓aa,zp,zr,Tryz.results137,fE,hlen];exact⟨eI,l9⟩
  have T0:decide (y.kind=0)=false:=decide_eq_false H2;have eX:m.effect i args=(m,.zero,5):=by simp[Mach.effect,Aa,yB,Bf,Oa,vR,TI,hk,H2]
  rw[eX];refine⟨O,?_,.inl ⟨rfl,rfl⟩⟩;refine zf true O.length Tryz.func137 Tryz.ntmps137 ?_;dsimp only[Tmp,TypeId,slotsOf];refine aA (ah ?_);refine b7 4 0 ([aI i.to,aI i.op,aI i.n,aK i.args]) rfl rfl (by rfl) ?_;simp -dsimp only[simprocAttr,↓aa,zp];refine bX (ah ?_);refine ai ?_;refine aS ?_;simp -dsimp only[simprocAttr,↓aa,zp,lk];refine ah ?_;refine cr rfl ?_;refine aS ?_;simp -dsimp only[simprocAttr,↓aa,zp,pX];refine ah ?_;refine cr rfl ?_;refine aS ?_;simp -dsimp only[simprocAttr,↓aa,zp,uu];refine ah ?_;refine cr rfl ?_;refine la ?_;refine c9 ?_;simp -dsimp only[simprocAttr,↓aa,zp,hx,hy,QX,ur,T0];refine ah ?_;refine cH rfl ?_;refine aA (ah ?_);refine aq ?_;simp -dsimp only[simprocAttr,↓aa,zp,zr,Tryz.results137,cv];exact⟨bG,fW⟩
 have QX:decide (x.kind=3)=false:=decide_eq_false hk;have eX:m.effect i args=(m,.zero,5):=by simp[Mach.effect,Aa,yB,Bf,vR,hk]
 rw[eX];refine⟨O,?_,.inl ⟨rfl,rfl⟩⟩;refine zf true O.length Tryz.func137 Tryz.ntmps137 ?_;dsimp only[Tmp,TypeId,slotsOf];refine aA (ah ?_);refine b7 4 0 ([aI i.to,aI i.op,aI i.n,aK i.args]) rfl rfl (by rfl) ?_;simp -dsimp only[simprocAttr,↓aa,zp];refine bX (ah ?_);refine ai ?_;refine aS ?_;simp -dsimp only[simprocAttr,↓aa,zp,lk];refine ah ?_;refine cr rfl ?_;refine aS ?_;simp -dsimp only[simprocAttr,↓aa,zp,pX];refine ah ?_;refine cr rfl ?_;refine aS ?_;simp -dsimp only[simprocAttr,↓aa,zp,uu];refine ah ?_;refine cr rfl ?_;refine la ?_;refine c9 ?_;simp -dsimp only[simprocAttr,↓aa,zp,hx,QX];refine ah ?_;refine cH rfl ?_;refine aA (ah ?_);refine aq ?_;simp -dsimp only[simprocAttr,↓aa,zp,zr,Tryz.results137,cv];exact⟨bG,fW⟩
theorem Kg{u:bY}{m:Mach}{O:List aj}(bG:∀o∈O,o.upto O.length)(i:Ins)(args:List SV)(hl:∀v∈args,SV.bp O.length v)(kq:i.op=0):bd Tryz.prog 115 O [.mp 2 0,i.enc,.aC 4 (args.map SV.enc) .sh] (fun r O'=>r=.cD [(m.exec i args).2.1.enc,aI (m.exec i args).2.2]∧O'=O):=by
 refine zf true O.length Tryz.func115 Tryz.ntmps115 ?_;dsimp only[Tmp,TypeId,slotsOf];refine aA (ah ?_);refine b7 4 0 ([aI i.to,aI i.op,aI i.n,aK i.args]) rfl rfl (by rfl) ?_;simp -dsimp only[simprocAttr,↓aa,zp];refine bX (ah ?_);refine ai ?_;refine aA (ah ?_);apply aP rfl<;>intro h
 ·refine aA ?_;refine .inl ⟨_,cX i.n,by simp only[aw,ae.upto,zt,zu,az],ao ?_⟩;simp -dsimp only[simprocAttr,↓aa,zp,dt];refine ah ?_;refine aq ?_;simp -dsimp only[simprocAttr,↓aa,zp,zr,Tryz.results115,fE];refine⟨bG,l9,?_⟩;simp[Mach.exec,kq]
 exact af h (by omega)
theorem Eu{u:bY}{m:Mach}{O:List aj}(bG:∀o∈O,o.upto O.length)(i:Ins)(args:List SV)(hl:∀v∈args,SV.bp O.length v)(kq:1<=i.op∧i.op<=7)(x y:SV)(hx:args[0]?=some x)(hy:args[1]?=some y)(YW:x.kind=0->fU x.n)(YZ:y.kind=0->fU y.n):bd Tryz.prog 115 O [.mp 2 0,i.enc,.aC 4 (args.map SV.enc) .sh] (fun r O'=>r=.cD [(m.exec i args).2.1.enc,aI (m.exec i args).2.2]∧O'=O):=by
 have vR:=gf hx;have TI:=gf hy;have cz:=zD bG args hl 0;have h0:i.op≠0:=by omega
 cases hk:lf args 0 with
 | false =>
  rw[hk]at cz;refine zf true O.length Tryz.func115 Tryz.ntmps115 ?_;dsimp only[Tmp,TypeId,slotsOf];refine aA (ah ?_);refine b7 4 0 ([aI i.to,aI i.op,aI i.n,aK i.args]) rfl rfl (by rfl) ?_;simp -dsimp only[simprocAttr,↓aa,zp];refine bX (ah ?_);refine ai ?_;refine aA (ah ?_);apply aP rfl<;>intro h
  ·exact ab h (by omega)
  refine bX (ah ?_);refine kg (⟨82,[(0,.mp 2 0),(2,.aC 4 (args.map SV.enc) .sh),(4,.ip none [aI i.to,aI i.op,aI i.n,aK i.args]),(6,.mp (O.length+1) 0),(7,aI 0),(9,aI i.op),(15,.v (.bool true))],O++[.gone,.cells [aI 0,aI 0,.aC 4 [] .ex,.v (.pointer none)]]⟩) ?_ ?_
  ·apply aP rfl<;>intro h
   ·refine a6 ?_;show bc _ _;refine zq rfl ?_ ?_;simp -dsimp only[simprocAttr,↓aa,zp,zc]
    ·exact Sub.of_eq (by rw[h])
    rfl
   refine aA (ah ?_);apply aP rfl<;>intro h
   ·refine a6 ?_;show bc _ _;refine zq rfl ?_ ?_;simp -dsimp only[simprocAttr,↓aa,zp,zc]
    ·exact Sub.of_eq (by rw[h])
    rfl
   refine aA (ah ?_);apply aP rfl<;>intro h
   ·refine a6 ?_;show bc _ _;refine zq rfl ?_ ?_;simp -dsimp only[simprocAttr,↓aa,zp,zc]
    ·exact Sub.of_eq (by rw[h])
    rfl
   refine aA (ah ?_);apply aP rfl<;>intro h
   ·refine a6 ?_;show bc _ _;refine zq rfl ?_ ?_;simp -dsimp only[simprocAttr,↓aa,zp,zc]
    ·exact Sub.of_eq (by rw[h])
    rfl
   refine aA (ah ?_);apply aP rfl<;>intro h
   ·refine a6 ?_;show bc _ _;refine zq rfl ?_ ?_;simp -dsimp only[simprocAttr,↓aa,zp,zc]
    ·exact Sub.of_eq (by rw[h])
    rfl
   refine aA (ah ?_);apply aP rfl<;>intro h
   ·refine a6 ?_;show bc _ _;refine zq rfl ?_ ?_;simp -dsimp only[simprocAttr,↓aa,zp,zc]
    ·exact Sub.of_eq (by rw[h])
    rfl
   refine cT ?_;refine ba ?_;show bc _ _;refine zq rfl ?_ ?_;simp -dsimp only[simprocAttr,↓aa,zp,zc]
   ·exact Sub.of_eq (by rw[decide_eq_true (show i.op=7 by simp only[decide_eq_false_iff_not]at *;omega)])
   rfl
  refine cH rfl ?_;refine bX ?_;refine .inr (.inr ⟨_,cz _,ao (zj ?_)⟩);refine ah ?_;refine cH rfl ?_;refine aA (ah ?_);refine aq ?_;simp -dsimp only[simprocAttr,↓aa,zp,zr,Tryz.results115,cv];refine⟨bG,fW,?_⟩;simp[Mach.exec,kq,h0,hk]
 | true =>
  rw[hk]at cz;have Vr:x.kind=0:=by
   simp only[lf,List.all_eq_true,decide_eq_true_eq]at hk;exact hk x (List.mem_of_getElem? hx)
  have hky:y.kind=0:=by
   simp only[lf,List.all_eq_true,decide_eq_true_eq]at hk;exact hk y (List.mem_of_getElem? hy)
  have XU:=tv i.op x.n y.n (YW Vr) (YZ hky);have UU:=qd O.length i.op x.n y.n;have eX:m.exec i args=(m,df i.op x.n y.n):=by simp[Mach.exec,kq,h0,hk,vR,TI]
  rw[eX];generalize df i.op x.n y.n=B at *;refine zf true O.length Tryz.func115 Tryz.ntmps115 ?_;dsimp only[Tmp,TypeId,slotsOf];refine aA (ah ?_);refine b7 4 0 ([aI i.to,aI i.op,aI i.n,aK i.args]) rfl rfl (by rfl) ?_;simp -dsimp only[simprocAttr,↓aa,zp];refine bX (ah ?_);refine ai ?_;refine aA (ah ?_);apply aP rfl<;>intro h
  ·exact ab h (by omega)
  refine bX (ah ?_);refine kg (⟨82,[(0,.mp 2 0),(2,.aC 4 (args.map SV.enc) .sh),(4,.ip none [aI i.to,aI i.op,aI i.n,aK i.args]),(6,.mp (O.length+1) 0),(7,aI 0),(9,aI i.op),(15,.v (.bool true))],O++[.gone,.cells [aI 0,aI 0,.aC 4 [] .ex,.v (.pointer none)]]⟩) ?_ ?_
  ·apply aP rfl<;>intro h
   ·refine a6 ?_;show bc _ _;refine zq rfl ?_ ?_;simp -dsimp only[simprocAttr,↓aa,zp,zc]
    ·exact Sub.of_eq (by rw[h])
    rfl
   refine aA (ah ?_);apply aP rfl<;>intro h
   ·refine a6 ?_;show bc _ _;refine zq rfl ?_ ?_;simp -dsimp only[simprocAttr,↓aa,zp,zc]
    ·exact Sub.of_eq (by rw[h])
    rfl
   refine aA (ah ?_);apply aP rfl<;>intro h
   ·refine a6 ?_;show bc _ _;refine zq rfl ?_ ?_;simp -dsimp only[simprocAttr,↓aa,zp,zc]
    ·exact Sub.of_eq (by rw[h])
    rfl
   refine aA (ah ?_);apply aP rfl<;>intro h
   ·refine a6 ?_;show bc _ _;refine zq rfl ?_ ?_;simp -dsimp only[simprocAttr,↓aa,zp,zc]
    ·exact Sub.of_eq (by rw[h])
    rfl
   refine aA (ah ?_);apply aP rfl<;>intro h
   ·refine a6 ?_;show bc _ _;refine zq rfl ?_ ?_;simp -dsimp only[simprocAttr,↓aa,zp,zc]
    ·exact Sub.of_eq (by rw[h])
    rfl
   refine aA (ah ?_);apply aP rfl<;>intro h
   ·refine a6 ?_;show bc _ _;refine zq rfl ?_ ?_;simp -dsimp only[simprocAttr,↓aa,zp,zc]
    ·exact Sub.of_eq (by rw[h])
    rfl
   refine cT ?_;refine ba ?_;show bc _ _;refine zq rfl ?_ ?_;simp -dsimp only[simprocAttr,↓aa,zp,zc]
   ·exact Sub.of_eq (by rw[decide_eq_true (show i.op=7 by simp only[decide_eq_false_iff_not]at *;omega)])
   rfl
  refine cH rfl ?_;refine bX ?_;refine .inr (.inr ⟨_,cz _,ao (zj ?_)⟩);refine ah ?_;refine cr rfl ?_;refine cd ?_;refine aS ?_;simp -dsimp only[simprocAttr,↓aa,zp,hx,hy];refine zi XU ?_;refine⟨ob (by kernel_rfl),?_⟩;refine ah ?_;refine aq ?_;simp -dsimp only[simprocAttr,↓aa,zp,zr,Tryz.results115];exact⟨bG,wP UU⟩
theorem Kf{u:bY}{m:Mach}{O:List aj}(bG:∀o∈O,o.upto O.length)(i:Ins)(args:List SV)(hl:∀v∈args,SV.bp O.length v)(kq:i.op=8):bd Tryz.prog 115 O [.mp 2 0,i.enc,.aC 4 (args.map SV.enc) .sh] (fun r O'=>r=.cD [(m.exec i args).2.1.enc,aI (m.exec i args).2.2]∧O'=O):=by
 have hz:=(SV.bp.mk (k:=1) (m:=i.n) (a:=none) (by simp) hl).aQ;rw[SV.jN]at hz;refine zf true O.length Tryz.func115 Tryz.ntmps115 ?_;dsimp only[Tmp,TypeId,slotsOf];refine aA (ah ?_);refine b7 4 0 ([aI i.to,aI i.op,aI i.n,aK i.args]) rfl rfl (by rfl) ?_;simp -dsimp only[simprocAttr,↓aa,zp];refine bX (ah ?_);refine ai ?_;refine aA (ah ?_);apply aP rfl<;>intro h
 ·exact ab h (by omega)
 refine bX (ah ?_);apply aP rfl<;>intro h
 ·exact ab h (by omega)
 refine aA (ah ?_);apply aP rfl<;>intro h
 ·exact ab h (by omega)
 refine aA (ah ?_);apply aP rfl<;>intro h
 ·exact ab h (by omega)
 refine aA (ah ?_);apply aP rfl<;>intro h
 ·exact ab h (by omega)
 refine aA (ah ?_);apply aP rfl<;>intro h
 ·exact ab h (by omega)
 refine aA (ah ?_);apply aP rfl<;>intro h
 ·exact ab h (by omega)
 refine cT (ah ?_);apply aP rfl<;>intro h
 ·exact ab h (by omega)
 refine aA (ah ?_);apply aP rfl<;>intro h
 ·refine aA (ah ?_);refine aq ?_;simp -dsimp only[simprocAttr,↓aa,zp,zr,Tryz.results115];refine⟨bG,⟨hz,trivial,trivial⟩,?_⟩;simp[Mach.exec,kq,SV.jN,eP]
 exact af h (by omega)
theorem HA{u:bY}{m:Mach}{O:List aj}(bG:∀o∈O,o.upto O.length)(i:Ins)(args:List SV)(hl:∀v∈args,SV.bp O.length v)(kq:i.op=9):bd Tryz.prog 115 O [.mp 2 0,i.enc,.aC 4 (args.map SV.enc) .sh] (fun r O'=>r=.cD [(m.exec i args).2.1.enc,aI (m.exec i args).2.2]∧O'=O):=by
 have hz:=(SV.bp.mk (k:=2) (m:=i.n) (a:=none) (by simp) hl).aQ;rw[SV.jN]at hz;refine zf true O.length Tryz.func115 Tryz.ntmps115 ?_;dsimp only[Tmp,TypeId,slotsOf];refine aA (ah ?_);refine b7 4 0 ([aI i.to,aI i.op,aI i.n,aK i.args]) rfl rfl (by rfl) ?_;simp -dsimp only[simprocAttr,↓aa,zp];refine bX (ah ?_);refine ai ?_;refine aA (ah ?_);apply aP rfl<;>intro h
 ·exact ab h (by omega)
 refine bX (ah ?_);apply aP rfl<;>intro h
 ·exact ab h (by omega)
 refine aA (ah ?_);apply aP rfl<;>intro h
 ·exact ab h (by omega)
 refine aA (ah ?_);apply aP rfl<;>intro h
 ·exact ab h (by omega)
 refine aA (ah ?_);apply aP rfl<;>intro h
 ·exact ab h (by omega)
 refine aA (ah ?_);apply aP rfl<;>intro h
 ·exact ab h (by omega)
 refine aA (ah ?_);apply aP rfl<;>intro h
 ·exact ab h (by omega)
 refine cT (ah ?_);apply aP rfl<;>intro h
 ·exact ab h (by omega)
 refine aA (ah ?_);apply aP rfl<;>intro h
 ·exact ab h (by omega)
 refine aA (ah ?_);apply aP rfl<;>intro h
 ·refine aA (ah ?_);refine aq ?_;simp -dsimp only[simprocAttr,↓aa,zp,zr,Tryz.results115];refine⟨bG,⟨hz,trivial,trivial⟩,?_⟩;simp[Mach.exec,kq,SV.jN,eP]
 exact af h (by omega)
theorem Kh{u:bY}{m:Mach}{O:List aj}(bG:∀o∈O,o.upto O.length)(i:Ins)(args:List SV)(hl:∀v∈args,SV.bp O.length v)(kq:i.op=10∨i.op=11∨i.op=12∨i.op=21)(hC:bd Tryz.prog 135 O [i.enc,.aC 4 (args.map SV.enc) .sh] (fun r O'=>r=.cD [(cV i args).1.enc,aI (cV i args).2]∧O'=O))(hR:SV.bp O.length (cV i args).1):bd Tryz.prog 115 O [.mp 2 0,i.enc,.aC 4 (args.map SV.enc) .sh] (fun r O'=>r=.cD [(m.exec i args).2.1.enc,aI (m.exec i args).2.2]∧O'=O):=by
 have dD:=bd.frame hC rfl ⟨i.aQ _,⟨SV.ag hl,trivial⟩,trivial⟩ bG;have eX:m.exec i args=(m,cV i args):=by
  unfold Mach.exec;rw[if_neg (by omega),if_neg (by omega),if_neg (by omega),if_neg (by omega),if_pos kq]
 rw[eX];generalize cV i args=B at *;refine zf true O.length Tryz.func115 Tryz.ntmps115 ?_;dsimp only[Tmp,TypeId,slotsOf];refine aA (ah ?_);refine b7 4 0 ([aI i.to,aI i.op,aI i.n,aK i.args]) rfl rfl (by rfl) ?_;simp -dsimp only[simprocAttr,↓aa,zp];refine bX (ah ?_);refine ai ?_;refine aA (ah ?_);apply aP rfl<;>intro h
 ·exact ab h (by omega)
 refine bX (ah ?_);apply aP rfl<;>intro h
 ·exact ab h (by omega)
 refine aA (ah ?_);apply aP rfl<;>intro h
 ·exact ab h (by omega)
 refine aA (ah ?_);apply aP rfl<;>intro h
 ·exact ab h (by omega)
 refine aA (ah ?_);apply aP rfl<;>intro h
 ·exact ab h (by omega)
 refine aA (ah ?_);apply aP rfl<;>intro h
 ·exact ab h (by omega)
 refine aA (ah ?_);apply aP rfl<;>intro h
 ·exact ab h (by omega)
 refine cT (ah ?_);apply aP rfl<;>intro h
 ·exact ab h (by omega)
 refine aA (ah ?_);apply aP rfl<;>intro h
 ·exact ab h (by omega)
 refine aA (ah ?_);apply aP rfl<;>intro h
 ·exact ab h (by omega)
 refine bX (ah ?_);refine kg (⟨82,[(0,.mp 2 0),(2,.aC 4 (args.map SV.enc) .sh),(4,.ip none [aI i.to,aI i.op,aI i.n,aK i.args]),(6,.mp (O.length+1) 0),(7,aI 0),(9,aI i.op),(52,.v (.bool true))],O++[.gone,.cells [aI 0,aI 0,.aC 4 [] .ex,.v (.pointer none)]]⟩) ?_ ?_
 ·apply aP rfl<;>intro h
  ·refine a6 ?_;show bc _ _;refine zq rfl ?_ ?_;simp -dsimp only[simprocAttr,↓aa,zp,zc]
   ·exact Sub.of_eq (by rw[h])
   rfl
  refine aA (ah ?_);apply aP rfl<;>intro h
  ·refine a6 ?_;show bc _ _;refine zq rfl ?_ ?_;simp -dsimp only[simprocAttr,↓aa,zp,zc]
   ·exact Sub.of_eq (by rw[h])
   rfl
  refine aA (ah ?_);apply aP rfl<;>intro h
  ·refine a6 ?_;show bc _ _;refine zq rfl ?_ ?_;simp -dsimp only[simprocAttr,↓aa,zp,zc]
   ·exact Sub.of_eq (by rw[h])
   rfl
  refine cT ?_;refine ba ?_;show bc _ _;refine zq rfl ?_ ?_;simp -dsimp only[simprocAttr,↓aa,zp,zc]
  ·exact Sub.of_eq (by rw[decide_eq_true (show i.op=21 by simp only[decide_eq_false_iff_not]at *;omega)])
  rfl
 refine cH rfl ?_;refine aA ?_;refine .inr (.inr ⟨_,dD _,ao (zj ?_)⟩);refine ah ?_;refine aq ?_;simp -dsimp only[simprocAttr,↓aa,zp,zr,Tryz.results115];exact⟨bG,wP hR⟩
theorem Ki{u:bY}{m:Mach}{O:List aj}(bG:∀o∈O,o.upto O.length)(i:Ins)(args:List SV)(hl:∀v∈args,SV.bp O.length v)(kq:i.op=22∨i.op=23∨i.op=24)(hC:bd Tryz.prog 136 O [i.enc,.aC 4 (args.map SV.enc) .sh] (fun r O'=>r=.cD [(di i args).1.enc,aI (di i args).2]∧O'=O))(hR:SV.bp O.length (di i args).1):bd Tryz.prog 115 O [.mp 2 0,i.enc,.aC 4 (args.map SV.enc) .sh] (fun r O'=>r=.cD [(m.exec i args).2.1.enc,aI (m.exec i args).2.2]∧O'=O):=by
 have dD:=bd.frame hC rfl ⟨i.aQ _,⟨SV.ag hl,trivial⟩,trivial⟩ bG;have eX:m.exec i args=(m,di i args):=by
  unfold Mach.exec;rw[if_neg (by omega),if_neg (by omega),if_neg (by omega),if_neg (by omega),if_neg (by omega),if_pos kq]
 rw[eX];generalize di i args=B at *;refine zf true O.length Tryz.func115 Tryz.ntmps115 ?_;dsimp only[Tmp,TypeId,slotsOf];refine aA (ah ?_);refine b7 4 0 ([aI i.to,aI i.op,aI i.n,aK i.args]) rfl rfl (by rfl) ?_;simp -dsimp only[simprocAttr,↓aa,zp];refine bX (ah ?_);refine ai ?_;refine aA (ah ?_);apply aP rfl<;>intro h
 ·exact ab h (by omega)
 refine bX (ah ?_);apply aP rfl<;>intro h
 ·exact ab h (by omega)
 refine aA (ah ?_);apply aP rfl<;>intro h
 ·exact ab h (by omega)
 refine aA (ah ?_);apply aP rfl<;>intro h
 ·exact ab h (by omega)
 refine aA (ah ?_);apply aP rfl<;>intro h
 ·exact ab h (by omega)
 refine aA (ah ?_);apply aP rfl<;>intro h
 ·exact ab h (by omega)
 refine aA (ah ?_);apply aP rfl<;>intro h
 ·exact ab h (by omega)
 refine cT (ah ?_);apply aP rfl<;>intro h
 ·exact ab h (by omega)
 refine aA (ah ?_);apply aP rfl<;>intro h
 ·exact ab h (by omega)
 refine aA (ah ?_);apply aP rfl<;>intro h
 ·exact ab h (by omega)
 refine bX (ah ?_);apply aP rfl<;>intro h
 ·exact ab h (by omega)
 refine aA (ah ?_);apply aP rfl<;>intro h
 ·exact ab h (by omega)
 refine aA (ah ?_);apply aP rfl<;>intro h
 ·exact ab h (by omega)
 refine cT (ah ?_);apply aP rfl<;>intro h
 ·exact ab h (by omega)
 refine bX (ah ?_);refine kg (⟨82,[(0,.mp 2 0),(2,.aC 4 (args.map SV.enc) .sh),(4,.ip none [aI i.to,aI i.op,aI i.n,aK i.args]),(6,.mp (O.length+1) 0),(7,aI 0),(9,aI i.op),(62,.v (.bool true))],O++[.gone,.cells [aI 0,aI 0,.aC 4 [] .ex,.v (.pointer none)]]⟩) ?_ ?_
 ·apply aP rfl<;>intro h
  ·refine a6 ?_;show bc _ _;refine zq rfl ?_ ?_;simp -dsimp only[simprocAttr,↓aa,zp,zc]
   ·exact Sub.of_eq (by rw[h])
   rfl
  refine aA (ah ?_);apply aP rfl<;>intro h
  ·refine a6 ?_;show bc _ _;refine zq rfl ?_ ?_;simp -dsimp only[simprocAttr,↓aa,zp,zc]
   ·exact Sub.of_eq (by rw[h])
   rfl
  refine cT ?_;refine ba ?_;show bc _ _;refine zq rfl ?_ ?_;simp -dsimp only[simprocAttr,↓aa,zp,zc]
  ·exact Sub.of_eq (by rw[decide_eq_true (show i.op=24 by simp only[decide_eq_false_iff_not]at *;omega)])
  rfl
 refine cH rfl ?_;refine aA ?_;refine .inr (.inr ⟨_,dD _,ao (zj ?_)⟩);refine ah ?_;refine aq ?_;simp -dsimp only[simprocAttr,↓aa,zp,zr,Tryz.results115];exact⟨bG,wP hR⟩
theorem HB{u:bY}{m:Mach}{O:List aj}(bG:∀o∈O,o.upto O.length)(i:Ins)(args:List SV)(hl:∀v∈args,SV.bp O.length v)(kq:i.op=100)(x:SV)(hx:args[0]?=some x):bd Tryz.prog 115 O [.mp 2 0,i.enc,.aC 4 (args.map SV.enc) .sh] (fun r O'=>r=.cD [(m.exec i args).2.1.enc,aI (m.exec i args).2.2]∧O'=O):=by
 have vR:=gf hx;have GI:=hl x (List.mem_of_getElem? hx);refine zf true O.length Tryz.func115 Tryz.ntmps115 ?_;dsimp only[Tmp,TypeId,slotsOf];refine aA (ah ?_);refine b7 4 0 ([aI i.to,aI i.op,aI i.n,aK i.args]) rfl rfl (by rfl) ?_;simp -dsimp only[simprocAttr,↓aa,zp];refine bX (ah ?_);refine ai ?_;refine aA (ah ?_);apply aP rfl<;>intro h
 ·exact ab h (by omega)
 refine bX (ah ?_);apply aP rfl<;>intro h
 ·exact ab h (by omega)
 refine aA (ah ?_);apply aP rfl<;>intro h
 ·exact ab h (by omega)
 refine aA (ah ?_);apply aP rfl<;>intro h
 ·exact ab h (by omega)
 refine aA (ah ?_);apply aP rfl<;>intro h
 ·exact ab h (by omega)
 refine aA (ah ?_);apply aP rfl<;>intro h
 ·exact ab h (by omega)
 refine aA (ah ?_);apply aP rfl<;>intro h
 ·exact ab h (by omega)
 refine cT (ah ?_);apply aP rfl<;>intro h
 ·exact ab h (by omega)
 refine aA (ah ?_);apply aP rfl<;>intro h
 ·exact ab h (by omega)
 refine aA (ah ?_);apply aP rfl<;>intro h
 ·exact ab h (by omega)
 refine bX (ah ?_);apply aP rfl<;>intro h
 ·exact ab h (by omega)
 refine aA (ah ?_);apply aP rfl<;>intro h
 ·exact ab h (by omega)
 refine aA (ah ?_);apply aP rfl<;>intro h
 ·exact ab h (by omega)
 refine cT (ah ?_);apply aP rfl<;>intro h
 ·exact ab h (by omega)
 refine bX (ah ?_);apply aP rfl<;>intro h
 ·exact ab h (by omega)
 refine aA (ah ?_);apply aP rfl<;>intro h
 ·exact ab h (by omega)
 refine cT (ah ?_);apply aP rfl<;>intro h
 ·exact ab h (by omega)
 refine aA (ah ?_);apply aP rfl<;>intro h
 ·refine aS ?_;simp -dsimp only[simprocAttr,↓aa,zp,hx];refine ah ?_;refine aq ?_;simp -dsimp only[simprocAttr,↓aa,zp,zr,Tryz.results115];refine⟨bG,wP GI,?_⟩;simp[Mach.exec,kq,vR]
 exact af h (by omega)
theorem BZ(m:Mach)(i:Ins)(args:List SV)(h0:i.op≠0)(h1:¬(1<=i.op∧i.op<=7))(h8:i.op≠8)(h9:i.op≠9)(yA:i.op≠10∧i.op≠11∧i.op≠12∧i.op≠21)(Ez:i.op≠22∧i.op≠23∧i.op≠24)(dH:i.op≠100):m.exec i args=m.effect i args:=by
 unfold Mach.exec;rw[if_neg h0,if_neg h1,if_neg h8,if_neg h9,if_neg (by omega),if_neg (by omega),if_neg dH]
theorem oD{O O':List aj}(bG:∀o∈O,o.upto O.length)(i:Ins)(args:List SV)(hl:∀v∈args,SV.bp O.length v)(h0:i.op≠0)(h1:¬(1<=i.op∧i.op<=7))(h8:i.op≠8)(h9:i.op≠9)(yA:i.op≠10∧i.op≠11∧i.op≠12∧i.op≠21)(Ez:i.op≠22∧i.op≠23∧i.op≠24)(dH:i.op≠100)(mq:2<O.length)(v:SV)(t:Int)(hv:SV.bp O.length v)
  (hC:bd Tryz.prog 137 O [.mp 2 0,i.enc,.aC 4 (args.map SV.enc) .sh] (fun r O1=>r=.cD [v.enc,aI t]∧O1=O')) (hlen:O.length=O'.length) (oe:∀o∈O',o.upto O'.length) :
  bd Tryz.prog 115 O [.mp 2 0,i.enc,.aC 4 (args.map SV.enc) .sh] (fun r O1=>r=.cD [v.enc,aI t]∧O1=O'):=by
 have dD:=bd.frame hC hlen.symm ⟨mq,i.aQ _,⟨SV.ag hl,trivial⟩,trivial⟩ bG;rw[hlen]at hv;refine zf true O.length Tryz.func115 Tryz.ntmps115 ?_;dsimp only[Tmp,TypeId,slotsOf];refine aA (ah ?_);refine b7 4 0 ([aI i.to,aI i.op,aI i.n,aK i.args]) rfl rfl (by rfl) ?_;simp -dsimp only[simprocAttr,↓aa,zp];refine bX (ah ?_);refine ai ?_;refine aA (ah ?_);apply aP rfl<;>intro h
 ·exact ab h (by omega)
 refine bX (ah ?_);apply aP rfl<;>intro h
 ·exact ab h (by omega)
 refine aA (ah ?_);apply aP rfl<;>intro h
 ·exact ab h (by omega)
 refine aA (ah ?_);apply aP rfl<;>intro h
 ·exact ab h (by omega)
 refine aA (ah ?_);apply aP rfl<;>intro h
 ·exact ab h (by omega)
 refine aA (ah ?_);apply aP rfl<;>intro h
 ·exact ab h (by omega)
 refine aA (ah ?_);apply aP rfl<;>intro h
 ·exact ab h (by omega)
 refine cT (ah ?_);apply aP rfl<;>intro h
 ·exact ab h (by omega)
 refine aA (ah ?_);apply aP rfl<;>intro h
 ·exact ab h (by omega)
 refine aA (ah ?_);apply aP rfl<;>intro h
 ·exact ab h (by omega)
 refine bX (ah ?_);apply aP rfl<;>intro h
 ·exact ab h (by omega)
 refine aA (ah ?_);apply aP rfl<;>intro h
 ·exact ab h (by omega)
 refine aA (ah ?_);apply aP rfl<;>intro h
 ·exact ab h (by omega)
 refine cT (ah ?_);apply aP rfl<;>intro h
 ·exact ab h (by omega)
 refine bX (ah ?_);apply aP rfl<;>intro h
 ·exact ab h (by omega)
 refine aA (ah ?_);apply aP rfl<;>intro h
 ·exact ab h (by omega)
 refine cT (ah ?_);apply aP rfl<;>intro h
 ·exact ab h (by omega)
 refine aA (ah ?_);apply aP rfl<;>intro h
 ·exact ab h (by omega)
 refine la ?_;refine aA ?_;refine .inr (.inl ⟨_,_,dD _,.inl (ao ?_)⟩);simp -dsimp only[simprocAttr,↓aa,zp,hlen];refine ah ?_;refine aq ?_;simp -dsimp only[simprocAttr,↓aa,zp,zr,Tryz.results115,hlen];exact⟨oe,wP hv⟩
theorem NZ{u:bY}{m:Mach}{O:List aj}(bG:∀o∈O,o.upto O.length)(Gn:O[2]?=some (.cells (aE u m)))(i:Ins)(size fill:SV)(hs:SV.bp O.length size)(hf:SV.bp O.length fill)
  (kq:i.op=16) (HG:0<=m.left) (h2:m.left<=2 ^ 40) (od:m.short=false) (hk:size.kind=0) (mH:0<=size.n) (tF:size.n<=1024) (hp:size.n<=m.left) :
  bd Tryz.prog 115 O [.mp 2 0,i.enc,.aC 4 [size.enc,fill.enc] .sh] (fun r O'=>r=.cD [.agg [aI 3,aI 0,.aC 4 [] .sh,.mp (O.length+8) 0],aI 0]∧O'=O.set 2 (.cells (aE u (m.cU size.n))) ++
   [.gone,.cells [aI 3,aI 0,.aC 4 [] .sh,.mp (O.length+8) 0],.gone,.cells [aI 3,aI 0,.aC 4 [] .sh,.mp (O.length+8) 0],.gone,.gone,.cells [aI 3,aI 0,.aC 4 [] .ex,.mp (O.length+8) 0],.cells (au ((List.replicate size.n.toNat fill).map SV.enc)),.cells [.ms (O.length+7) 0 size.n.toNat size.n.toNat]]):=by
 have HZ:∀o∈O++[.gone,.cells [aI 0,aI 0,.aC 4 [] .ex,.v (.pointer none)]],o.upto (O++[aj.gone,.cells [aI 0,aI 0,.aC 4 [] .ex,.v (.pointer none)]]).length:=fun o ho=>by
  rcases List.mem_append.1 ho with ho|ho
  ·exact aj.cj (by simp) (bG o ho)
  simp only[List.mem_cons,List.mem_nil_iff,or_false]at ho;rcases ho with rfl|rfl
  ·trivial
  simp[aj.upto,aw,ae.upto]
 have Yr:(O++[aj.gone,.cells [aI 0,aI 0,.aC 4 [] .ex,.v (.pointer none)]]).length=O.length+2:=by simp
 have dD:=Hy HZ (cw Gn) i size fill (hs.mono (by simp)) (hf.mono (by simp)) kq HG h2 od hk mH tF hp;have eI:=bw bG Gn (ds:=aE u (m.cU size.n)) (fun h=>bZ h (pO m size.n));rw[lz Gn,Yr]at dD;obtain⟨O1,dV⟩:∃O1,O1=O.set 2 (.cells (aE u (m.cU size.n))):=⟨_,rfl⟩
 have hlen:O.length=O1.length:=by rw[dV];simp
 simp only[<-dV]at dD eI ⊢;rw[hlen]at eI;have fX:∀v∈List.replicate size.n.toNat fill,SV.bp (O1.length+9) v:=fun v hv=>by
  rw[(List.mem_replicate.1 hv).2];exact hf.mono (by omega)
 have hc:=SV.jM fX;have h0:i.op≠0:=by omega
 generalize dk:au ((List.replicate size.n.toNat fill).map SV.enc)=row at *;refine zf true (O.length+9) Tryz.func115 Tryz.ntmps115 ?_;dsimp only[Tmp,TypeId,slotsOf];refine aA (ah ?_);refine b7 4 0 ([aI i.to,aI i.op,aI i.n,aK i.args]) rfl rfl (by rfl) ?_;simp -dsimp only[simprocAttr,↓aa,zp];refine bX (ah ?_);refine ai ?_;refine aA (ah ?_);apply aP rfl<;>intro h
 ·exact ab h (by omega)
 refine bX (ah ?_);apply aP rfl<;>intro h
 ·exact ab h (by omega)
 refine aA (ah ?_);apply aP rfl<;>intro h
 ·exact ab h (by omega)
 refine aA (ah ?_);apply aP rfl<;>intro h
 ·exact ab h (by omega)
 refine aA (ah ?_);apply aP rfl<;>intro h
 ·exact ab h (by omega)
 refine aA (ah ?_);apply aP rfl<;>intro h
 ·exact ab h (by omega)
 refine aA (ah ?_);apply aP rfl<;>intro h
 ·exact ab h (by omega)
 refine cT (ah ?_);apply aP rfl<;>intro h
 ·exact ab h (by omega)
 refine aA (ah ?_);apply aP rfl<;>intro h
 ·exact ab h (by omega)
 refine aA (ah ?_);apply aP rfl<;>intro h
 ·exact ab h (by omega)
 refine bX (ah ?_);apply aP rfl<;>intro h
 ·exact ab h (by omega)
 refine aA (ah ?_);apply aP rfl<;>intro h
 ·exact ab h (by omega)
 refine aA (ah ?_);apply aP rfl<;>intro h
 ·exact ab h (by omega)
 refine cT (ah ?_);apply aP rfl<;>intro h
 ·exact ab h (by omega)
 refine bX (ah ?_);apply aP rfl<;>intro h
 ·exact ab h (by omega)
 refine aA (ah ?_);apply aP rfl<;>intro h
 ·exact ab h (by omega)
 refine cT (ah ?_);apply aP rfl<;>intro h
 ·exact ab h (by omega)
 refine aA (ah ?_);apply aP rfl<;>intro h
 ·exact ab h (by omega)
 refine la ?_;refine aA ?_;refine .inr (.inl ⟨_,_,dD,.inl (ao ?_)⟩);simp -dsimp only[simprocAttr,↓aa,zp,hlen];refine ah ?_;refine aq ?_;simp -dsimp only[simprocAttr,↓aa,zp,zr,Tryz.results115,hlen];rw[pU];refine⟨fun o ho=>?_,by simp[aw,ae.upto],rfl⟩;rcases List.mem_append.1 ho with ho|ho
 ·exact aj.cj (by omega) (eI o ho)
 simp only[List.take_succ_cons,List.take_zero,List.mem_cons,List.mem_nil_iff,or_false]at ho;rcases ho with rfl|rfl|rfl|rfl|rfl|rfl|rfl|rfl|rfl
 ·trivial
 ·simp[aj.upto,aw,ae.upto]
 ·trivial
 ·simp[aj.upto,aw,ae.upto]
 ·trivial
 ·trivial
 ·simp[aj.upto,aw,ae.upto]
 ·exact hc
 simp[aj.upto,aw,ae.upto]
theorem qu:∀{es:List (Int×SV)} {ps:List Int} {l:List SV} {j:Nat} {p:Int} {a:SV},ps[j]?=some p->l[j]?=some a->cN es (ps.take (j+1)) (l.take (j+1))=cJ (cN es (ps.take j) (l.take j)) p a
 | es,q::ps,b::l,0,p,a,h1,h2=>by
  simp only[List.getElem?_cons_zero,Option.some.injEq]at h1 h2;subst h1;subst h2;simp[cN]
 | es,q::ps,b::l,j+1,p,a,h1,h2=>by
  have ih:=qu (es:=cJ es q b) (ps:=ps) (l:=l) (j:=j) (by simpa using h1) (by simpa using h2);simp only[List.take_succ_cons,cN];exact ih
 | _,[],_,_,_,_,h1,_=>by simp at h1
 | _,_::_,[],_,_,_,_,h2=>by simp at h2
theorem vl(es:List (Int×SV))(ps:List Int)(l:List SV):cN es (ps.take 0) (l.take 0)=es:=by simp[cN]
theorem k7:∀{es:List (Int×SV)} {ps:List Int} {l:List SV} {e:Int×SV},e∈cN es ps l->e∈es∨e.2∈l
 | es,[],_,e,h=>.inl (by simpa[cN]using h)
 | es,_::_,[],e,h=>.inl (by simpa[cN]using h)
 | es,p::ps,a::l,e,h=>by
  simp only[cN]at h;rcases k7 h with h|h
  ·rcases jU h with h|h
   ·exact .inl h
   exact .inr (by simp[h])
  exact .inr (by simp[h])
theorem kT{u:bY}{k:Int}(h0:0<=k)(h1:k<u.fns.length):u.fns[k.toNat]?=some (aL u k):=by
 have bg:k.toNat<u.fns.length:=by omega
 simp[aL,bg]
theorem ep{f:Func}{k:Int}(h0:0<=k)(h1:k<f.blocks.length):f.blocks[k.toNat]?=some (ax f k):=by
 have bg:k.toNat<f.blocks.length:=by omega
 simp[ax,bg]
theorem BU{es:List (Int×SV)}{n:Nat}(h:∀e∈es,SV.bp n e.2):lD n (es.map ic):=by
 induction es with
 | nil=>trivial
 | cons e r ih=>exact⟨(h e (by simp)).aQ,ih fun x hx=>h x (by simp[hx])⟩
theorem B1{u:bY}{m:Mach}{O:List aj}(bG:∀o∈O,o.upto O.length)(h0:O[2]?=some (.cells (aE u m)))(f:Fr)(hf:O[f.bW]?=some (.cells (aX f)))(hv:O[f.dx]?=some (.map (.int .i64) (f.vals.map ic)))
  (hu:∀e∈f.vals,SV.bp O.length e.2) (n0f:2≠f.bW) (n0m:2≠f.dx) (uT:f.bW≠f.dx) (mV:0<=f.fn∧f.fn<u.fns.length) (e:Edge) (he:zz (aL u f.fn) e) (f':Fr)
  (fC:f' = { f with blk:=e.block,pos:=0,vals:=cN f.vals (ax (aL u f.fn) e.block).params (cB f.vals e.args) }) :
  bd Tryz.prog 129 O [.mp 2 0,.mp f.bW 0,e.enc] (fun r O'=>r=.cD []∧O'=(O.set f.bW (.cells (aX f'))).set f.dx (.map (.int .i64) (f'.vals.map ic))):=by
 have ir:=jZ bG hf hv hu e.args he.len;have hF:=kT mV.1 mV.2;have hB:=ep he.lo he.hi;have lK:=he.args;have iK:=he.lo;have ZN:=he.len;have gL:=I hf;have Na:=I hv;have fo:=I h0;have htu:=pg hu e.args;have jD:(cB f.vals e.args).length=e.args.length:=by simp[cB]
 generalize hTk:cB f.vals e.args=T at *;generalize ax (aL u f.fn) e.block=B at *;generalize aL u f.fn=F at *;have hTm:=SV.ag htu;have hc:[aI f.fn,aI e.block,aI 0,aI f.to,.mm f.dx]=aX f':=by
  rw[fC];rfl
 obtain⟨O1,dV⟩:∃O1,O1=O.set f.bW (.cells (aX f')):=⟨_,rfl⟩
 have hlen:O.length=O1.length:=by rw[dV];simp
 have hs:=dz hf;have oL:O1[2]?=some (.cells (aE u m)):=by rw[dV];exact bx h0 n0f.symm
 have nq:O1[f.bW]?=some (.cells (aX f')):=by rw[dV];exact hs _
 have Co:O1[f.dx]?=some (.map (.int .i64) (f.vals.map ic)):=by rw[dV];exact bx hv uT
 have eI:∀o∈O1,o.upto O1.length:=by
  rw[<-hlen,dV];refine bw bG hf fun h=>?_;simp only[aX,aw,ae.upto,true_and,and_true]at h ⊢;rw[fC];exact h
 rw[<-dV];have hm2:∀x,(O1.set f.dx x)[2]?=some (.cells (aE u m)):=fun x=>bx oL n0m.symm;have HN:∀x,(O1.set f.dx x)[f.bW]?=some (.cells (aX f')):=fun x=>bx nq uT.symm;have Wa:∀x,(O1.set f.dx x)[f.dx]?=some x:=dz Co;unfold aE at oL hm2;have eh:=hf;unfold aX at eh;have Vh:aX f'=[aI f.fn,aI e.block,aI 0,aI f.to,.mm f.dx]:=hc.symm;have Vc:=nq;have Ve:=HN;rw[Vh]at Vc Ve;have wg:O1.set f.dx (.map (.int .i64) (f.vals.map ic))=O1:=mO Co;have eH:∀x,(O1.set f.dx x).take O1.length=O1.set f.dx x:=fun x=>cA;refine zf true O.length Tryz.func129 Tryz.ntmps129 ?_;dsimp only[Tmp,TypeId,slotsOf];refine aA (ah ?_);refine aY 5 ([aI e.block,aK e.args]) [(0,.mp 2 0),(1,.mp f.bW 0),(5,.ip none [aI e.block,aK e.args])] rfl (by rfl) (by omega) (by simp[bF,bh,Go.Av.look]) ?_ ?_ ?_
 ·exact bG
 ·simp[aw,ae.upto,az,gL,fo]
 refine aA ?_;refine .inr (.inr ⟨_,ir,ao (zj ?_)⟩);refine ah ?_;refine aS ?_;simp -dsimp only[simprocAttr,↓aa,zp,eh,hs,List.set_set,hc,<-dV];refine ah ?_;refine aS ?_;simp -dsimp only[simprocAttr,↓aa,zp,oL,Vc,hF,hB]
 repeat(refine⟨by omega,?_⟩)
 refine⟨ob (by kernel_rfl),?_⟩;refine ah ?_;refine ai (aO (ι:={j:Nat // j<=B.params.length}) (fun j=>⟨54,[(0,.mp 2 0),(1,.mp f.bW 0),(5,.ip none [aI e.block,aK e.args]),(6,.aC 4 (T.map SV.enc) .sh),(37,aK B.params),(38,aI B.params.length),(39,aI j.1)],O1.set f.dx (.map (.int .i64) ((cN f.vals (B.params.take j.1) (T.take j.1)).map ic))⟩) (fun j=>B.params.length-j.1) ⟨0,by omega⟩ ?_ ?_)
 ·refine zq rfl ?_ ?_;simp -dsimp only[simprocAttr,↓aa,zp,zc];rw[vl,wg]
 rintro⟨j,hj⟩;refine aA (ah ?_);apply iz rfl<;>intro h
 ·refine cd ?_;have bg:j<B.params.length:=by simpa using h
  obtain⟨p,hp⟩:∃p,B.params[j]?=some p:=⟨B.params[j],by simp[bg]⟩
  obtain⟨a,ha⟩:∃a,T[j]?=some a:=⟨T[j]'(by omega),List.getElem?_eq_getElem _⟩
  refine aJ (ai ?_);refine aS ?_;simp -dsimp only[simprocAttr,↓aa,zp,hp];refine ah ?_;refine kC ?_;simp -dsimp only[simprocAttr,↓aa,zp,Ve,ha,Wa,rZ,<-qu hp ha,List.set_set]
  repeat(refine⟨by omega,?_⟩)
  refine⟨ob (by kernel_rfl),?_⟩;refine ah ?_;refine cT ?_
  repeat(refine⟨by omega,?_⟩)
  refine fK ?_;refine⟨⟨j+1,bg⟩,by simp;omega,?_⟩;refine zq rfl ?_ ?_;simp -dsimp only[simprocAttr,↓aa,zp,zc]
  ·exact Sub.int (by simp)
  rfl
 refine aM ?_;simp -dsimp only[bS,ne_eq,Nat.reduceEqDiff,reduceCtorEq];have rK:j=B.params.length:=by simp at h;omega
 subst rK;have Ac:T.take B.params.length=T:=List.take_of_length_le (by omega)
 skip
 simp -dsimp only[simprocAttr,↓aa,zp,zr,Tryz.results129,hlen,Ac,List.take_length,eH,List.length_set];refine⟨bz eI (BU fun x hx=>?_),trivial,by rw[fC]⟩;rw[<-hlen];rcases k7 hx with q|q
 ·exact hu x q
 exact htu _ q
def jK(l:List Int):Nat->Int
 | 0=>0
 | k+1 =>
  match l[l.length-(k+1)]? with
  | none=>0
  | some c=>if !decide (fU c)then 4 else if oH (l.take (l.length-(k+1))) c then 7 else jK l k
def oC(f:Func):List Edge->Int
 | []=>0
 | e::r=>if !within e.block 1 ((f.blocks.length:Int)-1)then 4 else if e.args.length≠(ax f e.block).params.length then 3 else oC f r
def kE(f:Func)(t:Term):Int :=
 if !ef t then 3
 else if 256<t.cases.length then 2
 else if t.kind=4∧within t.n 1 6=false then 4
 else if jK t.cases t.cases.length≠0 then jK t.cases t.cases.length
 else oC f t.to
theorem BC{l:List Int}{j:Nat}{c:Int}(h:l[j]?=some c):jK l (l.length-j)=if !decide (fU c)then 4 else if oH (l.take j) c then 7 else jK l (l.length-(j+1)):=by
 have bg:=I h;obtain⟨k,hk⟩:∃k,l.length-j=k+1:=⟨l.length-j-1,by omega⟩
 have hj:l.length-(k+1)=j:=by omega
 rw[hk];simp only[jK,hj,h];rw[show l.length-(j+1)=k by omega]
theorem BQ{f:Func}{l:List Edge}{j:Nat}{e:Edge}(h:l[j]?=some e):oC f (l.drop j)=if !within e.block 1 ((f.blocks.length:Int)-1)then 4 else if e.args.length≠(ax f e.block).params.length then 3 else oC f (l.drop (j+1)):=by
 have bg:=I h;rw[List.getElem?_eq_getElem bg]at h;simp only[Option.some.injEq]at h;rw[List.drop_eq_getElem_cons bg,h];rfl
theorem within_iff{n lo hi:Int}:within n lo hi=true↔lo<=n∧n<=hi:=by
 simp[within]
theorem BT(f:Func)(t:Term)(gK:t.cases.length<=2 ^ 60)(pW:f.blocks.length<=2 ^ 60):bD Tryz.prog 80 [f.enc,t.enc] (aI (kE f t)):=by
 have kG:=FM t gK;have hw:=dU t.n 1 6;obtain⟨R,hR⟩:∃R,R=kE f t:=⟨_,rfl⟩
 rw[<-hR];unfold kE at hR;generalize ef t=sh at *;have Ca:∀e:Edge,bD Tryz.prog 30 [aI e.block,aI 1,aI ((f.blocks.length:Int)-1)] (.v (.bool (within e.block 1 ((f.blocks.length:Int)-1)))):=fun e=>dU _ _ _;have hkw:(t.kind=4∧within t.n 1 6=false)∨(¬(t.kind=4∧within t.n 1 6=false)∧((decide (t.kind=4)=false)∨(decide (t.kind=4)=true∧within t.n 1 6=true))):=by
  by_cases h4:t.kind=4
  ·cases Ri:within t.n 1 6
   ·exact .inl ⟨h4,rfl⟩
   exact .inr ⟨by simp,.inr ⟨decide_eq_true h4,rfl⟩⟩
  exact .inr ⟨fun q=>h4 q.1,.inl (decide_eq_false h4)⟩
 refine zf true 0 Tryz.func80 Tryz.ntmps80 ?_;dsimp only[Tmp,TypeId,slotsOf];refine aA (ah ?_);refine aD 2 0 (.ip none [aI f.name,ay f.blocks]) rfl (by simp[aj.aF]) trivial rfl ?_ ?_;rotate_left;simp -dsimp only[simprocAttr,↓aa,zp]
 ·refine aD 3 1 (.ip none [aI t.kind,aI t.arg,aI t.n,aK t.cases,aH t.to]) rfl (by simp[aj.aF]) trivial rfl ?_ ?_;rotate_left;simp -dsimp only[simprocAttr,↓aa,zp]
  ·by_cases Ae:sh=false∨256<t.cases.length∨(t.kind=4∧within t.n 1 6=false)
   ·refine aJ (ai ?_);refine aA ?_;refine zi kG ?_;refine ah ?_;cases sh with
    | false =>
     refine cH rfl ?_;refine aA (ah ?_);refine aq ?_;simp -dsimp only[simprocAttr,↓aa,zp,zr,Tryz.results80];simp[hR]
    | true =>
     refine cr rfl ?_;by_cases hc:256<t.cases.length
     ·have hd:decide ((256:Int)<t.cases.length)=true:=decide_eq_true (by omega);refine aS ?_;simp -dsimp only[simprocAttr,↓aa,zp,hd];refine ah ?_;refine cH rfl ?_;refine aA (ah ?_);refine aq ?_;simp -dsimp only[simprocAttr,↓aa,zp,zr,Tryz.results80];simp[hR,hc]
     have hd:decide ((256:Int)<t.cases.length)=false:=decide_eq_false (by omega);have hk:t.kind=4∧within t.n 1 6=false:=by
      rcases Ae with q|q|q
      ·cases q
      ·exact absurd q hc
      exact q
     have Ou:decide (t.kind=4)=true:=decide_eq_true hk.1;rw[hk.2]at hw;refine aS ?_;simp -dsimp only[simprocAttr,↓aa,zp,hd];refine ah ?_;refine cr rfl ?_;refine aS ?_;simp -dsimp only[simprocAttr,↓aa,zp,Ou];refine zi hw ?_;refine ah ?_;refine cH rfl ?_;refine aA (ah ?_);refine aq ?_;simp -dsimp only[simprocAttr,↓aa,zp,zr,Tryz.results80];simp[hR,hc,hk]
   have YK:sh=true:=by
    cases sh
    ·exact absurd (.inl rfl) Ae
    rfl
   subst YK;have hc:¬256<t.cases.length:=fun q=>Ae (.inr (.inl q));have hk:¬(t.kind=4∧within t.n 1 6=false):=fun q=>Ae (.inr (.inr q));have hd:decide ((256:Int)<t.cases.length)=false:=decide_eq_false (by omega);rw[if_neg (by simp),if_neg hc,if_neg hk]at hR;have Yq:=hkw.resolve_left hk;refine gI (⟨78,[(2,.ip none [aI f.name,ay f.blocks]),(3,.ip none [aI t.kind,aI t.arg,aI t.n,aK t.cases,aH t.to]),(4,aI 0)],[.gone,.gone]⟩) ?_ ?_
   ·refine ai ?_;refine aA ?_;refine zi kG ?_;refine ah ?_;refine cr rfl ?_;refine aS ?_;simp -dsimp only[simprocAttr,↓aa,zp,hd];refine ah ?_;refine cr rfl ?_;rcases Yq.2 with Ou|⟨Ou,sV⟩
    ·refine aS ?_;simp -dsimp only[simprocAttr,↓aa,zp,Ou];refine ah ?_;refine cr rfl ?_;refine a6 ?_;show bc _ _;refine zq rfl ?_ ?_;simp -dsimp only[simprocAttr,↓aa,zp,zc];rfl
    rw[sV]at hw;refine aS ?_;simp -dsimp only[simprocAttr,↓aa,zp,Ou];refine zi hw ?_;refine ah ?_;refine cr rfl ?_;refine a6 ?_;show bc _ _;refine zq rfl ?_ ?_;simp -dsimp only[simprocAttr,↓aa,zp,zc];rfl
   refine bX (ah ?_);refine ai (aO (ι:={j:Nat // j<=t.cases.length∧jK t.cases t.cases.length=jK t.cases (t.cases.length-j)}) (fun j=>⟨78,[(2,.ip none [aI f.name,ay f.blocks]),(3,.ip none [aI t.kind,aI t.arg,aI t.n,aK t.cases,aH t.to]),(4,aI 0),(29,aK t.cases),(30,aI t.cases.length),(31,aI j.1)],[.gone,.gone]⟩) (fun j=>t.cases.length-j.1) ⟨0,by omega,rfl⟩ ?_ ?_)
   ·refine zq rfl ?_ ?_;simp -dsimp only[simprocAttr,↓aa,zp,zc];rfl
   rintro⟨j,hj,gQ⟩;refine aA (ah ?_);apply iz rfl<;>intro h
   ·refine cd ?_;have bg:j<t.cases.length:=by simpa using h
    obtain⟨c,R8⟩:∃c,t.cases[j]?=some c:=⟨t.cases[j],by simp[bg]⟩
    have bL:=BC R8;rw[<-gQ]at bL;have Yl:=tJ c;have sP:=qg (t.cases.take j) c;refine aJ (ai ?_);refine aS ?_;simp -dsimp only[simprocAttr,↓aa,zp,R8];refine ah ?_;refine ai ?_;refine aA ?_;refine zi Yl ?_;refine ah ?_;cases hw:decide (fU c)with
    | false =>
     rw[hw]at bL;refine cH rfl ?_;refine aA (ah ?_);refine aq ?_;simp -dsimp only[simprocAttr,↓aa,zp,zr,Tryz.results80];simp[hR,bL]
    | true =>
     rw[hw]at bL;refine cr rfl ?_;refine aS ?_;simp -dsimp only[simprocAttr,↓aa,zp,Int.toNat_natCast,List.drop_zero,<-List.map_take]
     repeat(refine⟨by omega,?_⟩)
     refine zi sP ?_;refine ah ?_;cases hh:oH (t.cases.take j) c with
     | true =>
      rw[hh]at bL;refine cH rfl ?_;refine aA (ah ?_);refine aq ?_;simp -dsimp only[simprocAttr,↓aa,zp,zr,Tryz.results80];simp[hR,bL]
     | false =>
      rw[hh]at bL;refine cr rfl ?_;refine Ze ?_;refine cT ?_
      repeat(refine⟨by omega,?_⟩)
      refine fK ?_;refine⟨⟨j+1,bg,by rw[bL];simp⟩,by simp;omega,?_⟩;refine zq rfl ?_ ?_;simp -dsimp only[simprocAttr,↓aa,zp,zc]
      ·exact Sub.int (by simp)
      rfl
   refine aM ?_;simp -dsimp only[bS,ne_eq,Nat.reduceEqDiff,reduceCtorEq];have rK:j=t.cases.length:=by simp at h;omega
   subst rK;have hz:jK t.cases t.cases.length=0:=by rw[gQ,Nat.sub_self];rfl
   rw[hz,if_neg (by simp)]at hR;refine bX (ah ?_);refine gg 49 rfl (fun jD=>?_);simp only[List.length_map]at jD;refine ai (aO (ι:={j:Nat // j<=t.to.length∧R=oC f (t.to.drop j)}) (fun j=>⟨78,[(2,.ip none [aI f.name,ay f.blocks]),(4,aI 0),(49,aH t.to),(50,aI t.to.length),(51,aI j.1)],[.gone,.gone]⟩) (fun j=>t.to.length-j.1) ⟨0,by omega,hR⟩ ?_ ?_)
   ·refine zq rfl ?_ ?_;simp -dsimp only[simprocAttr,↓aa,zp,zc];rfl
   rintro⟨j,hj,gQ⟩;refine aA (ah ?_);apply iz rfl<;>intro h
   ·refine cd ?_;have bg:j<t.to.length:=by simpa using h
    obtain⟨e,uL⟩:∃e,t.to[j]?=some e:=⟨t.to[j],by simp[bg]⟩
    have bL:=BQ (f:=f) uL;rw[<-gQ]at bL;have GF:=Ca e;refine aJ (ai ?_);refine aS ?_;simp -dsimp only[simprocAttr,↓aa,zp,uL];refine ah ?_;refine aD 8 2 (.ip none [aI e.block,aK e.args]) rfl (by simp[aj.aF]) trivial rfl ?_ ?_;rotate_left;simp -dsimp only[simprocAttr,↓aa,zp]
    ·refine bt 2 [(2,.ip none [aI f.name,ay f.blocks]),(4,aI 0),(8,.ip none [aI e.block,aK e.args]),(49,aH t.to),(50,aI t.to.length),(51,aI j)] (by simp) (by omega) [.gone,.gone] ?_ ?_ ?_ ?_ ?_
     ·rfl
     ·simp[aj.upto]
     ·simp[fj,St.get,bF,bh,Go.Av.look,Sub.refl]
     ·simp[aw,ae.upto,az,Block.ag,Edge.ag]
     cases hw:within e.block 1 ((f.blocks.length:Int)-1)with
     | false =>
      rw[hw]at bL GF;refine ai ?_;refine aA ?_
      repeat(refine⟨by omega,?_⟩)
      refine zi GF ?_;refine ah ?_;refine cH rfl ?_;refine aA (ah ?_);refine aq ?_;simp -dsimp only[simprocAttr,↓aa,zp,zr,Tryz.results80];simp[bL]
     | true =>
      rw[hw]at bL GF;have hwi:=within_iff.1 hw;have hB:=ep (f:=f) (k:=e.block) (by omega) (by omega);generalize ax f e.block=B at *;by_cases hl:e.args.length=B.params.length
      ·have ll:decide ((e.args.length:Int)=B.params.length)=true:=decide_eq_true (by omega);refine ai ?_;refine aA ?_
       repeat(refine⟨by omega,?_⟩)
       refine zi GF ?_;refine ah ?_;refine cr rfl ?_;refine aS ?_;simp -dsimp only[simprocAttr,↓aa,zp,hB,ll]
       repeat(refine⟨by omega,?_⟩)
       refine⟨ob (by kernel_rfl),?_⟩;refine ah ?_;refine cr rfl ?_;refine Ze ?_;refine cT ?_
       repeat(refine⟨by omega,?_⟩)
       refine fK ?_;refine⟨⟨j+1,bg,by rw[bL];simp[hl]⟩,by simp;omega,?_⟩;refine zq rfl ?_ ?_;simp -dsimp only[simprocAttr,↓aa,zp,zc]
       ·exact Sub.int (by simp)
       rfl
      have ll:decide ((e.args.length:Int)=B.params.length)=false:=decide_eq_false (by omega);refine ai ?_;refine aA ?_
      repeat(refine⟨by omega,?_⟩)
      refine zi GF ?_;refine ah ?_;refine cr rfl ?_;refine aS ?_;simp -dsimp only[simprocAttr,↓aa,zp,hB,ll]
      repeat(refine⟨by omega,?_⟩)
      refine⟨ob (by kernel_rfl),?_⟩;refine ah ?_;refine cH rfl ?_;refine aA (ah ?_);refine aq ?_;simp -dsimp only[simprocAttr,↓aa,zp,zr,Tryz.results80];simp[bL,hl]
    exact bQ.mp rfl rfl
   refine aM ?_;simp -dsimp only[bS,ne_eq,Nat.reduceEqDiff,reduceCtorEq];have rK:j=t.to.length:=by simp at h;omega
   subst rK;rw[List.drop_length]at gQ;refine aA (ah ?_);refine aq ?_;simp -dsimp only[simprocAttr,↓aa,zp,zr,Tryz.results80];simp[gQ,oC]
  exact bQ.mp rfl rfl
 exact bQ.mp rfl rfl
abbrev Defs:=List (Int×Int×Int)
def eD(p:Int×Int):ae:=.agg [aI p.1,aI p.2]
def fI(e:Int×Int×Int):Value×ae:=(.int .i64 e.1,eD e.2)
def gb:Defs->Int->Option (Int×Int)
 | [],_=>none
 | (k,p)::r,key=>if k=key then some p else gb r key
theorem jT(es:Defs)(k:Int):fH (es.map fI) (.int .i64 k)=(gb es k).map eD:=by
 induction es with
 | nil=>rfl
 | cons p r ih =>
  obtain⟨a,v⟩:=p;simp only[List.map_cons,fI,fH,gb,px,decide_eq_true_eq];split
  ·rfl
  exact ih
theorem LI{es:Defs}{k:Int}(p:Int×Int)(h:gb es k=none):gP (es.map fI) (.int .i64 k) (.agg [aI p.1,aI p.2])=(es++[(k,p)]).map fI:=by
 induction es with
 | nil=>rfl
 | cons q r ih =>
  obtain⟨a,v⟩:=q;simp only[gb]at h;split at h
  ·cases h
  rename_i ct;simp only[List.map_cons,fI,gP,px,decide_eq_true_eq,if_neg ct,List.cons_append];rw[<-ih h]
theorem fP(n:Nat)(es:Defs):lD n (es.map fI):=by
 induction es with
 | nil=>trivial
 | cons p r ih=>exact⟨⟨trivial,trivial,trivial⟩,ih⟩
def dq(ds:Defs)(v:Int)(p:Int×Int):Int×Defs :=
 if !within v 0 4095 then(4,ds)else if(gb ds v).isSome then(7,ds)else(0,ds++[(v,p)])
theorem BN{O:List aj}(bG:∀o∈O,o.upto O.length){c d:Nat}{f:Func}{ds:Defs}(hc:O[c]?=some (.cells [aI f.name,ay f.blocks,.mm d]))(hd:O[d]?=some (.map (.int .i64) (ds.map fI)))(v:Int)(p:Int×Int) :
  bd Tryz.prog 86 O [.mp c 0,aI v,.agg [aI p.1,aI p.2]] (fun r O'=>r=aI (dq ds v p).1∧O'=O.set d (.map (.int .i64) ((dq ds v p).2.map fI))):=by
 have hw:=dU v 0 4095;have gK:=I hc;have ew:O.set d (.map (.int .i64) (ds.map fI))=O:=mO hd;unfold dq;cases hv:within v 0 4095 with
 | false =>
  rw[hv]at hw;refine zf true O.length Tryz.func86 Tryz.ntmps86 ?_;dsimp only[Tmp,TypeId,slotsOf];refine aA (ah ?_);refine aY 5 ([aI p.1,aI p.2]) [(0,.mp c 0),(1,aI v),(5,.ip none [aI p.1,aI p.2]),(6,aI 0)] rfl (by rfl) (by omega) (by simp[bF,bh,Go.Av.look]) ?_ ?_ ?_
  ·exact bG
  ·simp[ae.upto,aw,gK]
  refine bX ?_;refine zi hw ?_;refine ah ?_;refine cH rfl ?_;refine aA (ah ?_);refine aq ?_;simp -dsimp only[simprocAttr,↓aa,zp,zr,Tryz.results86];exact⟨bG,ew.symm⟩
 | true =>
  rw[hv]at hw;cases hl:gb ds v with
  | some q =>
   have hq:eD q=.agg [aI q.1,aI q.2]:=rfl;refine zf true O.length Tryz.func86 Tryz.ntmps86 ?_;dsimp only[Tmp,TypeId,slotsOf];refine aA (ah ?_);refine aY 5 ([aI p.1,aI p.2]) [(0,.mp c 0),(1,aI v),(5,.ip none [aI p.1,aI p.2]),(6,aI 0)] rfl (by rfl) (by omega) (by simp[bF,bh,Go.Av.look]) ?_ ?_ ?_
   ·exact bG
   ·simp[ae.upto,aw,gK]
   refine bX ?_;refine zi hw ?_;refine ah ?_;refine cr rfl ?_;refine cd ?_;refine c9 ?_;simp -dsimp only[simprocAttr,↓aa,zp,hc,hd,jT,hl,hq,Option.map_some,Option.getD_some,Option.isSome_some];refine ah ?_;refine aA (ah ?_);refine cH rfl ?_;refine aA (ah ?_);refine aq ?_;simp -dsimp only[simprocAttr,↓aa,zp,zr,Tryz.results86];exact⟨bG,ew.symm⟩
  | none =>
   have jB:=LI p hl;have fJ:=bz (k:=d) (x:=.map (.int .i64) ((ds++[(v,p)]).map fI)) bG (fP _ _);have eH:=cA (O:=O) (k:=d) (x:=.map (.int .i64) ((ds++[(v,p)]).map fI));refine zf true O.length Tryz.func86 Tryz.ntmps86 ?_;dsimp only[Tmp,TypeId,slotsOf];refine aA (ah ?_);refine aY 5 ([aI p.1,aI p.2]) [(0,.mp c 0),(1,aI v),(5,.ip none [aI p.1,aI p.2]),(6,aI 0)] rfl (by rfl) (by omega) (by simp[bF,bh,Go.Av.look]) ?_ ?_ ?_
   ·exact bG
   ·simp[ae.upto,aw,gK]
   refine bX ?_;refine zi hw ?_;refine ah ?_;refine cr rfl ?_;refine cd ?_;refine c9 ?_;simp -dsimp only[simprocAttr,↓aa,zp,hc,hd,jT,hl,Option.map_none,Option.getD_none,Option.isSome_none];refine ah ?_;refine aY 7 ([aI 0,aI 0]) [(0,.mp c 0),(1,aI v),(5,.ip none [aI p.1,aI p.2]),(6,aI 0),(8,.v (.bool false))] rfl (by rfl) (by omega) (by simp[bF,bh,Go.Av.look]) ?_ ?_ ?_
   ·exact bG
   ·simp[ae.upto,aw,gK]
   refine aA (ah ?_);refine cr rfl ?_;refine cd ?_;refine aS ?_;simp -dsimp only[simprocAttr,↓aa,zp,hc,hd,jB];refine⟨ob (by kernel_rfl),?_⟩;refine ah ?_;refine aA (ah ?_);refine aq ?_;simp -dsimp only[simprocAttr,↓aa,zp,zr,Tryz.results86,eH,List.length_set];exact fJ
def dJ(k:Int):Defs->List Int->Int×Defs
 | ds,[]=>(0,ds)
 | ds,p::r=>if(dq ds p (k,0)).1≠0 then dq ds p (k,0)else dJ k (dq ds p (k,0)).2 r
def nt(k:Int):Int->Defs->List Ins->Int×Defs
 | _,ds,[]=>(0,ds)
 | n,ds,i::r=>if(dq ds i.to (k,n+1)).1≠0 then dq ds i.to (k,n+1)else if kN i≠0 then(kN i,(dq ds i.to (k,n+1)).2)else nt k (n+1) (dq ds i.to (k,n+1)).2 r
def gh(f:Func)(ds:Defs)(k:Int):Int×Defs :=
 if(dJ k ds (ax f k).params).1≠0 then dJ k ds (ax f k).params
 else if(nt k 0 (dJ k ds (ax f k).params).2 (ax f k).ins).1≠0 then nt k 0 (dJ k ds (ax f k).params).2 (ax f k).ins
 else(kE f (ax f k).term,(nt k 0 (dJ k ds (ax f k).params).2 (ax f k).ins).2)
theorem bP{α:Type}{l:List α}{j:Nat}{x:α}(h:l[j]?=some x):l.drop j=x::l.drop (j+1):=by
 have bg:=I h;rw[List.getElem?_eq_getElem bg]at h;simp only[Option.some.injEq]at h;rw[List.drop_eq_getElem_cons bg,h]
theorem DY{O:List aj}(bG:∀o∈O,o.upto O.length){c d:Nat}(XY:c≠d){f:Func}{ds:Defs}(hc:O[c]?=some (.cells [aI f.name,ay f.blocks,.mm d]))(hd:O[d]?=some (.map (.int .i64) (ds.map fI)))(k:Int)(DB:0<=k)(Gx:k<f.blocks.length)
  (pW:f.blocks.length<=2 ^ 60) (gK:(ax f k).term.cases.length<=2 ^ 60) :
  bd Tryz.prog 58 O [.mp c 0,aI k] (fun r O'=>r=aI (gh f ds k).1∧O'=O.set d (.map (.int .i64) ((gh f ds k).2.map fI))):=by
 have hB:=ep DB Gx;have U0:=I hc;obtain⟨R,hR⟩:∃R,R=gh f ds k:=⟨_,rfl⟩
 rw[<-hR];unfold gh at hR;have kU:=BT f (ax f k).term gK pW;generalize ax f k=B at *;have ZR:∀x,(O.set d x)[c]?=some (.cells [aI f.name,ay f.blocks,.mm d]):=fun x=>bx hc XY.symm;have hdX:=dz hd;have HZ:∀(es:Defs),∀o∈O.set d (.map (.int .i64) (es.map fI)),o.upto (O.set d (.map (.int .i64) (es.map fI))).length:=fun es=>by
  rw[List.length_set];exact bz bG (fP _ _)
 have KC:∀(es:Defs) (v:Int) (p:Int×Int),bd Tryz.prog 86 (O.set d (.map (.int .i64) (es.map fI))) [.mp c 0,aI v,.agg [aI p.1,aI p.2]] (fun r O'=>r=aI (dq es v p).1∧O'=O.set d (.map (.int .i64) ((dq es v p).2.map fI))):=fun es v p=>by
  have h:=BN (HZ es) (ZR _) (hdX (.map (.int .i64) (es.map fI))) v p;rw[List.set_set]at h;exact h
 have ew:O.set d (.map (.int .i64) (ds.map fI))=O:=mO hd;have eH:∀es:Defs,(O.set d (.map (.int .i64) (es.map fI))).take O.length=O.set d (.map (.int .i64) (es.map fI)):=fun es=>cA;have Cm:∀es:Defs,∀o∈O.set d (.map (.int .i64) (es.map fI)),o.upto O.length:=fun es=>bz bG (fP _ _);refine zf true O.length Tryz.func58 Tryz.ntmps58 ?_;dsimp only[Tmp,TypeId,slotsOf];refine aA (ah ?_);refine aS ?_;simp -dsimp only[simprocAttr,↓aa,zp,hc,hB]
 repeat(refine⟨by omega,?_⟩)
 refine ah ?_;refine aY 5 ([aK B.params,bf B.ins,aI B.term.kind,aI B.term.arg,aI B.term.n,aK B.term.cases,aH B.term.to]) [(0,.mp c 0),(1,aI k),(4,aI 0),(5,.ip none [aK B.params,bf B.ins,aI B.term.kind,aI B.term.arg,aI B.term.n,aK B.term.cases,aH B.term.to])] rfl (by rfl) (by omega) (by simp[bF,bh,Go.Av.look]) ?_ ?_ ?_
 ·exact bG
 ·simp[ae.upto,aw,U0,az,Edge.ag,Ins.ag]
 refine bX (ah ?_);refine gg 22 rfl (fun tH=>?_);simp only[List.length_map]at tH;refine ai (aO (ι:={x:Nat×Defs // x.1<=B.params.length∧dJ k ds B.params=dJ k x.2 (B.params.drop x.1)}) (fun x=>⟨69,[(0,.mp c 0),(1,aI k),(4,aI 0),(5,.ip none [aK B.params,bf B.ins,aI B.term.kind,aI B.term.arg,aI B.term.n,aK B.term.cases,aH B.term.to]),(22,aK B.params),(23,aI B.params.length),(24,aI x.1.1)],O.set d (.map (.int .i64) (x.1.2.map fI))⟩) (fun x=>B.params.length-x.1.1) ⟨(0,ds),by simp,rfl⟩ ?_ ?_)
 ·refine zq rfl ?_ ?_;simp -dsimp only[simprocAttr,↓aa,zp,zc];rw[ew]
 rintro⟨⟨j,es⟩,hj,gQ⟩;simp only at hj gQ;refine aA (ah ?_);apply iz rfl<;>intro h
 ·refine cd ?_;have bg:j<B.params.length:=by simpa using h
  obtain⟨p,hp⟩:∃p,B.params[j]?=some p:=⟨B.params[j],by simp[bg]⟩
  have bL:=gQ;rw[bP hp]at bL;simp only[dJ]at bL;have Sd:=KC es p (k,0);generalize dq es p (k,0)=X at *;refine aJ (ai ?_);refine aS ?_;simp -dsimp only[simprocAttr,↓aa,zp,hp];refine ah ?_;refine aA ?_;refine .inr (.inl ⟨_,_,Sd,.inl (ao (zj ?_))⟩);refine ah ?_;by_cases hX:X.1=0
  ·have KE:decide (X.1=0)=true:=decide_eq_true hX;rw[if_neg (by simp[hX])]at bL;refine aS ?_;simp -dsimp only[simprocAttr,↓aa,zp,KE];refine ah ?_;refine cr rfl ?_;refine la ?_;refine cT ?_
   repeat(refine⟨by omega,?_⟩)
   refine fK ?_;refine⟨⟨(j+1,X.2),by simp only;omega,bL⟩,by simp;omega,?_⟩;refine zq rfl ?_ ?_;simp -dsimp only[simprocAttr,↓aa,zp,zc]
   ·exact Sub.int (by simp)
   rfl
  have KE:decide (X.1=0)=false:=decide_eq_false hX;rw[if_pos hX]at bL;rw[bL,if_pos hX]at hR;refine aS ?_;simp -dsimp only[simprocAttr,↓aa,zp,KE];refine ah ?_;refine cH rfl ?_;refine aA (ah ?_);refine aq ?_;simp -dsimp only[simprocAttr,↓aa,zp,zr,Tryz.results58,eH,List.length_set];rw[hR];exact⟨Cm X.2,rfl,rfl⟩
 refine aM ?_;simp -dsimp only[bS,ne_eq,Nat.reduceEqDiff,reduceCtorEq];have rK:j=B.params.length:=by simp at h;omega
 subst rK;rw[List.drop_length]at gQ;simp only[dJ]at gQ;rw[gQ,if_neg (by simp)]at hR;simp only at hR;refine bX (ah ?_);refine gg 38 rfl (fun xK=>?_);simp only[List.length_map]at xK;refine ai (aO (ι:={x:Nat×Defs // x.1<=B.ins.length∧nt k 0 es B.ins=nt k x.1 x.2 (B.ins.drop x.1)}) (fun x=>⟨69,[(0,.mp c 0),(1,aI k),(4,aI 0),(5,.ip none [aK B.params,bf B.ins,aI B.term.kind,aI B.term.arg,aI B.term.n,aK B.term.cases,aH B.term.to]),(38,bf B.ins),(39,aI B.ins.length),(40,aI x.1.1)],O.set d (.map (.int .i64) (x.1.2.map fI))⟩) (fun x=>B.ins.length-x.1.1) ⟨(0,es),by simp,rfl⟩ ?_ ?_)
 ·refine zq rfl ?_ ?_;simp -dsimp only[simprocAttr,↓aa,zp,zc];rfl
 rintro⟨⟨j,es'⟩,hj,gQ⟩;simp only at hj gQ;refine aA (ah ?_);apply iz rfl<;>intro h
 ·refine cd ?_;have bg:j<B.ins.length:=by simpa using h
  obtain⟨i,hi⟩:∃i,B.ins[j]?=some i:=⟨B.ins[j],by simp[bg]⟩
  have bL:=gQ;rw[bP hi]at bL;simp only[nt]at bL;have Sd:=KC es' i.to (k,(j:Int)+1);have Vg:=yx i;generalize kN i=e at *;generalize dq es' i.to (k,(j:Int)+1)=X at *;refine aJ (ai ?_);refine aS ?_;simp -dsimp only[simprocAttr,↓aa,zp,hi];refine ah ?_;refine aY 10 ([aI i.to,aI i.op,aI i.n,aK i.args]) [(0,.mp c 0),(1,aI k),(4,aI 0),(5,.ip none [aK B.params,bf B.ins,aI B.term.kind,aI B.term.arg,aI B.term.n,aK B.term.cases,aH B.term.to]),(38,bf B.ins),(39,aI B.ins.length),(40,aI j),(9,aI j),(10,.ip none [aI i.to,aI i.op,aI i.n,aK i.args])] (by simp[bF,bh,Go.Av.look]) (by rfl) (by simp) (by simp[bF,bh,Go.Av.look]) ?_ ?_ ?_
  ·exact HZ es'
  ·simp[ae.upto,aw,U0,az,Edge.ag,Ins.ag]
  refine bX ?_
  repeat(refine⟨by omega,?_⟩)
  refine .inr (.inl ⟨_,_,Sd,.inl (ao (zj ?_))⟩);refine ah ?_;by_cases hX:X.1=0
  ·have KE:decide (X.1=0)=true:=decide_eq_true hX;rw[if_neg (by simp[hX])]at bL;refine aS ?_;simp -dsimp only[simprocAttr,↓aa,zp,KE];refine ah ?_;refine cr rfl ?_;refine cd ?_;refine aA ?_;refine zi Vg ?_;refine ah ?_;by_cases he:e=0
   ·have jP:decide (e=0)=true:=decide_eq_true he;rw[if_neg (by simp[he])]at bL;refine aS ?_;simp -dsimp only[simprocAttr,↓aa,zp,jP];refine ah ?_;refine cr rfl ?_;refine la ?_;refine cT ?_
    repeat(refine⟨by omega,?_⟩)
    refine fK ?_;refine⟨⟨(j+1,X.2),by simp only;omega,bL⟩,by simp;omega,?_⟩;refine zq rfl ?_ ?_;simp -dsimp only[simprocAttr,↓aa,zp,zc]
    ·exact Sub.int (by simp)
    rfl
   have jP:decide (e=0)=false:=decide_eq_false he;rw[if_pos he]at bL;rw[bL,if_pos he]at hR;refine aS ?_;simp -dsimp only[simprocAttr,↓aa,zp,jP];refine ah ?_;refine cH rfl ?_;refine aA (ah ?_);refine aq ?_;simp -dsimp only[simprocAttr,↓aa,zp,zr,Tryz.results58,eH,List.length_set];rw[hR];exact⟨Cm X.2,rfl,rfl⟩
  have KE:decide (X.1=0)=false:=decide_eq_false hX;rw[if_pos hX]at bL;rw[bL,if_pos hX]at hR;refine aS ?_;simp -dsimp only[simprocAttr,↓aa,zp,KE];refine ah ?_;refine cH rfl ?_;refine aA (ah ?_);refine aq ?_;simp -dsimp only[simprocAttr,↓aa,zp,zr,Tryz.results58,eH,List.length_set];rw[hR];exact⟨Cm X.2,rfl,rfl⟩
 refine aM ?_;simp -dsimp only[bS,ne_eq,Nat.reduceEqDiff,reduceCtorEq];have rK:j=B.ins.length:=by simp at h;omega
 subst rK;rw[List.drop_length]at gQ;simp only[nt]at gQ;rw[gQ,if_neg (by simp)]at hR;simp only at hR;refine aS ?_;simp -dsimp only[simprocAttr,↓aa,zp,ZR];refine zi kU ?_;refine⟨ob (by kernel_rfl),?_⟩;refine ah ?_;refine aq ?_;simp -dsimp only[simprocAttr,↓aa,zp,zr,Tryz.results58,eH,List.length_set];rw[hR];exact⟨Cm es',rfl,rfl⟩
theorem Pd:u7 Tryz.prog 142 .u64:=by
 obtain⟨⟨i,z,q1,q2,_⟩,_⟩:=hT 140 _ G1;exact AB ⟨140,i,Tryz.underlying142,q1,q2,Tryz.underlying140,by kernel_rfl⟩
theorem RD(N V:Bs):(decide ((N.a:Int)=V.a)&&decide ((N.b:Int)=V.b))=decide (N=V):=by
 obtain⟨n1,n2⟩:=N;obtain⟨v1,v2⟩:=V;simp only[Bs.mk.injEq,Int.natCast_inj];by_cases q1:n1=v1<;>by_cases q2:n2=v2<;>simp[q1,q2]
theorem xc(N V:Bs)(K:gB):qp Tryz.prog .neq 142 N.enc V.enc K=K (.v (.bool (!decide (N=V)))) .pure:=by
 show((IntKind.u64=IntKind.u64∧IntKind.u64=IntKind.u64∧IntKind.u64=IntKind.u64∧u7 Tryz.prog 142 .u64)∧on (kd .neq (decide ((N.a:Int)=V.a)&&decide ((N.b:Int)=V.b))) fun r=>K (.v (.bool r)) .pure)=_;rw[RD];simp only[Pd,kd,Az,and_self,true_and]
theorem rk{sz:Nat}:∀{xs:List ae} {k:Nat} {x:ae},(∀y∈xs,y.cells.length=sz)->xs[k]?=some x->((au xs).drop (k*sz)).take sz=x.cells
 | q::r,0,x,cP,h=>by
  simp only[List.getElem?_cons_zero,Option.some.injEq]at h;subst h;have hq:=cP q (by simp);simp only[au,List.flatMap_cons,Nat.zero_mul,List.drop_zero];rw[List.take_append_of_le_length (by omega),List.take_of_length_le (by omega)]
 | q::r,k+1,x,cP,h=>by
  have ih:=rk (xs:=r) (k:=k) (x:=x) (fun y hy=>cP y (by simp[hy])) (by simpa using h);have hq:=cP q (by simp);have e1:(k+1)*sz-sz=k*sz:=by rw[Nat.succ_mul];omega
  have e3:sz<=(k+1)*sz:=by rw[Nat.succ_mul];omega
  simp only[au,List.flatMap_cons]at ih ⊢;rw[List.drop_append,List.drop_of_length_le (by omega),hq,e1,List.nil_append];exact ih
theorem Gf(l:List Bs):∀y∈l.map Bs.enc,y.cells.length=2:=fun y hy=>by
 obtain⟨s,_,rfl⟩:=List.mem_map.1 hy;rfl
theorem zH(l:List Bs):(au (l.map Bs.enc)).length=l.length*2:=by
 rw[bE (Gf l),List.length_map]
theorem JC{l:List Bs}{k:Nat}{s:Bs}(h:l[k]?=some s):((au (l.map Bs.enc)).drop (k*2)).take 2=[.v (.int .u64 s.a),.v (.int .u64 s.b)]:=rk (Gf l) (x:=s.enc) (by simp[h])
theorem D0{l:List Bs}{k:Nat}(h:k<l.length)(s:Bs):bo (au (l.map Bs.enc)) (k*2) [.v (.int .u64 s.a),.v (.int .u64 s.b)]=au ((l.set k s).map Bs.enc):=by
 have:=na (Gf l) (k:=k) (by simpa using h) (y:=s.enc) rfl;rw[<-List.map_set]at this;exact this
theorem iC(n:Nat)(l:List Bs):aw n (l.map Bs.enc):=by
 rw[aV];intro x hx;obtain⟨s,_,rfl⟩:=List.mem_map.1 hx;exact s.aQ n
theorem jg(n:Nat)(l:List Bs):aw n (au (l.map Bs.enc)):=by
 rw[aV];intro c hc;simp only[au,List.mem_flatMap,List.mem_map]at hc;obtain⟨_,⟨p,_,rfl⟩,hc⟩:=hc;simp only[Bs.ak,List.mem_cons,List.mem_nil_iff,or_false]at hc;rcases hc with rfl|rfl<;>trivial
theorem aB(s:Bs):ae.agg [.v (.int .u64 s.a),.v (.int .u64 s.b)]=s.enc:=rfl
theorem u9:∀n,n<=128->(xp n).fit
 | 0,_=>Bs.oF
 | n+1,h=>Bs.pA (u9 n (by omega)) (by omega)
theorem Bp:∀n,n<=128->∀k,k<n->(xp n).has k=true
 | n+1,h,k,hk=>by
  simp only[xp];rw[Bs.has_add _ _ _ (by omega) (by omega)];by_cases e:k=n
  ·simp[e]
  rw[Bp n (by omega) k (by omega)];rfl
theorem zQ{f:Func}(h0:f.blocks≠[])(h1:f.blocks.length<=128):lI f.blocks.length (nh f) where
 few:=h1
 len:=by simp[nh]
 fit:=fun s hs=>by
  rcases List.mem_or_eq_of_mem_set hs with q|q
  ·rw[(List.mem_replicate.1 q).2];exact u9 _ h1
  rw[q];exact Bs.pA Bs.oF (by omega)
 seen:=Bs.pA Bs.oF (by omega)
 self:=fun k hk=>by
  unfold Ds.at_ nh;by_cases e:k=0
  ·subst e;rw[List.getElem?_set_self (by simpa using hk)];decide
  rw[List.getElem?_set_ne (Ne.symm e)];simp only[List.getElem?_replicate,hk,if_true,Option.getD_some];exact Bp _ h1 k hk
theorem S6{l:List Nat}{b:Nat}(h:∀x∈l,x<=b):l.sum<=l.length*b:=by
 induction l with
 | nil=>simp
 | cons a r ih =>
  have:=h a (by simp);have:=ih fun x hx=>h x (by simp[hx]);simp only[List.sum_cons,List.length_cons,Nat.succ_mul];omega
theorem zv{n:Nat}{S:Ds}(h:lI n S):S.weight<=16512:=by
 have h1:(S.over.map Bs.size).sum<=(S.over.map Bs.size).length*128:=S6 fun x hx=>by
  obtain⟨s,_,rfl⟩:=List.mem_map.1 hx;exact s.tV
 have h2:=h.few;have h3:=h.len;simp only[List.length_map]at h1;have h4:S.over.length*128<=128*128:=Nat.mul_le_mul_right _ (by omega);simp only[Ds.weight];omega
theorem yn{f:Func}{S:Ds}(h:S.again=false)(n:Nat):jz f n S=S:=by
 cases n with
 | zero=>rfl
 | succ n=>simp[jz,h]
theorem um(f:Func)(h0:f.blocks≠[])(h1:f.blocks.length<=128)(he:∀b∈f.blocks,∀e∈b.term.to,0<=e.block∧e.block.toNat<f.blocks.length) :
  bD Tryz.prog 88 [f.enc] (.cD [.aC 2 ((lJ f).1.map Bs.enc) .sh,(lJ f).2.enc]):=by
 have hS:=zQ h0 h1;have HX:=List.length_pos_iff.2 h0;have GG:∀(s:Bs) (k:Nat),s.fit->k<128->bD Tryz.prog 119 [s.enc,aI k] (s.add k).enc:=fun s k hs hk=>I3 s hs k hk;obtain⟨R,hR⟩:∃R,R=jz f 20000 (nh f):=⟨_,rfl⟩
 have hM:lJ f=(R.over,R.seen):=by rw[hR];rfl
 rw[hM];obtain⟨n,hn⟩:∃n,n=f.blocks.length:=⟨_,rfl⟩
 rw[<-hn]at hS HX h1 he;have Q5:ae.agg [.v (.int .u64 0),.v (.int .u64 0)]=Bs.none.enc:=rfl;refine zf true 0 Tryz.func88 Tryz.ntmps88 ?_;dsimp only[Tmp,TypeId,slotsOf];refine aS ?_;simp -dsimp only[simprocAttr,↓aa,zp,Bs.ak,Bs.av,Bs.al,aB];refine ah ?_;refine aD 1 0 (.ip none [aI f.name,ay f.blocks]) rfl (by simp[aj.aF]) trivial rfl ?_ ?_;rotate_left;simp -dsimp only[simprocAttr,↓aa,zp,Bs.ak,Bs.av,Bs.al,aB]
 ·refine aS ?_;simp -dsimp only[simprocAttr,↓aa,zp,Bs.ak,Bs.av,Bs.al,aB];refine ah ?_;refine c9 ?_;simp -dsimp only[simprocAttr,↓aa,zp,Bs.ak,Bs.av,Bs.al,aB,<-hn];refine ah ?_;refine ai (aO (ι:={j:Nat // j<=n}) (fun j=>⟨106,[(1,.ip none [aI f.name,ay f.blocks]),(3,.mp 1 0),(4,.mp 2 0),(17,aI n),(18,aI j.1)],[.gone,.cells [.v (.int .u64 0),.v (.int .u64 0)],.cells (xp j.1).enc.cells]⟩) (fun j=>n-j.1) ⟨0,by omega⟩ ?_ ?_)
  ·refine zq rfl ?_ ?_;simp -dsimp only[simprocAttr,↓aa,zp,Bs.ak,Bs.av,Bs.al,aB,zc]
   all_goals rfl
  rintro⟨j,hj⟩;have hwj:=fun h=>GG (xp j) j (u9 j (by omega)) h;refine aS ?_;simp -dsimp only[simprocAttr,↓aa,zp,Bs.ak,Bs.av,Bs.al,aB];refine ah ?_;apply iz rfl<;>intro h
  ·refine cd ?_;have bg:j<n:=by simpa using h
   refine aJ (ai ?_);refine aS ?_;simp -dsimp only[simprocAttr,↓aa,zp,Bs.ak,Bs.av,Bs.al,aB];refine ah ?_;refine kC ?_;simp -dsimp only[simprocAttr,↓aa,zp,Bs.ak,Bs.av,Bs.al,aB];refine .inl ⟨_,(hwj (by omega)),by simp only[aw,ae.upto,zt,zu,az,Bs.aQ,Bs.al],ao ?_⟩;simp -dsimp only[simprocAttr,↓aa,zp,Bs.ak,Bs.av,Bs.al,aB];refine ah ?_;refine kC ?_;simp -dsimp only[simprocAttr,↓aa,zp,Bs.ak,Bs.av,Bs.al,aB]
   repeat(refine⟨by omega,?_⟩)
   refine fK ?_;refine⟨⟨j+1,bg⟩,by simp;omega,?_⟩;refine zq rfl ?_ ?_;simp -dsimp only[simprocAttr,↓aa,zp,Bs.ak,Bs.av,Bs.al,aB,zc]
   all_goals first|rfl|exact Sub.refl _
  refine aM ?_;simp -dsimp only[bS,ne_eq,Nat.reduceEqDiff,reduceCtorEq];have rK:j=n:=by simp at h;omega
  subst rK;refine aS ?_;simp -dsimp only[simprocAttr,↓aa,zp,Bs.ak,Bs.av,Bs.al,aB,<-hn]
  repeat(refine⟨by omega,?_⟩)
  refine ah ?_;refine c9 ?_;simp -dsimp only[simprocAttr,↓aa,zp,Bs.ak,Bs.av,Bs.al,aB,<-hn];refine ah ?_;obtain⟨A,hA⟩:∃A,A=xp j:=⟨_,rfl⟩
  rw[<-hA];refine ai (aO (ι:={i:Nat // i<=j}) (fun i=>⟨106,[(1,.ip none [aI f.name,ay f.blocks]),(3,.mp 1 0),(4,.mp 2 0),(6,.ms 3 0 j j),(30,aI j),(31,aI i.1)],[.gone,.cells [.v (.int .u64 0),.v (.int .u64 0)],.cells A.enc.cells,.cells (au ((List.replicate i.1 A++List.replicate (j-i.1) Bs.none).map Bs.enc))]⟩) (fun i=>j-i.1) ⟨0,by omega⟩ ?_ ?_)
  ·refine zq rfl ?_ ?_;simp -dsimp only[simprocAttr,↓aa,zp,Bs.ak,Bs.av,Bs.al,aB,zc];simp[au,List.flatMap,Bs.ak,Bs.none]
  rintro⟨i,hi⟩;have dk:(List.replicate i A++List.replicate (j-i) Bs.none).length=j:=by simp;omega
  refine aS ?_;simp -dsimp only[simprocAttr,↓aa,zp,Bs.ak,Bs.av,Bs.al,aB];refine ah ?_;apply iz rfl<;>intro h
  ·refine cd ?_;have bg:i<j:=by simpa using h
   have iw:=D0 (l:=List.replicate i A++List.replicate (j-i) Bs.none) (k:=i) (by rw[dk];exact bg) A;have mW:(List.replicate i A++List.replicate (j-i) Bs.none).set i A=List.replicate (i+1) A++List.replicate (j-(i+1)) Bs.none:=by
    obtain⟨q,hq⟩:∃q,j-i=q+1:=⟨j-i-1,by omega⟩
    rw[hq,show j-(i+1)=q by omega,List.set_append_right _ _ (by simp),List.replicate_succ' (n:=i)];simp[List.replicate_succ]
   rw[mW]at iw;have hlen:=zH (List.replicate i A++List.replicate (j-i) Bs.none);rw[dk]at hlen;refine aJ (ai ?_);refine aS ?_;simp -dsimp only[simprocAttr,↓aa,zp,Bs.ak,Bs.av,Bs.al,aB];refine ah ?_;refine kC ?_;simp -dsimp only[simprocAttr,↓aa,zp,Bs.ak,Bs.av,Bs.al,aB,iw,hlen]
   repeat(refine⟨by omega,?_⟩)
   refine ah ?_;refine kC ?_;simp -dsimp only[simprocAttr,↓aa,zp,Bs.ak,Bs.av,Bs.al,aB]
   repeat(refine⟨by omega,?_⟩)
   refine fK ?_;refine⟨⟨i+1,bg⟩,by simp;omega,?_⟩;refine zq rfl ?_ ?_;simp -dsimp only[simprocAttr,↓aa,zp,Bs.ak,Bs.av,Bs.al,aB,zc]
   all_goals first|rfl|exact Sub.refl _
  refine aM ?_;simp -dsimp only[bS,ne_eq,Nat.reduceEqDiff,reduceCtorEq];have sR:i=j:=by simp at h;omega
  subst sR;have Xr:=GG Bs.none 0 Bs.oF (by omega);have hlen:=zH (List.replicate i A++List.replicate (i-i) Bs.none);rw[dk]at hlen;have iw:=D0 (l:=List.replicate i A++List.replicate (i-i) Bs.none) (k:=0) (by rw[dk];exact HX) (Bs.none.add 0);have od:(List.replicate i A++List.replicate (i-i) Bs.none).set 0 (Bs.none.add 0)=(nh f).over:=by
   simp[nh,<-hn,hA]
  rw[od,Nat.zero_mul]at iw;have UY:aI ((0:Nat):Int)=aI 0:=rfl;rw[UY]at Xr;refine aS ?_;simp -dsimp only[simprocAttr,↓aa,zp,Bs.ak,Bs.av,Bs.al,aB,Q5];refine .inl ⟨_,Xr,by simp only[aw,ae.upto,zt,zu,az,Bs.aQ,Bs.al],ao ?_⟩;simp -dsimp only[simprocAttr,↓aa,zp,Bs.ak,Bs.av,Bs.al,aB,iw,hlen];refine⟨by omega,by omega,?_⟩;refine ah ?_;refine aS ?_;simp -dsimp only[simprocAttr,↓aa,zp,Bs.ak,Bs.av,Bs.al,aB,Q5];refine .inl ⟨_,Xr,by simp only[aw,ae.upto,zt,zu,az,Bs.aQ,Bs.al],ao ?_⟩;simp -dsimp only[simprocAttr,↓aa,zp,Bs.ak,Bs.av,Bs.al,aB];refine ah ?_;refine c9 ?_;simp -dsimp only[simprocAttr,↓aa,zp,Bs.ak,Bs.av,Bs.al,aB];refine ah ?_;have hw0:=zv hS;refine ai (aO (ι:={x:Ds×Nat // lI i x.1∧R=jz f x.2 x.1∧(x.1.again=true->x.1.weight<x.2)}) (fun x=>⟨106,[(1,.ip none [aI f.name,ay f.blocks]),(3,.mp 1 0),(6,.ms 3 0 i i),(8,.mp 4 0),(9,.v (.bool x.1.1.again))],[.gone,.cells [.v (.int .u64 0),.v (.int .u64 0)],.cells A.enc.cells,.cells (au (x.1.1.over.map Bs.enc)),.cells x.1.1.seen.enc.cells]⟩) (fun x=>x.1.1.weight+if x.1.1.again then 1 else 0) ⟨(nh f,20000),hS,hR,fun _=>by simp only;omega⟩ ?_ ?_)
  ·refine zq rfl ?_ ?_;simp -dsimp only[simprocAttr,↓aa,zp,Bs.ak,Bs.av,Bs.al,aB,zc]
   all_goals first|rfl|exact Sub.refl _
  rintro⟨⟨S,q⟩,HI,Og,SR⟩;simp only at HI Og SR;refine c9 ?_;simp -dsimp only[simprocAttr,↓aa,zp,Bs.ak,Bs.av,Bs.al,aB];refine ah ?_;apply aP rfl<;>intro h
  ·refine cd ?_;have mU:S.again=true:=h;have SR:=SR mU;obtain⟨q,rfl⟩:∃q',q=q'+1:=⟨q-1,by omega⟩
   have Kv:R=jz f q (mc 0 ⟨S.over,S.seen,false⟩ f.blocks):=by
    rw[Og];simp[jz,mU]
   have Oh:lI i ⟨S.over,S.seen,false⟩:=⟨HI.few,HI.len,HI.fit,HI.seen,HI.self⟩
   have hro:=rB f.blocks (k:=0) Oh he;obtain⟨S1,UJ⟩:∃S1,S1=mc 0 ⟨S.over,S.seen,false⟩ f.blocks:=⟨_,rfl⟩
   rw[<-UJ]at Kv hro;obtain⟨Xd,Xe,Ro⟩:=hro;have Xb:(⟨S.over,S.seen,false⟩:Ds).weight=S.weight:=rfl;rw[Xb]at Xe Ro;refine ai ?_;refine aS ?_;simp -dsimp only[simprocAttr,↓aa,zp,Bs.ak,Bs.av,Bs.al,aB];refine ah ?_;refine aS ?_;simp -dsimp only[simprocAttr,↓aa,zp,Bs.ak,Bs.av,Bs.al,aB,<-hn];refine ah ?_;refine ai (aO (ι:={y:Nat×Ds // y.1<=i∧lI i y.2∧S1=mc y.1 y.2 (f.blocks.drop y.1)}) (fun y=>⟨106,[(1,.ip none [aI f.name,ay f.blocks]),(3,.mp 1 0),(6,.ms 3 0 i i),(8,.mp 4 0),(47,ay f.blocks),(48,aI i),(9,.v (.bool y.1.2.again)),(49,aI y.1.1)],[.gone,.cells [.v (.int .u64 0),.v (.int .u64 0)],.cells A.enc.cells,.cells (au (y.1.2.over.map Bs.enc)),.cells y.1.2.seen.enc.cells]⟩) (fun y=>i-y.1.1) ⟨(0,⟨S.over,S.seen,false⟩),by simp,Oh,UJ⟩ ?_ ?_)
   ·refine zq rfl ?_ ?_;simp -dsimp only[simprocAttr,↓aa,zp,Bs.ak,Bs.av,Bs.al,aB,zc]
    all_goals rfl
   rintro⟨⟨k,T⟩,hk,I9,EA⟩;simp only at hk I9 EA;refine aS ?_;simp -dsimp only[simprocAttr,↓aa,zp,Bs.ak,Bs.av,Bs.al,aB];refine ah ?_;apply iz rfl<;>intro h
   ·refine cd ?_;have bg:k<i:=by simpa using h
    obtain⟨b,hb⟩:∃b,f.blocks[k]?=some b:=⟨f.blocks[k]'(by omega),List.getElem?_eq_getElem _⟩
    have mg:=List.mem_of_getElem? hb;rw[bP hb]at EA;simp only[mc]at EA;have ZV:=Gh (k:=k) I9 (he b mg);have OE:=rH T.seen I9.seen k (by omega);refine aJ (ai ?_);refine aS ?_;simp -dsimp only[simprocAttr,↓aa,zp,Bs.ak,Bs.av,Bs.al,aB,hb];refine ah ?_;refine aD 11 5 (.ip none [aK b.params,bf b.ins,aI b.term.kind,aI b.term.arg,aI b.term.n,aK b.term.cases,aH b.term.to]) rfl (by simp[aj.aF]) trivial rfl ?_ ?_;rotate_left;simp -dsimp only[simprocAttr,↓aa,zp,Bs.ak,Bs.av,Bs.al,aB]
    ·refine bt 5 [(1,.ip none [aI f.name,ay f.blocks]),(3,.mp 1 0),(6,.ms 3 0 i i),(8,.mp 4 0),(47,ay f.blocks),(48,aI i),(9,.v (.bool T.again)),(10,aI k),(11,.ip none [aK b.params,bf b.ins,aI b.term.kind,aI b.term.arg,aI b.term.n,aK b.term.cases,aH b.term.to]),(49,aI k)] (by simp) (by omega) [.gone,.cells [.v (.int .u64 0),.v (.int .u64 0)],.cells A.enc.cells,.cells (au (T.over.map Bs.enc)),.cells T.seen.enc.cells] ?_ ?_ ?_ ?_ ?_
     ·rfl
     ·simp[aj.upto,aw,ae.upto,az,Block.ag,Edge.ag,Ins.ag,jg,Bs.ak]
     ·simp[fj,St.get,bF,bh,Go.Av.look,Sub.refl]
     ·simp[aj.upto,aw,ae.upto,az,Block.ag,Edge.ag,Ins.ag,jg,Bs.ak]
     cases sT:T.seen.has k with
     | false =>
      rw[sT]at OE;have X3:rA k T b=T:=by simp[rA,sT]
      rw[X3]at EA;refine c9 ?_;simp -dsimp only[simprocAttr,↓aa,zp,Bs.ak,Bs.av,Bs.al,aB];refine .inl ⟨_,OE,by simp only[aw,ae.upto,zt,zu,az,Bs.aQ,Bs.al],ao ?_⟩;simp -dsimp only[simprocAttr,↓aa,zp,Bs.ak,Bs.av,Bs.al,aB];refine ah ?_;refine cH rfl ?_;refine aM ?_;simp -dsimp only[bS,ne_eq,Nat.reduceEqDiff,reduceCtorEq];refine kC ?_;simp -dsimp only[simprocAttr,↓aa,zp,Bs.ak,Bs.av,Bs.al,aB]
      repeat(refine⟨by omega,?_⟩)
      refine fK ?_;refine⟨⟨(k+1,T),by simp only;omega,I9,EA⟩,by simp;omega,?_⟩;refine zq rfl ?_ ?_;simp -dsimp only[simprocAttr,↓aa,zp,Bs.ak,Bs.av,Bs.al,aB,zc]
      all_goals first|rfl|exact Sub.refl _
     | true =>
      rw[sT]at OE;have X3:rA k T b=b.term.to.foldl (iQ k) T:=by simp[rA,sT]
      rw[X3]at EA ZV;refine c9 ?_;simp -dsimp only[simprocAttr,↓aa,zp,Bs.ak,Bs.av,Bs.al,aB];refine .inl ⟨_,OE,by simp only[aw,ae.upto,zt,zu,az,Bs.aQ,Bs.al],ao ?_⟩;simp -dsimp only[simprocAttr,↓aa,zp,Bs.ak,Bs.av,Bs.al,aB];refine ah ?_;apply aP rfl<;>intro h
      ·cases h
      refine cd ?_;refine aS ?_;simp -dsimp only[simprocAttr,↓aa,zp,Bs.ak,Bs.av,Bs.al,aB];refine ah ?_;refine gg 60 rfl (fun jD=>?_);simp only[List.length_map]at jD;obtain⟨T1,Kw⟩:∃T1,T1=b.term.to.foldl (iQ k) T:=⟨_,rfl⟩
      rw[<-Kw]at EA ZV;refine ai (aO (ι:={y:Nat×Ds // y.1<=b.term.to.length∧lI i y.2∧T1=(b.term.to.drop y.1).foldl (iQ k) y.2}) (fun y=>⟨106,[(1,.ip none [aI f.name,ay f.blocks]),(3,.mp 1 0),(6,.ms 3 0 i i),(8,.mp 4 0),(47,ay f.blocks),(48,aI i),(9,.v (.bool y.1.2.again)),(10,aI k),(49,aI k),(60,aH b.term.to),(61,aI b.term.to.length),(62,aI y.1.1)],[.gone,.cells [.v (.int .u64 0),.v (.int .u64 0)],.cells A.enc.cells,.cells (au (y.1.2.over.map Bs.enc)),.cells y.1.2.seen.enc.cells]⟩) (fun y=>b.term.to.length-y.1.1) ⟨(0,T),by simp,I9,Kw⟩ ?_ ?_)
      ·refine zq rfl ?_ ?_;simp -dsimp only[simprocAttr,↓aa,zp,Bs.ak,Bs.av,Bs.al,aB,zc]
       all_goals rfl
      rintro⟨⟨z,U⟩,hz,HJ,Ol⟩;simp only at hz HJ Ol;refine aS ?_;simp -dsimp only[simprocAttr,↓aa,zp,Bs.ak,Bs.av,Bs.al,aB];refine ah ?_;apply iz rfl<;>intro h
      ·refine cd ?_;have OJ:z<b.term.to.length:=by simpa using h
       obtain⟨e,uL⟩:∃e,b.term.to[z]?=some e:=⟨b.term.to[z],by simp[OJ]⟩
       obtain⟨M6,rJ⟩:=he b mg e (List.mem_of_getElem? uL);rw[bP uL]at Ol;simp only[List.foldl_cons]at Ol;have jP:=Gi (k:=k) HJ M6 rJ;obtain⟨ej,TJ⟩:∃ej:Nat,e.block=ej:=⟨e.block.toNat,by omega⟩
       have U9:e.block.toNat=ej:=by omega
       rw[U9]at rJ;have VG:U.over[ej]?=some (U.at_ ej):=by
        have:ej<U.over.length:=by rw[HJ.len];exact rJ
        simp[Ds.at_,this]
       have lM:U.over[k]?=some (U.at_ k):=by
        have:k<U.over.length:=by rw[HJ.len];exact bg
        simp[Ds.at_,this]
       have US:=Hj (U.at_ ej) (U.at_ k) (HJ.zG ej) (HJ.zG k);have M7:=Bs.B0 (t:=U.at_ k) (HJ.zG ej);have R0:=GG ((U.at_ ej).meet (U.at_ k)) ej M7 (by omega);have mV:=Bs.pA M7 (k:=ej) (by omega);have wm:=rH U.seen HJ.seen ej (by omega);have Rb:=GG U.seen ej HJ.seen (by omega);have qj:=JC VG;have Vi:=JC lM;have yJ:=zH U.over;rw[HJ.len]at yJ;have X2:iQ k U e=if((U.at_ ej).meet (U.at_ k)).add ej≠U.at_ ej∨U.seen.has ej=false then⟨U.over.set ej (((U.at_ ej).meet (U.at_ k)).add ej),U.seen.add ej,true⟩else U:=by
        simp only[iQ,U9]
       generalize hM1:(U.at_ ej).meet (U.at_ k)=M1 at *;generalize hN:M1.add ej=N at *;generalize hV:U.at_ ej=V at *;have iw:=D0 (l:=U.over) (k:=ej) (by rw[HJ.len];exact rJ) N;refine aJ (ai ?_);refine aS ?_;simp -dsimp only[simprocAttr,↓aa,zp,Bs.ak,Bs.av,Bs.al,aB,uL];refine ah ?_;refine aD 13 5 (.ip none [aI e.block,aK e.args]) rfl (by simp[aj.aF]) trivial rfl ?_ ?_;rotate_left;simp -dsimp only[simprocAttr,↓aa,zp,Bs.ak,Bs.av,Bs.al,aB]
       ·refine bt 5 [(1,.ip none [aI f.name,ay f.blocks]),(3,.mp 1 0),(6,.ms 3 0 i i),(8,.mp 4 0),(47,ay f.blocks),(48,aI i),(9,.v (.bool U.again)),(10,aI k),(13,.ip none [aI e.block,aK e.args]),(49,aI k),(60,aH b.term.to),(61,aI b.term.to.length),(62,aI z)] (by simp) (by omega) [.gone,.cells [.v (.int .u64 0),.v (.int .u64 0)],.cells A.enc.cells,.cells (au (U.over.map Bs.enc)),.cells U.seen.enc.cells] ?_ ?_ ?_ ?_ ?_
        ·rfl
        ·simp[aj.upto,aw,ae.upto,az,Block.ag,Edge.ag,Ins.ag,jg,Bs.ak]
        ·simp[fj,St.get,bF,bh,Go.Av.look,Sub.refl]
        ·simp[aj.upto,aw,ae.upto,az,Block.ag,Edge.ag,Ins.ag,jg,Bs.ak]
        refine aS ?_;simp -dsimp only[simprocAttr,↓aa,zp,Bs.ak,Bs.av,Bs.al,aB,TJ,Int.toNat_natCast,qj,Vi,yJ];refine⟨by omega,by omega,by omega,by omega,?_⟩;refine .inl ⟨_,US,by simp only[aw,ae.upto,zt,zu,az,Bs.aQ,Bs.al],ao ?_⟩;simp -dsimp only[simprocAttr,↓aa,zp,Bs.ak,Bs.av,Bs.al,aB];refine .inl ⟨_,R0,by simp only[aw,ae.upto,zt,zu,az,Bs.aQ,Bs.al],ao ?_⟩;simp -dsimp only[simprocAttr,↓aa,zp,Bs.ak,Bs.av,Bs.al,aB];refine⟨ob (by kernel_rfl),?_⟩;refine ah ?_;have UU:=jg 5 (U.over.set ej N);rw[List.map_set]at UU;by_cases WL:N=V
        ·have WQ:decide (N=V)=true:=decide_eq_true WL;cases K4:U.seen.has ej with
         | true =>
          rw[K4]at wm;have EL:iQ k U e=U:=by rw[X2,if_neg (by simp[WL,K4])]
          refine aS ?_;simp -dsimp only[simprocAttr,↓aa,zp,Bs.ak,Bs.av,Bs.al,aB,TJ,Int.toNat_natCast,qj,yJ,xc,WQ]
          repeat(refine⟨by omega,?_⟩)
          refine .inl ⟨_,wm,by simp only[aw,ae.upto,zt,zu,az,Bs.aQ,Bs.al],ao ?_⟩;simp -dsimp only[simprocAttr,↓aa,zp,Bs.ak,Bs.av,Bs.al,aB];refine⟨ob (by kernel_rfl),?_⟩;refine ah ?_;refine cr rfl ?_;refine la ?_;refine bt 5 [(1,.ip none [aI f.name,ay f.blocks]),(3,.mp 1 0),(6,.ms 3 0 i i),(8,.mp 4 0),(47,ay f.blocks),(48,aI i),(9,.v (.bool U.again)),(10,aI k),(49,aI k),(60,aH b.term.to),(61,aI b.term.to.length),(62,aI z)] (by simp) (by omega) [.gone,.cells [.v (.int .u64 0),.v (.int .u64 0)],.cells A.enc.cells,.cells (au ((U.over).map Bs.enc)),.cells (U.seen).enc.cells] ?_ ?_ ?_ ?_ ?_
          ·rfl
          ·simp[aj.upto,aw,ae.upto,az,Block.ag,Edge.ag,Ins.ag,jg,Bs.ak]
          ·simp[fj,St.get,bF,bh,Go.Av.look,Sub.refl]
          ·simp[aj.upto,aw,ae.upto,az,Block.ag,Edge.ag,Ins.ag,jg,Bs.ak]
          refine kC ?_;simp -dsimp only[simprocAttr,↓aa,zp,Bs.ak,Bs.av,Bs.al,aB]
          repeat(refine⟨by omega,?_⟩)
          refine fK ?_;refine⟨⟨(z+1,U),by simp only;omega,HJ,by rw[Ol,EL]⟩,by simp;omega,?_⟩;refine zq rfl ?_ ?_;simp -dsimp only[simprocAttr,↓aa,zp,Bs.ak,Bs.av,Bs.al,aB,zc]
          all_goals first|rfl|exact Sub.refl _
         | false =>
          rw[K4]at wm;have EL:iQ k U e=⟨U.over.set ej N,U.seen.add ej,true⟩:=by rw[X2,if_pos (.inr K4)]
          refine aS ?_;simp -dsimp only[simprocAttr,↓aa,zp,Bs.ak,Bs.av,Bs.al,aB,TJ,Int.toNat_natCast,qj,yJ,xc,WQ]
          repeat(refine⟨by omega,?_⟩)
          refine .inl ⟨_,wm,by simp only[aw,ae.upto,zt,zu,az,Bs.aQ,Bs.al],ao ?_⟩;simp -dsimp only[simprocAttr,↓aa,zp,Bs.ak,Bs.av,Bs.al,aB];refine⟨ob (by kernel_rfl),?_⟩;refine ah ?_;refine cH rfl ?_;refine kC ?_;simp -dsimp only[simprocAttr,↓aa,zp,Bs.ak,Bs.av,Bs.al,aB,TJ,Int.toNat_natCast,iw,yJ]
          repeat(refine⟨by omega,?_⟩)
          refine .inl ⟨_,Rb,by simp only[aw,ae.upto,zt,zu,az,Bs.aQ,Bs.al],ao ?_⟩;simp -dsimp only[simprocAttr,↓aa,zp,Bs.ak,Bs.av,Bs.al,aB,iw,yJ]
          repeat(refine⟨by omega,?_⟩)
          refine⟨ob (by kernel_rfl),?_⟩;refine ah ?_;refine bt 5 [(1,.ip none [aI f.name,ay f.blocks]),(3,.mp 1 0),(6,.ms 3 0 i i),(8,.mp 4 0),(47,ay f.blocks),(48,aI i),(9,.v (.bool true)),(10,aI k),(49,aI k),(60,aH b.term.to),(61,aI b.term.to.length),(62,aI z)] (by simp) (by omega) [.gone,.cells [.v (.int .u64 0),.v (.int .u64 0)],.cells A.enc.cells,.cells (au ((U.over.set ej N).map Bs.enc)),.cells (U.seen.add ej).enc.cells] ?_ ?_ ?_ ?_ ?_
          ·rfl
          ·simp[aj.upto,aw,ae.upto,az,Block.ag,Edge.ag,Ins.ag,jg,Bs.ak,UU]
          ·simp[fj,St.get,bF,bh,Go.Av.look,Sub.refl]
          ·simp[aj.upto,aw,ae.upto,az,Block.ag,Edge.ag,Ins.ag,jg,Bs.ak]
          refine kC ?_;simp -dsimp only[simprocAttr,↓aa,zp,Bs.ak,Bs.av,Bs.al,aB]
          repeat(refine⟨by omega,?_⟩)
          refine fK ?_;refine⟨⟨(z+1,⟨U.over.set ej N,U.seen.add ej,true⟩),by simp only;omega,by rw[<-EL];exact jP.1,by rw[Ol,EL]⟩,by simp;omega,?_⟩;refine zq rfl ?_ ?_;simp -dsimp only[simprocAttr,↓aa,zp,Bs.ak,Bs.av,Bs.al,aB,zc]
          all_goals first|rfl|exact Sub.refl _
        have WQ:decide (N=V)=false:=decide_eq_false WL;have EL:iQ k U e=⟨U.over.set ej N,U.seen.add ej,true⟩:=by rw[X2,if_pos (.inl WL)]
        refine aS ?_;simp -dsimp only[simprocAttr,↓aa,zp,Bs.ak,Bs.av,Bs.al,aB,TJ,Int.toNat_natCast,qj,yJ,xc,WQ]
        repeat(refine⟨by omega,?_⟩)
        refine⟨ob (by kernel_rfl),?_⟩;refine ah ?_;refine cH rfl ?_;refine kC ?_;simp -dsimp only[simprocAttr,↓aa,zp,Bs.ak,Bs.av,Bs.al,aB,TJ,Int.toNat_natCast,iw,yJ]
        repeat(refine⟨by omega,?_⟩)
        refine .inl ⟨_,Rb,by simp only[aw,ae.upto,zt,zu,az,Bs.aQ,Bs.al],ao ?_⟩;simp -dsimp only[simprocAttr,↓aa,zp,Bs.ak,Bs.av,Bs.al,aB,iw,yJ]
        repeat(refine⟨by omega,?_⟩)
        refine⟨ob (by kernel_rfl),?_⟩;refine ah ?_;refine bt 5 [(1,.ip none [aI f.name,ay f.blocks]),(3,.mp 1 0),(6,.ms 3 0 i i),(8,.mp 4 0),(47,ay f.blocks),(48,aI i),(9,.v (.bool true)),(10,aI k),(49,aI k),(60,aH b.term.to),(61,aI b.term.to.length),(62,aI z)] (by simp) (by omega) [.gone,.cells [.v (.int .u64 0),.v (.int .u64 0)],.cells A.enc.cells,.cells (au ((U.over.set ej N).map Bs.enc)),.cells (U.seen.add ej).enc.cells] ?_ ?_ ?_ ?_ ?_
        ·rfl
        ·simp[aj.upto,aw,ae.upto,az,Block.ag,Edge.ag,Ins.ag,jg,Bs.ak,UU]
        ·simp[fj,St.get,bF,bh,Go.Av.look,Sub.refl]
        ·simp[aj.upto,aw,ae.upto,az,Block.ag,Edge.ag,Ins.ag,jg,Bs.ak]
        refine kC ?_;simp -dsimp only[simprocAttr,↓aa,zp,Bs.ak,Bs.av,Bs.al,aB]
        repeat(refine⟨by omega,?_⟩)
        refine fK ?_;refine⟨⟨(z+1,⟨U.over.set ej N,U.seen.add ej,true⟩),by simp only;omega,by rw[<-EL];exact jP.1,by rw[Ol,EL]⟩,by simp;omega,?_⟩;refine zq rfl ?_ ?_;simp -dsimp only[simprocAttr,↓aa,zp,Bs.ak,Bs.av,Bs.al,aB,zc]
        all_goals first|rfl|exact Sub.refl _
       exact bQ.mp rfl rfl
      refine aM ?_;simp -dsimp only[bS,ne_eq,Nat.reduceEqDiff,reduceCtorEq];have mr:z=b.term.to.length:=by simp at h;omega
      subst mr;rw[List.drop_length]at Ol;simp only[List.foldl_nil]at Ol;refine kC ?_;simp -dsimp only[simprocAttr,↓aa,zp,Bs.ak,Bs.av,Bs.al,aB]
      repeat(refine⟨by omega,?_⟩)
      refine fK ?_;refine⟨⟨(k+1,U),by simp only;omega,HJ,by rw[EA,Ol]⟩,by simp;omega,?_⟩;refine zq rfl ?_ ?_;simp -dsimp only[simprocAttr,↓aa,zp,Bs.ak,Bs.av,Bs.al,aB,zc]
      all_goals first|rfl|exact Sub.refl _
    exact bQ.mp rfl rfl
   refine aM ?_;simp -dsimp only[bS,ne_eq,Nat.reduceEqDiff,reduceCtorEq];have Yp:k=i:=by simp at h;omega
   subst Yp;rw[hn,List.drop_length]at EA;simp only[mc]at EA;subst EA;have KP:S1.again=true->S1.weight<q:=fun hh=>by
    rcases Ro hh with r|r
    ·cases r
    omega
   refine⟨⟨(S1,q),Xd,Kv,KP⟩,?_,?_⟩
   ·simp only[mU,if_true];cases wg:S1.again
    ·simp;omega
    rcases Ro wg with r|r
    ·cases r
    simp;omega
   refine zq rfl ?_ ?_;simp -dsimp only[simprocAttr,↓aa,zp,Bs.ak,Bs.av,Bs.al,aB,zc]
   all_goals rfl
  refine aM ?_;simp -dsimp only[bS,ne_eq,Nat.reduceEqDiff,reduceCtorEq];have mU:S.again=false:=h;rw[yn mU]at Og;subst Og;have cP:=HI.len;refine aD 6 3 (.aC 2 (R.over.map Bs.enc) .sh) rfl (by simp[aj.aF]) trivial rfl ?_ ?_;rotate_left;simp -dsimp only[simprocAttr,↓aa,zp,Bs.ak,Bs.av,Bs.al,aB]
  ·refine aS ?_;simp -dsimp only[simprocAttr,↓aa,zp,Bs.ak,Bs.av,Bs.al,aB];refine⟨ob (by kernel_rfl),?_⟩;refine ah ?_;refine aq ?_;simp -dsimp only[simprocAttr,↓aa,zp,Bs.ak,Bs.av,Bs.al,aB,zr,Tryz.results88];exact⟨⟨iC _ _,trivial⟩,Bs.aQ _ _,trivial⟩
  refine bQ.ms rfl (Gf R.over) (by simp[cP]) ?_;rw[List.drop_zero,List.take_of_length_le (by rw[zH,cP];exact Nat.le_refl _),<-fO];simp[List.map_map,Function.comp_def,Bs.al]
 exact bQ.mp rfl rfl
abbrev JF(f:Func)(ds:Defs)(over:List Bs)(seen:Bs)(k:Nat)(A:Nat):List ae:=[.ip none [.ip none [aI f.name,ay f.blocks,.im (.int .i64) (ds.map fI)]],.ip none [aI (k:Int)],.mp A 0,.ip none [.aC 2 (over.map Bs.enc) .sh],.ip none [.v (.int .u64 seen.a),.v (.int .u64 seen.b)]]
def jC(ds:Defs)(over:List Bs)(seen:Bs)(k:Nat)(at_:Int)(v:Int):Bool :=
 match gb ds v with
 | none=>false
 | some p=>(decide (p.1=k)&&decide (p.2<=at_)) || ((!decide (p.1=k)&&(over[k]?.getD .none).has p.1.toNat) || !seen.has k)
def DG(n:Nat)(ds:Defs):Prop:=∀v p,gb ds v=some p->0<=p.1∧p.1.toNat<n
theorem HD{O:List aj}(bG:∀o∈O,o.upto O.length){f:Func}{ds:Defs}{over:List Bs}{seen:Bs}{k A:Nat}{at_:Int}(hA:O[A]?=some (.cells [aI at_]))(hn:over.length<=128)(hk:k<over.length)(a8:∀s∈over,s.fit)(OC:seen.fit)(uK:DG over.length ds)(v:Int) :
  bd Tryz.prog 89 O (aI v::JF f ds over seen k A) (fun r O'=>r=.v (.bool (jC ds over seen k at_ v))∧O'=O):=by
 have Oc:=I hA;have lM:over[k]?=some over[k]:=List.getElem?_eq_getElem hk;have ZZ:=a8 _ (List.getElem_mem hk);obtain⟨s,hs⟩:∃s,s=over[k]:=⟨_,rfl⟩
 rw[<-hs]at lM ZZ;have wm:=rH seen OC k (by omega);unfold jC;have hAX:∀X,(O++X)[A]?=some (.cells [aI at_]):=fun X=>cw hA;have hdu:=fP O.length ds;rw[lM];simp only[Option.getD_some];generalize sT:seen.has k=sk at *;cases hl:gb ds v with
 | none =>
  refine zf true O.length Tryz.func89 Tryz.ntmps89 ?_;dsimp only[Tmp,TypeId,slotsOf];refine aS ?_;simp -dsimp only[simprocAttr,↓aa,zp,Bs.ak,Bs.av,Bs.al,aB];refine ah ?_;refine aS ?_;simp -dsimp only[simprocAttr,↓aa,zp,Bs.ak,Bs.av,Bs.al,aB,jT,hl,Option.map_none,Option.getD_none,Option.isSome_none];refine ah ?_;refine aY 8 ([aI 0,aI 0]) [(9,.v (.bool false))] rfl (by rfl) (by omega) (by simp[bF,bh,Go.Av.look]) ?_ ?_ ?_
  ·exact bG
  ·simp[ae.upto]
  refine aS ?_;simp -dsimp only[simprocAttr,↓aa,zp,Bs.ak,Bs.av,Bs.al,aB];refine⟨ob (by kernel_rfl),?_⟩;refine ah ?_;refine aq ?_;simp -dsimp only[simprocAttr,↓aa,zp,Bs.ak,Bs.av,Bs.al,aB,zr,Tryz.results89];exact bG
 | some p =>
  have hq:eD p=.agg [aI p.1,aI p.2]:=rfl;obtain⟨b0,b1⟩:=uK v p hl;have od:=rH s ZZ p.1.toNat (by omega)
  rw[show((p.1.toNat:Nat):Int)=p.1 by omega]at od;simp only;generalize s.has p.1.toNat=sv at *;by_cases GB:p.1=k
  ·have hd:decide (p.1=(k:Int))=true:=decide_eq_true GB;by_cases SC:p.2<=at_
   ·have pE:decide (p.2<=at_)=true:=decide_eq_true SC;rw[hd,pE];refine zf true O.length Tryz.func89 Tryz.ntmps89 ?_;dsimp only[Tmp,TypeId,slotsOf];refine aS ?_;simp -dsimp only[simprocAttr,↓aa,zp,Bs.ak,Bs.av,Bs.al,aB];refine ah ?_;refine aS ?_;simp -dsimp only[simprocAttr,↓aa,zp,Bs.ak,Bs.av,Bs.al,aB,jT,hl,hq,Option.map_some,Option.getD_some,Option.isSome_some];refine ah ?_;refine aY 8 ([aI p.1,aI p.2]) [(2,.ip none [aI k]),(3,.mp A 0),(4,.ip none [.aC 2 (over.map Bs.enc) .sh]),(5,.ip none [.v (.int .u64 seen.a),.v (.int .u64 seen.b)]),(8,.ip none [aI p.1,aI p.2]),(9,.v (.bool true))] rfl (by rfl) (by omega) (by simp[bF,bh,Go.Av.look]) ?_ ?_ ?_
    ·exact bG
    ·simp[ae.upto,aw,Oc,iC]
    refine aS ?_;simp -dsimp only[simprocAttr,↓aa,zp,Bs.ak,Bs.av,Bs.al,aB,hA,lM,Int.toNat_natCast,hd,pE];refine⟨ob (by kernel_rfl),?_⟩;refine ah ?_;refine aq ?_;simp -dsimp only[simprocAttr,↓aa,zp,Bs.ak,Bs.av,Bs.al,aB,zr,Tryz.results89];exact⟨bG,by simp⟩
   have pE:decide (p.2<=at_)=false:=decide_eq_false SC;rw[hd,pE];refine zf true O.length Tryz.func89 Tryz.ntmps89 ?_;dsimp only[Tmp,TypeId,slotsOf];refine aS ?_;simp -dsimp only[simprocAttr,↓aa,zp,Bs.ak,Bs.av,Bs.al,aB];refine ah ?_;refine aS ?_;simp -dsimp only[simprocAttr,↓aa,zp,Bs.ak,Bs.av,Bs.al,aB,jT,hl,hq,Option.map_some,Option.getD_some,Option.isSome_some];refine ah ?_;refine aY 8 ([aI p.1,aI p.2]) [(2,.ip none [aI k]),(3,.mp A 0),(4,.ip none [.aC 2 (over.map Bs.enc) .sh]),(5,.ip none [.v (.int .u64 seen.a),.v (.int .u64 seen.b)]),(8,.ip none [aI p.1,aI p.2]),(9,.v (.bool true))] rfl (by rfl) (by omega) (by simp[bF,bh,Go.Av.look]) ?_ ?_ ?_
   ·exact bG
   ·simp[ae.upto,aw,Oc,iC]
   refine aS ?_;simp -dsimp only[simprocAttr,↓aa,zp,Bs.ak,Bs.av,Bs.al,aB,hA,lM,Int.toNat_natCast,hd,pE];refine .inl ⟨_,wm,by simp only[aw,ae.upto,zt,zu,az,Bs.aQ,Bs.al],ao ?_⟩;simp -dsimp only[simprocAttr,↓aa,zp,Bs.ak,Bs.av,Bs.al,aB,hd,pE,hA,lM,Int.toNat_natCast];refine⟨ob (by kernel_rfl),?_⟩;refine ah ?_;refine aq ?_;simp -dsimp only[simprocAttr,↓aa,zp,Bs.ak,Bs.av,Bs.al,aB,zr,Tryz.results89];exact⟨bG,by simp⟩
  have hd:decide (p.1=(k:Int))=false:=decide_eq_false GB;rw[hd];cases sv with
  | true =>
   refine zf true O.length Tryz.func89 Tryz.ntmps89 ?_;dsimp only[Tmp,TypeId,slotsOf];refine aS ?_;simp -dsimp only[simprocAttr,↓aa,zp,Bs.ak,Bs.av,Bs.al,aB];refine ah ?_;refine aS ?_;simp -dsimp only[simprocAttr,↓aa,zp,Bs.ak,Bs.av,Bs.al,aB,jT,hl,hq,Option.map_some,Option.getD_some,Option.isSome_some];refine ah ?_;refine aY 8 ([aI p.1,aI p.2]) [(2,.ip none [aI k]),(3,.mp A 0),(4,.ip none [.aC 2 (over.map Bs.enc) .sh]),(5,.ip none [.v (.int .u64 seen.a),.v (.int .u64 seen.b)]),(8,.ip none [aI p.1,aI p.2]),(9,.v (.bool true))] rfl (by rfl) (by omega) (by simp[bF,bh,Go.Av.look]) ?_ ?_ ?_
   ·exact bG
   ·simp[ae.upto,aw,Oc,iC]
   refine aS ?_;simp -dsimp only[simprocAttr,↓aa,zp,Bs.ak,Bs.av,Bs.al,aB,hA,lM,Int.toNat_natCast,hd];refine .inl ⟨_,od,by simp only[aw,ae.upto,zt,zu,az,Bs.aQ,Bs.al],ao ?_⟩;simp -dsimp only[simprocAttr,↓aa,zp,Bs.ak,Bs.av,Bs.al,aB,hd,hA,lM,Int.toNat_natCast];refine⟨ob (by kernel_rfl),?_⟩;refine ah ?_;refine aq ?_;simp -dsimp only[simprocAttr,↓aa,zp,Bs.ak,Bs.av,Bs.al,aB,zr,Tryz.results89];exact⟨bG,by simp⟩
  | false =>
   refine zf true O.length Tryz.func89 Tryz.ntmps89 ?_;dsimp only[Tmp,TypeId,slotsOf];refine aS ?_;simp -dsimp only[simprocAttr,↓aa,zp,Bs.ak,Bs.av,Bs.al,aB];refine ah ?_;refine aS ?_;simp -dsimp only[simprocAttr,↓aa,zp,Bs.ak,Bs.av,Bs.al,aB,jT,hl,hq,Option.map_some,Option.getD_some,Option.isSome_some];refine ah ?_;refine aY 8 ([aI p.1,aI p.2]) [(2,.ip none [aI k]),(3,.mp A 0),(4,.ip none [.aC 2 (over.map Bs.enc) .sh]),(5,.ip none [.v (.int .u64 seen.a),.v (.int .u64 seen.b)]),(8,.ip none [aI p.1,aI p.2]),(9,.v (.bool true))] rfl (by rfl) (by omega) (by simp[bF,bh,Go.Av.look]) ?_ ?_ ?_
   ·exact bG
   ·simp[ae.upto,aw,Oc,iC]
   refine aS ?_;simp -dsimp only[simprocAttr,↓aa,zp,Bs.ak,Bs.av,Bs.al,aB,hA,lM,Int.toNat_natCast,hd];refine .inl ⟨_,od,by simp only[aw,ae.upto,zt,zu,az,Bs.aQ,Bs.al],ao ?_⟩;simp -dsimp only[simprocAttr,↓aa,zp,Bs.ak,Bs.av,Bs.al,aB,hd,hA,lM,Int.toNat_natCast];refine .inl ⟨_,wm,by simp only[aw,ae.upto,zt,zu,az,Bs.aQ,Bs.al],ao ?_⟩;simp -dsimp only[simprocAttr,↓aa,zp,Bs.ak,Bs.av,Bs.al,aB,hd,hA,lM,Int.toNat_natCast];refine⟨ob (by kernel_rfl),?_⟩;refine ah ?_;refine aq ?_;simp -dsimp only[simprocAttr,↓aa,zp,Bs.ak,Bs.av,Bs.al,aB,zr,Tryz.results89];exact⟨bG,by simp⟩
def ph(t:Term)(p:Int->Bool):Bool:=((decide (t.kind=1) ||decide (t.kind=4)) ||p t.arg)&&t.to.all fun e=>e.args.all p
theorem va{α:Type}{l:List α}{p:α->Bool}{j:Nat}{x:α}(h:l[j]?=some x):(l.drop j).all p=(p x&&(l.drop (j+1)).all p):=by
 rw[bP h];rfl
theorem I0{O:List aj}(bG:∀o∈O,o.upto O.length)(id:Nat)(zI:List ae)(uJ:aw O.length zI)(p:Int->Bool)(hp:∀v,bd Tryz.prog id O (aI v::zI) (fun r O'=>r=.v (.bool (p v))∧O'=O))(t:Term) :
  bd Tryz.prog 91 O [t.enc,.fn (.func id) [] zI] (fun r O'=>r=.v (.bool (ph t p))∧O'=O):=by
 obtain⟨R,hR⟩:∃R,R=ph t p:=⟨_,rfl⟩
 rw[<-hR];unfold ph at hR;have EI:ae.upto O.length (.fn (.func id) [] zI):=⟨trivial,uJ⟩
 have SC:=hp t.arg;refine zf true O.length Tryz.func91 Tryz.ntmps91 ?_;dsimp only[Tmp,TypeId,slotsOf];refine aS ?_;simp -dsimp only[simprocAttr,↓aa,zp,Bs.ak,Bs.av,Bs.al,aB];refine ah ?_;refine aY 2 ([aI t.kind,aI t.arg,aI t.n,aK t.cases,aH t.to]) [(1,.fn (.func id) [] zI),(2,.ip none [aI t.kind,aI t.arg,aI t.n,aK t.cases,aH t.to]),(4,.v (.bool false))] rfl (by rfl) (by omega) (by simp[bF,bh,Go.Av.look]) ?_ ?_ ?_
 ·exact bG
 ·simp[ae.upto,aw,az,Edge.ag,uJ]
 cases hb:(decide (t.kind=1) ||decide (t.kind=4)) ||p t.arg with
 | false =>
  rw[hb]at hR;obtain⟨h1,h4,Gp⟩:decide (t.kind=1)=false∧decide (t.kind=4)=false∧p t.arg=false:=by
   revert hb;cases decide (t.kind=1)<;>cases decide (t.kind=4)<;>cases p t.arg<;>simp
  rw[Gp]at SC;refine c9 ?_;simp -dsimp only[simprocAttr,↓aa,zp,Bs.ak,Bs.av,Bs.al,aB,h1,h4];refine .inr (.inr ⟨_,SC,ao ?_⟩);simp -dsimp only[simprocAttr,↓aa,zp,Bs.ak,Bs.av,Bs.al,aB];refine ah ?_;refine cH rfl ?_;refine aS ?_;simp -dsimp only[simprocAttr,↓aa,zp,Bs.ak,Bs.av,Bs.al,aB];refine ah ?_;refine aq ?_;simp -dsimp only[simprocAttr,↓aa,zp,Bs.ak,Bs.av,Bs.al,aB,zr,Tryz.results91];exact⟨bG,by rw[hR];rfl⟩
 | true =>
  rw[hb,Bool.true_and]at hR;refine gI (⟨44,[(1,.fn (.func id) [] zI),(2,.ip none [aI t.kind,aI t.arg,aI t.n,aK t.cases,aH t.to]),(4,.v (.bool false))],O⟩) ?_ ?_
  ·cases h1:decide (t.kind=1)with
   | true =>
    refine aS ?_;simp -dsimp only[simprocAttr,↓aa,zp,Bs.ak,Bs.av,Bs.al,aB,h1];refine ah ?_;refine cr rfl ?_;refine a6 ?_;show bc _ _;refine zq rfl ?_ ?_;simp -dsimp only[simprocAttr,↓aa,zp,Bs.ak,Bs.av,Bs.al,aB,zc];rfl
   | false =>
    cases h4:decide (t.kind=4)with
    | true =>
     refine aS ?_;simp -dsimp only[simprocAttr,↓aa,zp,Bs.ak,Bs.av,Bs.al,aB,h1,h4];refine ah ?_;refine cr rfl ?_;refine a6 ?_;show bc _ _;refine zq rfl ?_ ?_;simp -dsimp only[simprocAttr,↓aa,zp,Bs.ak,Bs.av,Bs.al,aB,zc];rfl
    | false =>
     have Gp:p t.arg=true:=by
      rw[h1,h4]at hb;simpa using hb
     rw[Gp]at SC;refine aS ?_;simp -dsimp only[simprocAttr,↓aa,zp,Bs.ak,Bs.av,Bs.al,aB,h1,h4];refine .inr (.inr ⟨_,SC,ao ?_⟩);simp -dsimp only[simprocAttr,↓aa,zp,Bs.ak,Bs.av,Bs.al,aB];refine ah ?_;refine cr rfl ?_;refine a6 ?_;show bc _ _;refine zq rfl ?_ ?_;simp -dsimp only[simprocAttr,↓aa,zp,Bs.ak,Bs.av,Bs.al,aB,zc];rfl
  skip
  refine c9 ?_;simp -dsimp only[simprocAttr,↓aa,zp,Bs.ak,Bs.av,Bs.al,aB];refine ah ?_;refine gg 25 rfl (fun jD=>?_);simp only[List.length_map]at jD;refine ai (aO (ι:={j:Nat // j<=t.to.length∧R=(t.to.drop j).all fun e=>e.args.all p}) (fun j=>⟨44,[(1,.fn (.func id) [] zI),(4,.v (.bool false)),(25,aH t.to),(26,aI t.to.length),(27,aI j.1)],O⟩) (fun j=>t.to.length-j.1) ⟨0,by omega,hR⟩ ?_ ?_)
  ·refine zq rfl ?_ ?_;simp -dsimp only[simprocAttr,↓aa,zp,Bs.ak,Bs.av,Bs.al,aB,zc];rfl
  rintro⟨j,hj,gQ⟩;refine aS ?_;simp -dsimp only[simprocAttr,↓aa,zp,Bs.ak,Bs.av,Bs.al,aB];refine ah ?_;apply iz rfl<;>intro h
  ·refine cd ?_;have bg:j<t.to.length:=by simpa using h
   obtain⟨e,uL⟩:∃e,t.to[j]?=some e:=⟨t.to[j],by simp[bg]⟩
   rw[va uL]at gQ;refine aJ (ai ?_);refine aS ?_;simp -dsimp only[simprocAttr,↓aa,zp,Bs.ak,Bs.av,Bs.al,aB,uL];refine ah ?_;refine aY 6 ([aI e.block,aK e.args]) [(1,.fn (.func id) [] zI),(4,.v (.bool false)),(6,.ip none [aI e.block,aK e.args]),(25,aH t.to),(26,aI t.to.length),(27,aI j)] rfl (by rfl) (by omega) (by simp[bF,bh,Go.Av.look]) ?_ ?_ ?_
   ·exact bG
   ·simp[ae.upto,aw,az,Edge.ag,uJ]
   refine aS ?_;simp -dsimp only[simprocAttr,↓aa,zp,Bs.ak,Bs.av,Bs.al,aB];refine ah ?_;refine gg 32 rfl (fun lK=>?_);simp only[List.length_map]at lK;refine ai (aO (ι:={z:Nat // z<=e.args.length∧R=((e.args.drop z).all p&&(t.to.drop (j+1)).all fun e=>e.args.all p)}) (fun z=>⟨44,[(1,.fn (.func id) [] zI),(4,.v (.bool false)),(25,aH t.to),(26,aI t.to.length),(27,aI j),(32,aK e.args),(33,aI e.args.length),(34,aI z.1)],O⟩) (fun z=>e.args.length-z.1) ⟨0,by omega,gQ⟩ ?_ ?_)
   ·refine zq rfl ?_ ?_;simp -dsimp only[simprocAttr,↓aa,zp,Bs.ak,Bs.av,Bs.al,aB,zc];rfl
   rintro⟨z,hz,mr⟩;refine aS ?_;simp -dsimp only[simprocAttr,↓aa,zp,Bs.ak,Bs.av,Bs.al,aB];refine ah ?_;apply iz rfl<;>intro h
   ·refine cd ?_;have OJ:z<e.args.length:=by simpa using h
    obtain⟨v,hv⟩:∃v,e.args[z]?=some v:=⟨e.args[z],by simp[OJ]⟩
    rw[va hv]at mr;have hpv:=hp v;refine aJ (ai ?_);refine aS ?_;simp -dsimp only[simprocAttr,↓aa,zp,Bs.ak,Bs.av,Bs.al,aB,hv];refine ah ?_;refine aS ?_;simp -dsimp only[simprocAttr,↓aa,zp,Bs.ak,Bs.av,Bs.al,aB];refine .inr (.inr ⟨_,hpv,ao ?_⟩);simp -dsimp only[simprocAttr,↓aa,zp,Bs.ak,Bs.av,Bs.al,aB];refine ah ?_;cases Gp:p v with
    | true =>
     rw[Gp,Bool.true_and]at mr;refine cr rfl ?_;refine la ?_;refine kC ?_;simp -dsimp only[simprocAttr,↓aa,zp,Bs.ak,Bs.av,Bs.al,aB]
     repeat(refine⟨by omega,?_⟩)
     refine fK ?_;refine⟨⟨z+1,OJ,mr⟩,by simp;omega,?_⟩;refine zq rfl ?_ ?_;simp -dsimp only[simprocAttr,↓aa,zp,Bs.ak,Bs.av,Bs.al,aB,zc]
     ·exact Sub.int (by simp)
     rfl
    | false =>
     rw[Gp]at mr;refine cH rfl ?_;refine aS ?_;simp -dsimp only[simprocAttr,↓aa,zp,Bs.ak,Bs.av,Bs.al,aB];refine ah ?_;refine aq ?_;simp -dsimp only[simprocAttr,↓aa,zp,Bs.ak,Bs.av,Bs.al,aB,zr,Tryz.results91];exact⟨bG,by rw[mr];rfl⟩
   refine aM ?_;simp -dsimp only[bS,ne_eq,Nat.reduceEqDiff,reduceCtorEq];have H3:z=e.args.length:=by simp at h;omega
   subst H3;rw[List.drop_length]at mr;refine kC ?_;simp -dsimp only[simprocAttr,↓aa,zp,Bs.ak,Bs.av,Bs.al,aB]
   repeat(refine⟨by omega,?_⟩)
   refine fK ?_;refine⟨⟨j+1,bg,by simpa using mr⟩,by simp;omega,?_⟩;refine zq rfl ?_ ?_;simp -dsimp only[simprocAttr,↓aa,zp,Bs.ak,Bs.av,Bs.al,aB,zc]
   ·exact Sub.int (by simp)
   rfl
  refine aM ?_;simp -dsimp only[bS,ne_eq,Nat.reduceEqDiff,reduceCtorEq];have rK:j=t.to.length:=by simp at h;omega
  subst rK;rw[List.drop_length]at gQ;refine aS ?_;simp -dsimp only[simprocAttr,↓aa,zp,Bs.ak,Bs.av,Bs.al,aB];refine ah ?_;refine aq ?_;simp -dsimp only[simprocAttr,↓aa,zp,Bs.ak,Bs.av,Bs.al,aB,zr,Tryz.results91];exact⟨bG,by rw[gQ];rfl⟩
def j9(ds:Defs)(over:List Bs)(seen:Bs)(k:Nat):Nat->List Ins->Bool
 | _,[]=>true
 | n,i::r=>i.args.all (jC ds over seen k n)&&j9 ds over seen k (n+1) r
def lR(ds:Defs)(over:List Bs)(seen:Bs)(k:Nat)(b:Block):Bool:=j9 ds over seen k 0 b.ins&&ph b.term (jC ds over seen k b.ins.length)
def iI(ds:Defs)(over:List Bs)(seen:Bs):Nat->List Block->Bool
 | _,[]=>true
 | k,b::r=>lR ds over seen k b&&iI ds over seen (k+1) r
def sj(f:Func)(ds:Defs):Int:=if iI ds (lJ f).1 (lJ f).2 0 f.blocks then 0 else 6
theorem NU(f:Func)(h0:f.blocks≠[])(h1:f.blocks.length<=128)(he:∀b∈f.blocks,∀e∈b.term.to,0<=e.block∧e.block.toNat<f.blocks.length):(lJ f).1.length=f.blocks.length∧(∀s∈(lJ f).1,s.fit)∧(lJ f).2.fit:=by
 have key:∀(n:Nat) (S:Ds),lI f.blocks.length S->lI f.blocks.length (jz f n S):=fun n=>by
  induction n with
  | zero=>exact fun S h=>h
  | succ n ih =>
   intro S h;simp only[jz];split
   ·exact ih _ (rB f.blocks (k:=0) (S:=⟨S.over,S.seen,false⟩) ⟨h.few,h.len,h.fit,h.seen,h.self⟩ he).1
   exact h
 have h:=key 20000 _ (zQ h0 h1);exact⟨h.len,h.fit,h.seen⟩
theorem I1(f:Func)(ds:Defs)(h0:f.blocks≠[])(h1:f.blocks.length<=128)(he:∀b∈f.blocks,∀e∈b.term.to,0<=e.block∧e.block.toNat<f.blocks.length)(uK:DG f.blocks.length ds) :
  bD Tryz.prog 59 [.ip none [aI f.name,ay f.blocks,.im (.int .i64) (ds.map fI)]] (aI (sj f ds)):=by
 have U4:=um f h0 h1 he;obtain⟨d1,d2,d3⟩:=NU f h0 h1 he;obtain⟨R,hR⟩:∃R,R=sj f ds:=⟨_,rfl⟩
 rw[<-hR];unfold sj at hR;generalize lJ f=D at *;obtain⟨over,seen⟩:=D;simp only at U4 d1 d2 d3 hR;have KD:=fP 6 ds;have Ow:=fP 3 ds;have aah:=fP 0 ds;have yG:∀(k:Nat) (at_:Int) (v:Int),k<f.blocks.length->bd Tryz.prog 89 [.gone,.gone,.gone,.gone,.gone,.cells [aI at_]] (aI v::JF f ds over seen k 5) (fun r O'=>r=.v (.bool (jC ds over seen k at_ v))∧O'=[.gone,.gone,.gone,.gone,.gone,.cells [aI at_]]):=fun k at_ v hk=>by
  refine HD (O:=[.gone,.gone,.gone,.gone,.gone,.cells [aI at_]]) ?_ rfl (by omega) (by omega) d2 d3 (by rw[d1];exact uK) v;simp[aj.upto,aw,ae.upto]
 refine zf true 0 Tryz.func59 Tryz.ntmps59 ?_;dsimp only[Tmp,TypeId,slotsOf];refine aS ?_;simp -dsimp only[simprocAttr,↓aa,zp,Bs.ak,Bs.av,Bs.al,aB];refine ah ?_;refine aD 1 0 (.ip none [.ip none [aI f.name,ay f.blocks,.im (.int .i64) (ds.map fI)]]) rfl (by simp[aj.aF]) trivial rfl ?_ ?_;rotate_left;simp -dsimp only[simprocAttr,↓aa,zp,Bs.ak,Bs.av,Bs.al,aB]
 ·refine aS ?_;simp -dsimp only[simprocAttr,↓aa,zp,Bs.ak,Bs.av,Bs.al,aB];refine .inl ⟨_,U4,by simp only[aw,ae.upto,zt,zu,az,Bs.aQ,Bs.al],ao ?_⟩;simp -dsimp only[simprocAttr,↓aa,zp,Bs.ak,Bs.av,Bs.al,aB];refine ah ?_;refine aD 3 1 (.ip none [.aC 2 (over.map Bs.enc) .sh]) rfl (by simp[aj.aF]) trivial rfl ?_ ?_;rotate_left;simp -dsimp only[simprocAttr,↓aa,zp,Bs.ak,Bs.av,Bs.al,aB]
  ·refine aD 4 2 (.ip none [.v (.int .u64 seen.a),.v (.int .u64 seen.b)]) rfl (by simp[aj.aF]) trivial rfl ?_ ?_;rotate_left;simp -dsimp only[simprocAttr,↓aa,zp,Bs.ak,Bs.av,Bs.al,aB]
   ·refine c9 ?_;simp -dsimp only[simprocAttr,↓aa,zp,Bs.ak,Bs.av,Bs.al,aB];refine ah ?_;refine ai (aO (ι:={k:Nat // k<=f.blocks.length∧R=if iI ds over seen k (f.blocks.drop k)then 0 else 6}) (fun k=>⟨64,[(1,.ip none [.ip none [aI f.name,ay f.blocks,.im (.int .i64) (ds.map fI)]]),(2,aI 0),(3,.ip none [.aC 2 (over.map Bs.enc) .sh]),(4,.ip none [.v (.int .u64 seen.a),.v (.int .u64 seen.b)]),(25,ay f.blocks),(26,aI f.blocks.length),(27,aI k.1)],[.gone,.gone,.gone]⟩) (fun k=>f.blocks.length-k.1) ⟨0,by omega,hR⟩ ?_ ?_)
    ·refine zq rfl ?_ ?_;simp -dsimp only[simprocAttr,↓aa,zp,Bs.ak,Bs.av,Bs.al,aB,zc];rfl
    rintro⟨k,hk,dw⟩;refine aS ?_;simp -dsimp only[simprocAttr,↓aa,zp,Bs.ak,Bs.av,Bs.al,aB];refine ah ?_;apply iz rfl<;>intro h
    ·refine cd ?_;have bg:k<f.blocks.length:=by simpa using h
     obtain⟨b,hb⟩:∃b,f.blocks[k]?=some b:=⟨f.blocks[k],by simp[bg]⟩
     rw[bP hb]at dw;simp only[iI,lR]at dw;refine aJ (ai ?_);refine aS ?_;simp -dsimp only[simprocAttr,↓aa,zp,Bs.ak,Bs.av,Bs.al,aB,hb];refine ah ?_;refine aD 5 3 (.ip none [aI k]) rfl (by simp[aj.aF]) trivial rfl ?_ ?_;rotate_left;simp -dsimp only[simprocAttr,↓aa,zp,Bs.ak,Bs.av,Bs.al,aB]
     ·refine aD 6 4 (.ip none [aK b.params,bf b.ins,aI b.term.kind,aI b.term.arg,aI b.term.n,aK b.term.cases,aH b.term.to]) rfl (by simp[aj.aF]) trivial rfl ?_ ?_;rotate_left;simp -dsimp only[simprocAttr,↓aa,zp,Bs.ak,Bs.av,Bs.al,aB]
      ·refine aS ?_;simp -dsimp only[simprocAttr,↓aa,zp,Bs.ak,Bs.av,Bs.al,aB];refine ah ?_;refine aS ?_;simp -dsimp only[simprocAttr,↓aa,zp,Bs.ak,Bs.av,Bs.al,aB];refine ah ?_;refine c9 ?_;simp -dsimp only[simprocAttr,↓aa,zp,Bs.ak,Bs.av,Bs.al,aB];refine ah ?_;refine gg 34 rfl (fun xK=>?_);simp only[List.length_map]at xK;refine ai (aO (ι:={x:Nat×Int // x.1<=b.ins.length∧R=if(j9 ds over seen k x.1 (b.ins.drop x.1)&&ph b.term (jC ds over seen k b.ins.length))&&iI ds over seen (k+1) (f.blocks.drop (k+1))then 0 else 6}) (fun x=>⟨64,[(1,.ip none [.ip none [aI f.name,ay f.blocks,.im (.int .i64) (ds.map fI)]]),(2,aI 0),(3,.ip none [.aC 2 (over.map Bs.enc) .sh]),(4,.ip none [.v (.int .u64 seen.a),.v (.int .u64 seen.b)]),(25,ay f.blocks),(26,aI f.blocks.length),(27,aI k),(6,.ip none [aK b.params,bf b.ins,aI b.term.kind,aI b.term.arg,aI b.term.n,aK b.term.cases,aH b.term.to]),(7,.mp 5 0),(8,.fn (.func 89) [] [.ip none [.ip none [aI f.name,ay f.blocks,.im (.int .i64) (ds.map fI)]],.ip none [aI k],.mp 5 0,.ip none [.aC 2 (over.map Bs.enc) .sh],.ip none [.v (.int .u64 seen.a),.v (.int .u64 seen.b)]]),(34,bf b.ins),(35,aI b.ins.length),(36,aI x.1.1)],[.gone,.gone,.gone,.gone,.gone,.cells [aI x.1.2]]⟩) (fun x=>b.ins.length-x.1.1) ⟨(0,0),by simp,dw⟩ ?_ ?_)
       ·refine zq rfl ?_ ?_;simp -dsimp only[simprocAttr,↓aa,zp,Bs.ak,Bs.av,Bs.al,aB,zc];rfl
       rintro⟨⟨j,z⟩,hj,gQ⟩;simp only at hj gQ;refine aS ?_;simp -dsimp only[simprocAttr,↓aa,zp,Bs.ak,Bs.av,Bs.al,aB];refine ah ?_;apply iz rfl<;>intro h
       ·refine cd ?_;have xk:j<b.ins.length:=by simpa using h
        obtain⟨i,hi⟩:∃i,b.ins[j]?=some i:=⟨b.ins[j],by simp[xk]⟩
        rw[bP hi]at gQ;simp only[j9]at gQ;refine aJ (ai ?_);refine aS ?_;simp -dsimp only[simprocAttr,↓aa,zp,Bs.ak,Bs.av,Bs.al,aB,hi];refine ah ?_;refine aD 10 6 (.ip none [aI i.to,aI i.op,aI i.n,aK i.args]) rfl (by simp[aj.aF]) trivial rfl ?_ ?_;rotate_left;simp -dsimp only[simprocAttr,↓aa,zp,Bs.ak,Bs.av,Bs.al,aB]
        ·refine bt 6 [(1,.ip none [.ip none [aI f.name,ay f.blocks,.im (.int .i64) (ds.map fI)]]),(2,aI 0),(3,.ip none [.aC 2 (over.map Bs.enc) .sh]),(4,.ip none [.v (.int .u64 seen.a),.v (.int .u64 seen.b)]),(25,ay f.blocks),(26,aI f.blocks.length),(27,aI k),(6,.ip none [aK b.params,bf b.ins,aI b.term.kind,aI b.term.arg,aI b.term.n,aK b.term.cases,aH b.term.to]),(7,.mp 5 0),(8,.fn (.func 89) [] [.ip none [.ip none [aI f.name,ay f.blocks,.im (.int .i64) (ds.map fI)]],.ip none [aI k],.mp 5 0,.ip none [.aC 2 (over.map Bs.enc) .sh],.ip none [.v (.int .u64 seen.a),.v (.int .u64 seen.b)]]),(34,bf b.ins),(35,aI b.ins.length),(36,aI j),(9,aI j),(10,.ip none [aI i.to,aI i.op,aI i.n,aK i.args])] (by simp) (by omega) [.gone,.gone,.gone,.gone,.gone,.cells [aI z]] ?_ ?_ ?_ ?_ ?_
         ·rfl
         ·simp[aj.upto,aw,ae.upto,az,Block.ag,Edge.ag,Ins.ag,iC,KD,Ow]
         ·simp[fj,St.get,bF,bh,Go.Av.look,Sub.refl]
         ·simp[aj.upto,aw,ae.upto,az,Block.ag,Edge.ag,Ins.ag,iC,KD,Ow]
         refine aS ?_;simp -dsimp only[simprocAttr,↓aa,zp,Bs.ak,Bs.av,Bs.al,aB];refine ah ?_;refine aS ?_;simp -dsimp only[simprocAttr,↓aa,zp,Bs.ak,Bs.av,Bs.al,aB];refine ah ?_;refine gg 43 rfl (fun lK=>?_);simp only[List.length_map]at lK;refine ai (aO (ι:={y:Nat // y<=i.args.length∧R=if(((i.args.drop y).all (jC ds over seen k j)&&j9 ds over seen k (j+1) (b.ins.drop (j+1)))&&ph b.term (jC ds over seen k b.ins.length))&&iI ds over seen (k+1) (f.blocks.drop (k+1))then 0 else 6}) (fun y=>⟨64,[(1,.ip none [.ip none [aI f.name,ay f.blocks,.im (.int .i64) (ds.map fI)]]),(2,aI 0),(3,.ip none [.aC 2 (over.map Bs.enc) .sh]),(4,.ip none [.v (.int .u64 seen.a),.v (.int .u64 seen.b)]),(25,ay f.blocks),(26,aI f.blocks.length),(27,aI k),(6,.ip none [aK b.params,bf b.ins,aI b.term.kind,aI b.term.arg,aI b.term.n,aK b.term.cases,aH b.term.to]),(7,.mp 5 0),(8,.fn (.func 89) [] [.ip none [.ip none [aI f.name,ay f.blocks,.im (.int .i64) (ds.map fI)]],.ip none [aI k],.mp 5 0,.ip none [.aC 2 (over.map Bs.enc) .sh],.ip none [.v (.int .u64 seen.a),.v (.int .u64 seen.b)]]),(34,bf b.ins),(35,aI b.ins.length),(36,aI j),(43,aK i.args),(44,aI i.args.length),(45,aI y.1)],[.gone,.gone,.gone,.gone,.gone,.cells [aI j]]⟩) (fun y=>i.args.length-y.1) ⟨0,by omega,gQ⟩ ?_ ?_)
         ·refine zq rfl ?_ ?_;simp -dsimp only[simprocAttr,↓aa,zp,Bs.ak,Bs.av,Bs.al,aB,zc];rfl
         rintro⟨y,hy,SS⟩;refine aS ?_;simp -dsimp only[simprocAttr,↓aa,zp,Bs.ak,Bs.av,Bs.al,aB];refine ah ?_;apply iz rfl<;>intro h
         ·refine cd ?_;have Vw:y<i.args.length:=by simpa using h
          obtain⟨v,hv⟩:∃v,i.args[y]?=some v:=⟨i.args[y],by simp[Vw]⟩
          rw[va hv]at SS;have Sk:=yG k j v bg;refine aJ (ai ?_);refine aS ?_;simp -dsimp only[simprocAttr,↓aa,zp,Bs.ak,Bs.av,Bs.al,aB,hv];refine ah ?_;refine aS ?_;simp -dsimp only[simprocAttr,↓aa,zp,Bs.ak,Bs.av,Bs.al,aB];refine .inr (.inr ⟨_,Sk,ao ?_⟩);simp -dsimp only[simprocAttr,↓aa,zp,Bs.ak,Bs.av,Bs.al,aB];refine ah ?_;cases Gp:jC ds over seen k j v with
          | true =>
           rw[Gp,Bool.true_and]at SS;refine cr rfl ?_;refine la ?_;refine kC ?_;simp -dsimp only[simprocAttr,↓aa,zp,Bs.ak,Bs.av,Bs.al,aB]
           repeat(refine⟨by omega,?_⟩)
           refine fK ?_;refine⟨⟨y+1,Vw,SS⟩,by simp;omega,?_⟩;refine zq rfl ?_ ?_;simp -dsimp only[simprocAttr,↓aa,zp,Bs.ak,Bs.av,Bs.al,aB,zc]
           ·exact Sub.int (by simp)
           rfl
          | false =>
           rw[Gp]at SS;refine cH rfl ?_;refine aS ?_;simp -dsimp only[simprocAttr,↓aa,zp,Bs.ak,Bs.av,Bs.al,aB];refine ah ?_;refine aq ?_;simp -dsimp only[simprocAttr,↓aa,zp,Bs.ak,Bs.av,Bs.al,aB,zr,Tryz.results59];rw[SS];simp
         refine aM ?_;simp -dsimp only[bS,ne_eq,Nat.reduceEqDiff,reduceCtorEq];have Y0:y=i.args.length:=by simp at h;omega
         subst Y0;rw[List.drop_length]at SS;refine kC ?_;simp -dsimp only[simprocAttr,↓aa,zp,Bs.ak,Bs.av,Bs.al,aB]
         repeat(refine⟨by omega,?_⟩)
         refine fK ?_;refine⟨⟨(j+1,j),xk,by simpa using SS⟩,by simp;omega,?_⟩;refine zq rfl ?_ ?_;simp -dsimp only[simprocAttr,↓aa,zp,Bs.ak,Bs.av,Bs.al,aB,zc]
         ·exact Sub.int (by simp)
         rfl
        exact bQ.mp rfl rfl
       refine aM ?_;simp -dsimp only[bS,ne_eq,Nat.reduceEqDiff,reduceCtorEq];have rK:j=b.ins.length:=by simp at h;omega
       subst rK;rw[List.drop_length]at gQ;simp only[j9,Bool.true_and]at gQ;have W9:=I0 (O:=[.gone,.gone,.gone,.gone,.gone,.cells [aI b.ins.length]]) (by simp[aj.upto,aw,ae.upto]) 89 (JF f ds over seen k 5) (by simp[aj.upto,aw,ae.upto,az,Block.ag,iC,KD]) (jC ds over seen k b.ins.length) (fun v=>yG k b.ins.length v bg) b.term;refine aS ?_;simp -dsimp only[simprocAttr,↓aa,zp,Bs.ak,Bs.av,Bs.al,aB];refine ah ?_;refine aS ?_;simp -dsimp only[simprocAttr,↓aa,zp,Bs.ak,Bs.av,Bs.al,aB];refine .inr (.inr ⟨_,W9,ao ?_⟩);simp -dsimp only[simprocAttr,↓aa,zp,Bs.ak,Bs.av,Bs.al,aB];refine ah ?_;cases Gp:ph b.term (jC ds over seen k b.ins.length)with
       | true =>
        rw[Gp,Bool.true_and]at gQ;refine cr rfl ?_;refine la ?_;refine bt 3 [(1,.ip none [.ip none [aI f.name,ay f.blocks,.im (.int .i64) (ds.map fI)]]),(2,aI 0),(3,.ip none [.aC 2 (over.map Bs.enc) .sh]),(4,.ip none [.v (.int .u64 seen.a),.v (.int .u64 seen.b)]),(25,ay f.blocks),(26,aI f.blocks.length),(27,aI k)] (by simp) (by omega) [.gone,.gone,.gone] ?_ ?_ ?_ ?_ ?_
        ·rfl
        ·simp[aj.upto,aw,ae.upto,az,Block.ag,Edge.ag,Ins.ag,iC,KD,Ow]
        ·simp[fj,St.get,bF,bh,Go.Av.look,Sub.refl]
        ·simp[aj.upto,aw,ae.upto,az,Block.ag,Edge.ag,Ins.ag,iC,KD,Ow]
        refine kC ?_;simp -dsimp only[simprocAttr,↓aa,zp,Bs.ak,Bs.av,Bs.al,aB]
        repeat(refine⟨by omega,?_⟩)
        refine fK ?_;refine⟨⟨k+1,bg,gQ⟩,by simp;omega,?_⟩;refine zq rfl ?_ ?_;simp -dsimp only[simprocAttr,↓aa,zp,Bs.ak,Bs.av,Bs.al,aB,zc]
        ·exact Sub.int (by simp)
        rfl
       | false =>
        rw[Gp]at gQ;refine cH rfl ?_;refine aS ?_;simp -dsimp only[simprocAttr,↓aa,zp,Bs.ak,Bs.av,Bs.al,aB];refine ah ?_;refine aq ?_;simp -dsimp only[simprocAttr,↓aa,zp,Bs.ak,Bs.av,Bs.al,aB,zr,Tryz.results59];rw[gQ];simp
      exact bQ.mp rfl rfl
     exact bQ.mp rfl rfl
    refine aM ?_;simp -dsimp only[bS,ne_eq,Nat.reduceEqDiff,reduceCtorEq];have gl:k=f.blocks.length:=by simp at h;omega
    subst gl;rw[List.drop_length]at dw;refine aS ?_;simp -dsimp only[simprocAttr,↓aa,zp,Bs.ak,Bs.av,Bs.al,aB];refine ah ?_;refine aq ?_;simp -dsimp only[simprocAttr,↓aa,zp,Bs.ak,Bs.av,Bs.al,aB,zr,Tryz.results59];simp[dw,iI]
   exact bQ.mp rfl rfl
  exact bQ.mp rfl rfl
 exact bQ.mp rfl rfl
theorem Fe(ds:Defs)(k v:Int)(p:Int×Int):gb (ds++[(k,p)]) v=match gb ds v with|some q=>some q|none=>if k=v then some p else none:=by
 induction ds with
 | nil=>rfl
 | cons e r ih =>
  obtain⟨a,q⟩:=e;simp only[List.cons_append,gb];split
  ·rfl
  exact ih
structure lb(n:Nat)(ds:Defs):Prop where
 ok:DG n ds
 nodup:(ds.map (·.1)).Nodup
 range:∀e∈ds,0<=e.1∧e.1<=4095
theorem Fc{ds:Defs}{v:Int}(h:gb ds v=none):∀e∈ds,e.1≠v:=by
 induction ds with
 | nil=>simp
 | cons e r ih =>
  obtain⟨a,q⟩:=e;simp only[gb]at h;split at h
  ·cases h
  rename_i ct;intro e he;rcases List.mem_cons.1 he with q|q
  ·subst q;exact ct
  exact ih h e q
theorem oY:∀(n:Nat) (l:List Nat),l.Nodup->(∀x∈l,x<n)->l.length<=n
 | 0,l,_,h=>by
  cases l with
  | nil=>simp
  | cons a r=>exact absurd (h a (by simp)) (by omega)
 | n+1,l,hn,h=>by
  by_cases hm:n∈l
  ·have:=oY n (l.erase n) (hn.erase n) (fun x hx=>by
    have h1:=(List.Nodup.mem_erase_iff hn).1 hx;have h2:=h x h1.2;have h3:=h1.1;omega)
   rw[List.length_erase_of_mem hm]at this;omega
  have:=oY n l hn (fun x hx=>by
   have h2:=h x hx;have:x≠n:=fun e=>hm (e ▸ hx);omega)
  omega
theorem lb.few{n:Nat}{ds:Defs}(h:lb n ds):ds.length<=4096:=by
 have h1:(ds.map fun e=>e.1.toNat).Nodup:=by
  have h0:=h.nodup;have hr:=h.range;clear h;induction ds with
  | nil=>simp
  | cons e r ih =>
   simp only[List.map_cons,List.nodup_cons,List.mem_map,not_exists,not_and]at h0 ⊢;refine⟨fun x hx q=>h0.1 x hx ?_,ih h0.2 (fun e he=>hr e (by simp[he]))⟩;have a:=hr e (by simp);have b:=hr x (by simp[hx]);omega
 have:=oY 4096 _ h1 (fun x hx=>by
  obtain⟨e,he,rfl⟩:=List.mem_map.1 hx;have:=h.range e he;omega)
 simpa using this
theorem vH{n:Nat}{ds:Defs}(h:lb n ds)(v:Int){p:Int×Int}(h0:0<=p.1)(h1:p.1.toNat<n):lb n (dq ds v p).2∧((dq ds v p).1=0->(dq ds v p).2.length=ds.length+1):=by
 unfold dq;split
 ·exact⟨h,fun q=>by simp at q⟩
 rename_i hw;split
 ·exact⟨h,fun q=>by simp at q⟩
 rename_i hl;have Bh:gb ds v=none:=by simpa using hl
 have xR:0<=v∧v<=4095:=by simpa[within]using hw
 refine⟨⟨fun w q hq=>?_,?_,fun e he=>?_⟩,fun _=>by simp⟩
 ·rw[Fe]at hq;cases hd:gb ds w with
  | some q' =>
   rw[hd]at hq;simp only[Option.some.injEq]at hq;exact hq ▸ h.ok w q' hd
  | none =>
   rw[hd]at hq;simp only at hq;split at hq
   ·simp only[Option.some.injEq]at hq;exact hq ▸ ⟨h0,h1⟩
   cases hq
 ·rw[List.map_append,List.map_cons,List.map_nil,List.nodup_append];refine⟨h.nodup,by simp,fun a ha b hb=>?_⟩;obtain⟨e,he,rfl⟩:=List.mem_map.1 ha;simp only[List.mem_singleton]at hb;subst hb;exact Fc Bh e he
 rcases List.mem_append.1 he with q|q
 ·exact h.range e q
 simp only[List.mem_singleton]at q;subst q;exact xR
theorem wI{n:Nat}{k:Int}(h0:0<=k)(h1:k.toNat<n):∀(l:List Int) (ds:Defs),lb n ds->lb n (dJ k ds l).2∧((dJ k ds l).1=0->(dJ k ds l).2.length=ds.length+l.length)
 | [],ds,h=>⟨h,fun _=>by simp[dJ]⟩
 | p::r,ds,h=>by
  have hd:=vH h p (p:=(k,0)) h0 h1;simp only[dJ];split
  ·rename_i ct;exact⟨hd.1,fun q=>absurd q ct⟩
  rename_i he;have ih:=wI h0 h1 r _ hd.1;refine⟨ih.1,fun q=>?_⟩;rw[ih.2 q,hd.2 (by simpa using he)];simp only[List.length_cons];omega
theorem GN{n:Nat}{k:Int}(h0:0<=k)(h1:k.toNat<n):∀(l:List Ins) (j:Int) (ds:Defs),lb n ds->lb n (nt k j ds l).2∧((nt k j ds l).1=0->(nt k j ds l).2.length=ds.length+l.length∧∀i∈l,kN i=0)
 | [],j,ds,h=>⟨h,fun _=>by simp[nt]⟩
 | i::r,j,ds,h=>by
  have hd:=vH h i.to (p:=(k,j+1)) h0 h1;simp only[nt];split
  ·rename_i ct;exact⟨hd.1,fun q=>absurd q ct⟩
  rename_i he;split
  ·rename_i hf;exact⟨hd.1,fun q=>absurd q hf⟩
  rename_i hf;have ih:=GN h0 h1 r (j+1) _ hd.1;refine⟨ih.1,fun q=>?_⟩;obtain⟨a,b⟩:=ih.2 q;refine⟨?_,fun x hx=>?_⟩
  ·rw[a,hd.2 (by simpa using he)];simp only[List.length_cons];omega
  rcases List.mem_cons.1 hx with e|e
  ·subst e;simpa using hf
  exact b x e
structure Nu(f:Func)(b:Block):Prop where
 Gm:∀i∈b.ins,kN i=0
 fin:kE f b.term=0
 few:b.params.length+b.ins.length<=4096
theorem Hi{f:Func}{ds:Defs}{k:Int}(h:lb f.blocks.length ds)(h0:0<=k)(h1:k.toNat<f.blocks.length):lb f.blocks.length (gh f ds k).2∧((gh f ds k).1=0->Nu f (ax f k)):=by
 have hp:=wI h0 h1 (ax f k).params ds h;have hi:=GN h0 h1 (ax f k).ins 0 _ hp.1;unfold gh;split
 ·rename_i ct;exact⟨hp.1,fun q=>absurd q ct⟩
 rename_i K1;split
 ·rename_i ct;exact⟨hi.1,fun q=>absurd q ct⟩
 rename_i hie;refine⟨hi.1,fun q=>?_⟩;have a:=hp.2 (by simpa using K1);have b:=hi.2 (by simpa using hie);have c:=hi.1.few;exact⟨b.2,q,by rw[b.1,a]at c;omega⟩
theorem kS{f:Func}{t:Term}(h:kE f t=0):ef t=true∧t.cases.length<=256∧(t.kind=4->1<=t.n∧t.n<=6)∧∀e∈t.to,(1<=e.block∧e.block<=(f.blocks.length:Int)-1)∧e.args.length=(ax f e.block).params.length:=by
 unfold kE at h;split at h
 ·simp at h
 rename_i hs;split at h
 ·simp at h
 rename_i hc;split at h
 ·simp at h
 rename_i hk;split at h
 ·rename_i ct;exact absurd h ct
 refine⟨by simpa using hs,by omega,fun k4=>?_,?_⟩
 ·by_cases hw:within t.n 1 6=false
  ·exact absurd ⟨k4,hw⟩ hk
  simpa[within]using hw
 generalize t.to=l at h;induction l with
 | nil=>simp
 | cons e r ih =>
  simp only[oC]at h;split at h
  ·simp at h
  rename_i h1;split at h
  ·simp at h
  rename_i h2;intro x hx;rcases List.mem_cons.1 hx with q|q
  ·subst q;exact⟨by simpa[within]using h1,by simpa using h2⟩
  exact ih h x q
def mS:Int->List Block->Int
 | m,[]=>m
 | m,b::r=>mS (IntKind.i64.wrap (m+b.ins.length)) r
def c5(f:Func):Nat->Int->Defs->Int×Defs
 | 0,_,ds=>(0,ds)
 | n+1,k,ds=>if(gh f ds k).1≠0 then gh f ds k else c5 f n (k+1) (gh f ds k).2
def aZ(f:Func):Int :=
 if f.blocks.length=0 then 3
 else if 128<f.blocks.length∨1024<mS 0 f.blocks∨6<(ax f 0).params.length then 2
 else if within f.name (-1) 1048575=false then 4
 else if(c5 f f.blocks.length 0 []).1≠0 then(c5 f f.blocks.length 0 []).1
 else sj f (c5 f f.blocks.length 0 []).2
theorem m7{f:Func}:∀(n:Nat) (k:Int) (ds:Defs),lb f.blocks.length ds->0<=k->k.toNat+n<=f.blocks.length->(c5 f n k ds).1=0->lb f.blocks.length (c5 f n k ds).2∧∀j:Nat,j<n->Nu f (ax f (k+j))
 | 0,k,ds,h,_,_,_=>⟨h,fun j hj=>absurd hj (by omega)⟩
 | n+1,k,ds,h,h0,h1,he=>by
  have hb:=Hi (k:=k) h h0 (by omega);simp only[c5]at he ⊢;split at he
  ·rename_i ct;exact absurd he ct
  rename_i ct;rw[if_neg ct];have ih:=m7 n (k+1) _ hb.1 (by omega) (by omega) he;refine⟨ih.1,fun j hj=>?_⟩;cases j with
  | zero=>simpa using hb.2 (by simpa using ct)
  | succ j =>
   have:=ih.2 j (by omega)
   rwa [show k+((j+1:Nat):Int)=k+1+(j:Int) by omega]
theorem lb.nil(n:Nat):lb n []:=⟨fun v p h=>(by cases h),by simp,by simp⟩
theorem Ic{f:Func}{b:Block}(h:b∈f.blocks):∃j:Nat,j<f.blocks.length∧b=ax f (j:Int):=by
 obtain⟨j,hj,rfl⟩:=List.getElem_of_mem h;exact⟨j,hj,by simp[ax,hj]⟩
theorem tw{f:Func}(he:(c5 f f.blocks.length 0 []).1=0):∀b∈f.blocks,Nu f b:=fun b hb=>by
 obtain⟨j,hj,rfl⟩:=Ic hb;have:=(m7 f.blocks.length 0 [] (.nil _) (by omega) (by simp) he).2 j hj;simpa using this
theorem jk(f:Func)(a8:f.fit):bD Tryz.prog 31 [f.enc] (aI (aZ f)):=by
 have hw:=dU f.name (-1) 1048575;have uv:f.blocks.length<=2 ^ 47:=a8.2.1;obtain⟨R,hR⟩:∃R,R=aZ f:=⟨_,rfl⟩
 rw[<-hR];unfold aZ at hR;refine zf true 0 Tryz.func31 Tryz.ntmps31 ?_;dsimp only[Tmp,TypeId,slotsOf];refine aA (ah ?_);refine aD 1 0 (.ip none [aI f.name,ay f.blocks]) rfl (by simp[aj.aF]) trivial rfl ?_ ?_;rotate_left;simp -dsimp only[simprocAttr,↓aa,zp]
 ·refine aA (ah ?_);refine bX (ah ?_);refine ai (aO (ι:={x:Nat×Int // x.1<=f.blocks.length∧mS 0 f.blocks=mS x.2 (f.blocks.drop x.1)}) (fun x=>⟨69,[(1,.ip none [aI f.name,ay f.blocks]),(2,aI 0),(3,aI x.1.2),(10,ay f.blocks),(11,aI f.blocks.length),(12,aI x.1.1)],[.gone]⟩) (fun x=>f.blocks.length-x.1.1) ⟨(0,0),by simp,rfl⟩ ?_ ?_)
  ·refine zq rfl ?_ ?_;simp -dsimp only[simprocAttr,↓aa,zp,zc];rfl
  rintro⟨⟨k,m⟩,hk,dw⟩;simp only at hk dw;refine aA (ah ?_);apply iz rfl<;>intro h
  ·refine cd ?_;have bg:k<f.blocks.length:=by simpa using h
   obtain⟨b,hb⟩:∃b,f.blocks[k]?=some b:=⟨f.blocks[k],by simp[bg]⟩
   rw[bP hb]at dw;simp only[mS]at dw;refine aJ (ai ?_);refine aS ?_;simp -dsimp only[simprocAttr,↓aa,zp,hb];refine ah ?_;refine aD 5 1 (.ip none [aK b.params,bf b.ins,aI b.term.kind,aI b.term.arg,aI b.term.n,aK b.term.cases,aH b.term.to]) rfl (by simp[aj.aF]) trivial rfl ?_ ?_;rotate_left;simp -dsimp only[simprocAttr,↓aa,zp]
   ·refine m6 ⟨false,false⟩ hT 4 rfl rfl rfl (by simp) ?_;simp -dsimp only[simprocAttr,↓aa,zp];refine sY rfl rfl (by simp) rfl rfl ?_;simp -dsimp only[simprocAttr,↓aa,zp];refine ah ?_;refine bt 1 [(1,.ip none [aI f.name,ay f.blocks]),(2,aI 0),(3,aI (IntKind.i64.wrap (m+b.ins.length))),(10,ay f.blocks),(11,aI f.blocks.length),(12,aI k)] (by simp) (by omega) [.gone] ?_ ?_ ?_ ?_ ?_
    ·rfl
    ·simp[aj.upto,aw,ae.upto,az,Block.ag]
    ·simp[fj,St.get,bF,bh,Go.Av.look,Sub.refl]
    ·simp[aj.upto,aw,ae.upto,az,Block.ag]
    refine cT ?_
    repeat(refine⟨by omega,?_⟩)
    refine fK ?_;refine⟨⟨(k+1,IntKind.i64.wrap (m+b.ins.length)),by simp only;omega,dw⟩,by simp;omega,?_⟩;refine zq rfl ?_ ?_;simp -dsimp only[simprocAttr,↓aa,zp,zc]
    ·exact Sub.int (by simp)
    rfl
   exact bQ.mp rfl rfl
  refine aM ?_;simp -dsimp only[bS,ne_eq,Nat.reduceEqDiff,reduceCtorEq];have gl:k=f.blocks.length:=by simp at h;omega
  subst gl;rw[List.drop_length]at dw;simp only[mS]at dw;rw[dw]at hR;refine aJ (ai ?_);refine aA (ah ?_);apply aP rfl<;>intro h
  ·have hl:f.blocks.length=0:=by simpa using h
   rw[if_pos hl]at hR;refine aA (ah ?_);refine aq ?_;simp -dsimp only[simprocAttr,↓aa,zp,zr,Tryz.results31];rw[hR]
  have hl:¬f.blocks.length=0:=by simpa using h
  rw[if_neg hl]at hR;have hB:f.blocks[0]?=some (ax f 0):=ep (f:=f) (k:=0) (by omega) (by omega);generalize ax f 0=B at *;refine gI (⟨69,[(1,.ip none [aI f.name,ay f.blocks]),(2,aI 0),(27,.v (.bool (decide ((128:Int)<f.blocks.length) ||decide ((1024:Int)<m) ||decide ((6:Int)<B.params.length))))],[.gone]⟩) ?_ ?_
  ·cases hA:decide ((128:Int)<f.blocks.length)<;>cases UC:decide ((1024:Int)<m)<;>cases hC:decide ((6:Int)<B.params.length)
   all_goals
    refine fb hT hm ?_;simp -dsimp only[simprocAttr,↓aa,zp,hA,UC,hC,hB];refine ba ?_;show bc _ _;refine zq rfl ?_ ?_;simp -dsimp only[simprocAttr,↓aa,zp,zc]
    ·exact Sub.refl _
    rfl
  by_cases xI:128<f.blocks.length∨1024<m∨6<B.params.length
  ·rw[if_pos xI]at hR;have hd:(decide ((128:Int)<f.blocks.length) ||decide ((1024:Int)<m) ||decide ((6:Int)<B.params.length))=true:=by
    simp only[Bool.or_eq_true,decide_eq_true_eq];omega
   rw[hd];refine cH rfl ?_;refine aA (ah ?_);refine aq ?_;simp -dsimp only[simprocAttr,↓aa,zp,zr,Tryz.results31];rw[hR]
  rw[if_neg xI]at hR;have hd:(decide ((128:Int)<f.blocks.length) ||decide ((1024:Int)<m) ||decide ((6:Int)<B.params.length))=false:=by
   simp only[Bool.or_eq_false_iff,decide_eq_false_iff_not];omega
  rw[hd];have Vd:f.blocks.length<=128:=by omega
  have ct:f.blocks≠[]:=fun e=>hl (by rw[e];rfl);cases hn:within f.name (-1) 1048575 with
  | false =>
   rw[if_pos hn]at hR;rw[hn]at hw;refine cr rfl ?_;refine aA ?_;refine .inl ⟨_,hw,by simp only[aw,ae.upto,zt,zu,az,fP],ao ?_⟩;simp -dsimp only[simprocAttr,↓aa,zp];refine ah ?_;refine cH rfl ?_;refine aA (ah ?_);refine aq ?_;simp -dsimp only[simprocAttr,↓aa,zp,zr,Tryz.results31];rw[hR]
  | true =>
   rw[if_neg (by simp[hn])]at hR;rw[hn]at hw;apply aP rfl<;>intro h
   ·cases h
   refine aA ?_;refine .inl ⟨_,hw,by simp only[aw,ae.upto,zt,zu,az,fP],ao ?_⟩;simp -dsimp only[simprocAttr,↓aa,zp];refine ah ?_;apply aP rfl<;>intro h
   ·cases h
   refine la ?_;refine aA (ah ?_);refine bX (ah ?_);have vT:∀(ds:Defs) (k:Nat),k<f.blocks.length->bd Tryz.prog 58 [.gone,.map (.int .i64) (ds.map fI),.cells [aI f.name,ay f.blocks,.mm 1]] [.mp 2 0,aI k] (fun r O'=>r=aI (gh f ds k).1∧O'=[.gone,.map (.int .i64) ((gh f ds k).2.map fI),.cells [aI f.name,ay f.blocks,.mm 1]]):=fun ds k hk=>by
    have gK:(ax f k).term.cases.length<=2 ^ 60:=by
     have hb:=List.mem_of_getElem? (ep (f:=f) (k:=k) (by omega) (by omega));have:=(a8.2.2 _ hb).2.2.2.2.2.2.2.2.1;omega
    exact DY (O:=[.gone,.map (.int .i64) (ds.map fI),.cells [aI f.name,ay f.blocks,.mm 1]]) (c:=2) (d:=1) (by simp[aj.upto,aw,ae.upto,Block.ag,fP]) (by omega) rfl rfl k (by omega) (by omega) (by omega) gK
   refine ai (aO (ι:={x:Nat×Defs // x.1<=f.blocks.length∧c5 f f.blocks.length 0 []=c5 f (f.blocks.length-x.1) x.1 x.2}) (fun x=>⟨69,[(1,.ip none [aI f.name,ay f.blocks]),(2,aI 0),(6,.mp 2 0),(56,aI f.blocks.length),(57,aI x.1.1)],[.gone,.map (.int .i64) (x.1.2.map fI),.cells [aI f.name,ay f.blocks,.mm 1]]⟩) (fun x=>f.blocks.length-x.1.1) ⟨(0,[]),by simp,rfl⟩ ?_ ?_)
   ·refine zq rfl ?_ ?_;simp -dsimp only[simprocAttr,↓aa,zp,zc];rfl
   rintro⟨⟨k,ds⟩,hk,dw⟩;simp only at hk dw;refine aA (ah ?_);apply iz rfl<;>intro h
   ·refine cd ?_;have bg:k<f.blocks.length:=by simpa using h
    rw[show f.blocks.length-k=f.blocks.length-(k+1)+1 by omega]at dw;simp only[c5]at dw;have hb:=vT ds k bg;generalize gh f ds k=X at *;refine aJ (ai ?_);refine aA (ah ?_);refine aA ?_;refine .inr (.inl ⟨_,_,hb,.inl (ao (zj ?_))⟩);refine ah ?_;by_cases hX:X.1=0
    ·have KE:decide (X.1=0)=true:=decide_eq_true hX;rw[if_neg (by simp[hX])]at dw;refine aS ?_;simp -dsimp only[simprocAttr,↓aa,zp,KE];refine ah ?_;refine cr rfl ?_;refine la ?_;refine cT ?_
     repeat(refine⟨by omega,?_⟩)
     refine fK ?_;refine⟨⟨(k+1,X.2),by simp only;omega,dw⟩,by simp;omega,?_⟩;refine zq rfl ?_ ?_;simp -dsimp only[simprocAttr,↓aa,zp,zc]
     ·exact Sub.int (by simp)
     rfl
    have KE:decide (X.1=0)=false:=decide_eq_false hX;rw[if_pos hX]at dw;rw[dw,if_pos hX]at hR;refine aS ?_;simp -dsimp only[simprocAttr,↓aa,zp,KE];refine ah ?_;refine cH rfl ?_;refine aA (ah ?_);refine aq ?_;simp -dsimp only[simprocAttr,↓aa,zp,zr,Tryz.results31];rw[hR]
   refine aM ?_;simp -dsimp only[bS,ne_eq,Nat.reduceEqDiff,reduceCtorEq];have gl:k=f.blocks.length:=by simp at h;omega
   subst gl;rw[Nat.sub_self]at dw;simp only[c5]at dw;have Kz:(c5 f f.blocks.length 0 []).1=0:=by rw[dw]
   have cz:=tw Kz;have U6:=(m7 f.blocks.length 0 [] (.nil _) (by omega) (by simp) Kz).1;rw[dw]at U6;rw[dw,if_neg (by simp)]at hR;have W9:=I1 f ds ct Vd (fun b hb e he=>by
    have:=(kS (cz b hb).fin).2.2.2 e he;omega) U6.ok
   simp only at hR;rw[<-hR]at W9;refine iB 1 rfl (by simp[aj.aF]) trivial [(2,aI 0),(6,.mp 2 0)] ?_ 2 (by omega) _ [aI f.name,ay f.blocks,.im (.int .i64) (ds.map fI)] rfl rfl ?_ ?_ ?_
   ·intro s y hy;simp only[Go.Av.look]at hy;split at hy
    ·cases hy;rename_i e;subst e;exact⟨_,rfl,.refl _⟩
    split at hy
    ·cases hy;rename_i e;subst e;exact⟨_,rfl,.refl _⟩
    cases hy
   ·simp[ae.scalar]
   ·intro j c d hc hd
    match j,hc,hd with
    | 0,hc,hd =>
     cases hc;cases hd;exact .refl _
    | 1,hc,hd =>
     cases hc;cases hd;exact .refl _
    | 2,hc,hd =>
     cases hc;cases hd;exact .mm rfl
   show cc Tryz.prog _ _ _ ⟨_,_,[.gone,.gone,.cells [aI f.name,ay f.blocks,.im (.int .i64) (ds.map fI)]]⟩;refine aD 6 2 (.ip none [aI f.name,ay f.blocks,.im (.int .i64) (ds.map fI)]) rfl (by simp[aj.aF]) trivial rfl ?_ ?_;rotate_left;simp -dsimp only[simprocAttr,↓aa,zp]
   ·refine aA ?_;refine .inl ⟨_,W9,by simp only[aw,ae.upto,zt,zu,az,fP],ao ?_⟩;simp -dsimp only[simprocAttr,↓aa,zp];refine ah ?_;refine aq ?_;simp -dsimp only[simprocAttr,↓aa,zp,zr,Tryz.results31]
   exact bQ.mp rfl rfl
 exact bQ.mp rfl rfl
def jJ(u:bY)(i:Ins):Int :=
 if i.op≠13∧i.op≠9 then 0
 else if(u.fns.length:Int)<=i.n then 4
 else if(i.op=13∧(ax (aL u i.n) 0).params.length≠i.args.length)∨(i.op=9∧(ax (aL u i.n) 0).params.length=0)then 3
 else 0
theorem vr(u:bY)(i:Ins)(hn:i.op=13∨i.op=9->0<=i.n)(ct:∀f∈u.fns,f.blocks≠[]):bD Tryz.prog 32 [u.enc,i.enc] (aI (jJ u i)):=by
 obtain⟨R,hR⟩:∃R,R=jJ u i:=⟨_,rfl⟩
 rw[<-hR];unfold jJ at hR;rcases(show(i.op≠13∧i.op≠9)∨i.op=13∨i.op=9 by omega)with h|h|h
 ·rw[if_pos h]at hR;have h1:decide (i.op=13)=false:=decide_eq_false h.1;have h2:decide (i.op=9)=false:=decide_eq_false h.2;refine zf true 0 Tryz.func32 Tryz.ntmps32 ?_;dsimp only[Tmp,TypeId,slotsOf];refine aA (ah ?_);refine c9 ?_;simp -dsimp only[simprocAttr,↓aa,zp,h1,h2];refine ah ?_;refine cH rfl ?_;refine aA (ah ?_);refine aq ?_;simp -dsimp only[simprocAttr,↓aa,zp,zr,Tryz.results32];rw[hR]
 all_goals
  have hn:=hn (by omega);rw[if_neg (by omega)]at hR;by_cases hl:(u.fns.length:Int)<=i.n
  ·rw[if_pos hl]at hR;have h3:decide ((u.fns.length:Int)<=i.n)=true:=decide_eq_true hl;have Xt:(decide (i.op=13)=true∧decide (i.op=9)=false)∨(decide (i.op=13)=false∧decide (i.op=9)=true):=by
    simp only[decide_eq_true_eq,decide_eq_false_iff_not];omega
   rcases Xt with⟨h1,h2⟩|⟨h1,h2⟩
   all_goals
    refine zf true 0 Tryz.func32 Tryz.ntmps32 ?_;dsimp only[Tmp,TypeId,slotsOf];refine aA (ah ?_);refine c9 ?_;simp -dsimp only[simprocAttr,↓aa,zp,h1,h2];refine ah ?_;refine cr rfl ?_;refine cd ?_;refine c9 ?_;simp -dsimp only[simprocAttr,↓aa,zp,h3];refine ah ?_;refine cH rfl ?_;refine aA (ah ?_);refine aq ?_;simp -dsimp only[simprocAttr,↓aa,zp,zr,Tryz.results32];rw[hR]
  rw[if_neg hl]at hR;have h3:decide ((u.fns.length:Int)<=i.n)=false:=decide_eq_false hl;have hF:=kT (u:=u) (k:=i.n) hn (by omega);have Yb:=ct _ (List.mem_of_getElem? hF);have gL:0<(aL u i.n).blocks.length:=by
   cases hb:(aL u i.n).blocks with
   | nil=>exact absurd hb Yb
   | cons=>simp
  have hB:(aL u i.n).blocks[0]?=some (ax (aL u i.n) 0):=ep (f:=aL u i.n) (k:=0) (by omega) (by omega);generalize ax (aL u i.n) 0=B at *;generalize aL u i.n=F at *;have Xt:(decide (i.op=13)=true∧decide (i.op=9)=false)∨(decide (i.op=13)=false∧decide (i.op=9)=true):=by
   simp only[decide_eq_true_eq,decide_eq_false_iff_not];omega
  rcases Xt with⟨h1,h2⟩|⟨h1,h2⟩
  ·have g1:=of_decide_eq_true h1;have g2:=of_decide_eq_false h2;by_cases YF:B.params.length=i.args.length
   ·rw[if_neg (by omega)]at hR;have hq:decide ((B.params.length:Int)=i.args.length)=true:=decide_eq_true (by omega);refine zf true 0 Tryz.func32 Tryz.ntmps32 ?_;dsimp only[Tmp,TypeId,slotsOf];refine aA (ah ?_);refine c9 ?_;simp -dsimp only[simprocAttr,↓aa,zp,h1,h2];refine ah ?_;refine cr rfl ?_;refine cd ?_;refine c9 ?_;simp -dsimp only[simprocAttr,↓aa,zp,h3];refine ah ?_;refine cr rfl ?_;refine cd ?_;refine aS ?_;simp -dsimp only[simprocAttr,↓aa,zp,hF,hB]
    repeat(refine⟨by omega,?_⟩)
    refine ah ?_;refine c9 ?_;simp -dsimp only[simprocAttr,↓aa,zp,h1,h2,hq];refine ah ?_;refine cr rfl ?_;refine cd ?_;refine aA (ah ?_);refine aq ?_;simp -dsimp only[simprocAttr,↓aa,zp,zr,Tryz.results32];rw[hR]
   rw[if_pos (.inl ⟨g1,YF⟩)]at hR;have hq:decide ((B.params.length:Int)=i.args.length)=false:=decide_eq_false (by omega);refine zf true 0 Tryz.func32 Tryz.ntmps32 ?_;dsimp only[Tmp,TypeId,slotsOf];refine aA (ah ?_);refine c9 ?_;simp -dsimp only[simprocAttr,↓aa,zp,h1,h2];refine ah ?_;refine cr rfl ?_;refine cd ?_;refine c9 ?_;simp -dsimp only[simprocAttr,↓aa,zp,h3];refine ah ?_;refine cr rfl ?_;refine cd ?_;refine aS ?_;simp -dsimp only[simprocAttr,↓aa,zp,hF,hB]
   repeat(refine⟨by omega,?_⟩)
   refine ah ?_;refine c9 ?_;simp -dsimp only[simprocAttr,↓aa,zp,h1,h2,hq];refine ah ?_;refine cH rfl ?_;refine aA (ah ?_);refine aq ?_;simp -dsimp only[simprocAttr,↓aa,zp,zr,Tryz.results32];rw[hR]
  have g1:=of_decide_eq_false h1;have g2:=of_decide_eq_true h2;by_cases YF:B.params.length=0
  ·rw[if_pos (.inr ⟨g2,YF⟩)]at hR;have hq:decide ((B.params.length:Int)=0)=true:=decide_eq_true (by omega);refine zf true 0 Tryz.func32 Tryz.ntmps32 ?_;dsimp only[Tmp,TypeId,slotsOf];refine aA (ah ?_);refine c9 ?_;simp -dsimp only[simprocAttr,↓aa,zp,h1,h2];refine ah ?_;refine cr rfl ?_;refine cd ?_;refine c9 ?_;simp -dsimp only[simprocAttr,↓aa,zp,h3];refine ah ?_;refine cr rfl ?_;refine cd ?_;refine aS ?_;simp -dsimp only[simprocAttr,↓aa,zp,hF,hB]
   repeat(refine⟨by omega,?_⟩)
   refine ah ?_;refine c9 ?_;simp -dsimp only[simprocAttr,↓aa,zp,h1,h2,hq];refine ah ?_;refine cH rfl ?_;refine aA (ah ?_);refine aq ?_;simp -dsimp only[simprocAttr,↓aa,zp,zr,Tryz.results32];rw[hR]
  rw[if_neg (by omega)]at hR;have hq:decide ((B.params.length:Int)=0)=false:=decide_eq_false (by omega);refine zf true 0 Tryz.func32 Tryz.ntmps32 ?_;dsimp only[Tmp,TypeId,slotsOf];refine aA (ah ?_);refine c9 ?_;simp -dsimp only[simprocAttr,↓aa,zp,h1,h2];refine ah ?_;refine cr rfl ?_;refine cd ?_;refine c9 ?_;simp -dsimp only[simprocAttr,↓aa,zp,h3];refine ah ?_;refine cr rfl ?_;refine cd ?_;refine aS ?_;simp -dsimp only[simprocAttr,↓aa,zp,hF,hB]
  repeat(refine⟨by omega,?_⟩)
  refine ah ?_;refine c9 ?_;simp -dsimp only[simprocAttr,↓aa,zp,h1,h2,hq];refine ah ?_;refine cr rfl ?_;refine cd ?_;refine aA (ah ?_);refine aq ?_;simp -dsimp only[simprocAttr,↓aa,zp,zr,Tryz.results32];rw[hR]
theorem Bc:∀(l:List Block) (m:Int),0<=m->m+2 ^ 48*(l.length:Int)<=2 ^ 60->(∀b∈l,b.ins.length<=2 ^ 47)->m<=mS m l∧∀b∈l,(b.ins.length:Int)<=mS m l
 | [],m,_,_,_=>⟨by simp[mS],by simp⟩
 | b::r,m,h0,h1,h2=>by
  have hb:=h2 b (by simp);simp only[List.length_cons]at h1;have hw:IntKind.i64.wrap (m+b.ins.length)=m+b.ins.length:=nQ _ _ (by simp[IntKind.min,IntKind.bits,IntKind.signed];omega) (by simp[IntKind.max,IntKind.bits,IntKind.signed];omega);have ih:=Bc r (m+b.ins.length) (by omega) (by omega) (fun x hx=>h2 x (by simp[hx]));simp only[mS,hw];refine⟨by omega,fun x hx=>?_⟩;rcases List.mem_cons.1 hx with q|q
  ·subst q;omega
  exact ih.2 x q
structure QB(f:Func):Prop where
 ne:f.blocks≠[]
 few:f.blocks.length<=128
 name:-1<=f.name∧f.name<=1048575
 args:(ax f 0).params.length<=6
 ins:∀b∈f.blocks,b.ins.length<=1024
 blk:∀b∈f.blocks,Nu f b
 MN:sj f (c5 f f.blocks.length 0 []).2=0
theorem c6{f:Func}(a8:f.fit)(h:aZ f=0):QB f:=by
 unfold aZ at h;split at h
 ·simp at h
 rename_i h1;split at h
 ·simp at h
 rename_i h2;split at h
 ·simp at h
 rename_i h3;split at h
 ·rename_i h4;exact absurd h h4
 rename_i h4;have hw:=Bc f.blocks 0 (by omega) (by omega) (fun b hb=>(a8.2.2 b hb).2.2.1);refine⟨fun e=>h1 (by rw[e];rfl),by omega,by simpa[within]using h3,by omega,fun b hb=>?_,tw (by simpa using h4),h⟩;have:=hw.2 b hb;omega
structure QC(i:Ins):Prop where
 op:0<=i.op∧i.op<=24
 len:i.args.length<=16
 c0:i.op=0->fU i.n∧i.args.length=0
 c2:(1<=i.op∧i.op<=7)∨i.op=16∨i.op=18∨i.op=19∨i.op=21∨i.op=23->i.args.length=2
 c1:i.op=10∨i.op=11∨i.op=12∨i.op=15∨i.op=17∨i.op=24->i.args.length=1
 c3:i.op=20->i.args.length=3
 Un:i.op=8->0<=i.n∧i.n<=255
 call:i.op=9∨i.op=13->0<=i.n∧i.n<=255
 app:i.op=14->1<=i.args.length
 Wq:i.op=11∨i.op=24->0<=i.n
 pack:i.op=22->(i.n=2∨i.n=4)∧(i.args.length:Int)=i.n
 vec:i.op=23->i.n=1∨i.n=2∨i.n=3
theorem uH{i:Ins}(h:kN i=0):QC i:=by
 unfold kN at h;split at h
 ·simp at h
 rename_i hA;split at h
 ·simp at h
 rename_i Xx;split at h
 ·rename_i hN;have hA':(bq i).2=true∧(0<=(bq i).1->(i.args.length:Int)=(bq i).1)∧(i.op=14->¬(i.args.length:Int)=0):=by
   simp only[B2,Bool.or_eq_true,Bool.not_eq_true',Bool.and_eq_true,decide_eq_true_eq,decide_eq_false_iff_not,not_or,not_and,Bool.not_eq_false,Decidable.not_not]at hA;exact⟨hA.1.1,hA.1.2,hA.2⟩
  obtain⟨a1,a2,a3⟩:=hA';have hB:(i.op=8∨i.op=9->i.args.length<=16)∧(i.op=13∨i.op=14->i.args.length<=6):=by
   simp only[vO,B3,Bool.or_eq_true,Bool.and_eq_true,decide_eq_true_eq,not_or,not_and]at Xx;exact⟨fun q=>by have:=Xx.1 q;omega,fun q=>by have:=Xx.2 q;omega⟩
  obtain⟨b1,b2⟩:=hB;have kq:0<=i.op∧i.op<=24:=by
   unfold bq at a1;split at a1
   ·omega
   split at a1
   ·omega
   split at a1
   ·omega
   split at a1
   ·omega
   split at a1
   ·omega
   split at a1
   ·omega
   simp at a1
  have o0:i.op=0->bq i=(0,true):=fun q=>by unfold bq;rw[if_pos q]
  have o2:(1<=i.op∧i.op<=7)∨i.op=16∨i.op=18∨i.op=19∨i.op=21∨i.op=23->bq i=(2,true):=fun q=>by unfold bq;rw[if_neg (by omega),if_pos q]
  have o3:i.op=20->bq i=(3,true):=fun q=>by unfold bq;rw[if_neg (by omega),if_neg (by omega),if_pos q]
  have o1:i.op=10∨i.op=11∨i.op=12∨i.op=15∨i.op=17∨i.op=24->bq i=(1,true):=fun q=>by unfold bq;rw[if_neg (by omega),if_neg (by omega),if_neg (by omega),if_pos q]
  have o22:i.op=22->bq i=(i.n,decide (i.n=2∨i.n=4)):=fun q=>by unfold bq;rw[if_neg (by omega),if_neg (by omega),if_neg (by omega),if_neg (by omega),if_neg (by omega),if_pos q]
  have l0:i.op=0->i.args.length=0:=fun q=>by rw[o0 q]at a2;have:=a2 (by decide);simp only at this;omega
  have l2:=fun q=>by have:=a2;rw[o2 q]at this;exact this (by decide)
  have l3:=fun q=>by have:=a2;rw[o3 q]at this;exact this (by decide)
  have l1:=fun q=>by have:=a2;rw[o1 q]at this;exact this (by decide)
  have l22:i.op=22->(i.n=2∨i.n=4)∧(i.args.length:Int)=i.n:=fun q=>by
   rw[o22 q]at a1 a2;have:i.n=2∨i.n=4:=of_decide_eq_true a1;exact⟨this,a2 (by simp only;omega)⟩
  have n0:i.op=0->fU i.n:=fun q=>by unfold cy at hN;rw[if_pos q]at hN;exact of_decide_eq_true hN
  have n8:i.op=8->0<=i.n∧i.n<=255:=fun q=>by unfold cy at hN;rw[if_neg (by omega),if_pos q]at hN;exact within_iff.1 hN
  have n11:i.op=11->0<=i.n∧i.n<=15:=fun q=>by unfold cy at hN;rw[if_neg (by omega),if_neg (by omega),if_pos q]at hN;exact within_iff.1 hN
  have n9:i.op=9∨i.op=13->0<=i.n∧i.n<=255:=fun q=>by unfold cy at hN;rw[if_neg (by omega),if_neg (by omega),if_neg (by omega),if_pos q]at hN;exact within_iff.1 hN
  have n23:i.op=23->i.n=1∨i.n=2∨i.n=3:=fun q=>by unfold cy at hN;rw[if_neg (by omega),if_neg (by omega),if_neg (by omega),if_neg (by omega),if_pos q]at hN;exact of_decide_eq_true hN
  have n24:i.op=24->0<=i.n∧i.n<=3:=fun q=>by unfold cy at hN;rw[if_neg (by omega),if_neg (by omega),if_neg (by omega),if_neg (by omega),if_neg (by omega),if_pos q]at hN;exact within_iff.1 hN
  have L2:(1<=i.op∧i.op<=7)∨i.op=16∨i.op=18∨i.op=19∨i.op=21∨i.op=23->i.args.length=2:=fun q=>by have:=l2 q;omega
  have L1:i.op=10∨i.op=11∨i.op=12∨i.op=15∨i.op=17∨i.op=24->i.args.length=1:=fun q=>by have:=l1 q;omega
  have L3:i.op=20->i.args.length=3:=fun q=>by have:=l3 q;omega
  refine⟨kq,?_,fun q=>⟨n0 q,l0 q⟩,L2,L1,L3,n8,n9,fun q=>by have:=a3 q;omega,fun q=>?_,l22,n23⟩
  ·rcases(show i.op=0∨((1<=i.op∧i.op<=7)∨i.op=16∨i.op=18∨i.op=19∨i.op=21∨i.op=23)∨i.op=20∨(i.op=10∨i.op=11∨i.op=12∨i.op=15∨i.op=17∨i.op=24)∨(i.op=8∨i.op=9)∨(i.op=13∨i.op=14)∨i.op=22 by omega)with q|q|q|q|q|q|q
   ·have:=l0 q;omega
   ·have:=L2 q;omega
   ·have:=L3 q;omega
   ·have:=L1 q;omega
   ·have:=b1 q;omega
   ·have:=b2 q;omega
   have:=l22 q;omega
  rcases q with q|q
  ·exact(n11 q).1
  exact(n24 q).1
 simp at h
structure T9(f:Func)(t:Term):Prop where
 kind:0<=t.kind∧t.kind<=4
 to:t.kind=0∨t.kind=4->t.to=[]
 jump:t.kind=1->t.to.length=1
 cond:t.kind=2->t.to.length=2
 switch:t.kind=3->t.to.length=t.cases.length+1
 cases:t.cases.length<=256
 ML:t.kind=4->1<=t.n∧t.n<=6
 n:t.kind≠4->t.n=0
 fZ:∀e∈t.to,(1<=e.block∧e.block<=(f.blocks.length:Int)-1)∧e.args.length=(ax f e.block).params.length
theorem jm{f:Func}{t:Term}(h:kE f t=0):T9 f t:=by
 obtain⟨h1,h2,h3,h4⟩:=kS h;simp only[ef,Bool.and_eq_true,Bool.or_eq_true,decide_eq_true_eq]at h1;obtain⟨hk,⟨⟨he,_⟩,hn⟩,hc⟩:=h1;refine⟨hk,fun q=>?_,fun q=>?_,fun q=>?_,fun q=>?_,h2,h3,fun q=>hn.resolve_left q,h4⟩
 ·have:fc t=0:=by rcases q with q|q<;>simp[fc,q]
  rw[this]at he;exact List.length_eq_zero_iff.1 (by omega)
 ·have:fc t=1:=by simp[fc,q]
  omega
 ·have:fc t=2:=by simp[fc,q]
  omega
 have:fc t=t.cases.length+1:=by simp[fc,q]
 omega
def oZ(a b:Int):Int:=if a≠0 then a else b
theorem de{a b:Int}(h:a=0):oZ a b=b:=by simp[oZ,h]
theorem gV{a b:Int}(h:¬a=0):oZ a b=a:=by simp[oZ,h]
theorem ja(a b c:Int):oZ (oZ a b) c=oZ a (oZ b c):=by
 by_cases h:a=0
 ·rw[de h,de h]
 rw[gV h,gV h,gV h]
theorem js{a b:Int}(h:oZ a b=0):a=0∧b=0:=by
 by_cases q:a=0
 ·exact⟨q,by rwa [de q]at h⟩
 rw[gV q]at h;exact absurd h q
def qE:List Func->Int
 | []=>0
 | f::r=>oZ (aZ f) (qE r)
def qx(u:bY):List Ins->Int
 | []=>0
 | i::r=>oZ (jJ u i) (qx u r)
def m9(u:bY):List Block->Int
 | []=>0
 | b::r=>oZ (qx u b.ins) (m9 u r)
def kD(u:bY):List Func->Int
 | []=>0
 | f::r=>oZ (m9 u f.blocks) (kD u r)
def gD(u:bY):Int :=
 if u.fns.length=0 then 3
 else if 256<u.fns.length then 2
 else if within u.main 0 ((u.fns.length:Int)-1)=false then 4
 else oZ (qE u.fns) (if 0<(ax (aL u u.main) 0).params.length then 3 else kD u u.fns)
theorem qF:∀{l:List Func},qE l=0->∀f∈l,aZ f=0
 | [],_,f,h=>by simp at h
 | g::r,h,f,hf=>by
  have:=js h;rcases List.mem_cons.1 hf with q|q
  ·subst q;exact this.1
  exact qF this.2 f q
theorem qC(u:bY)(a8:u.fit):bD Tryz.prog 9 [u.enc] (aI (gD u)):=by
 obtain⟨R,hR⟩:∃R,R=gD u:=⟨_,rfl⟩
 rw[<-hR];unfold gD at hR;have hw:=dU u.main 0 ((u.fns.length:Int)-1);have uv:u.fns.length<=2 ^ 47:=a8.2.1;refine zf true 0 Tryz.func9 Tryz.ntmps9 ?_;dsimp only[Tmp,TypeId,slotsOf];refine aA (ah ?_);refine aD 1 0 (.ip none [bn u.fns,aI u.main]) rfl (by simp[aj.aF]) trivial rfl ?_ ?_;rotate_left;simp -dsimp only[simprocAttr,↓aa,zp]
 ·refine aJ (ai ?_);by_cases h0:u.fns.length=0
  ·rw[if_pos h0]at hR;have hd:decide ((u.fns.length:Int)=0)=true:=decide_eq_true (by omega);refine aS ?_;simp -dsimp only[simprocAttr,↓aa,zp,hd];refine ah ?_;refine cH rfl ?_;refine aA (ah ?_);refine aq ?_;simp -dsimp only[simprocAttr,↓aa,zp,zr,Tryz.results9];rw[hR]
  rw[if_neg h0]at hR;have hd:decide ((u.fns.length:Int)=0)=false:=decide_eq_false (by omega);refine aS ?_;simp -dsimp only[simprocAttr,↓aa,zp,hd];refine ah ?_;apply aP rfl<;>intro h
  ·cases h
  by_cases h1:256<u.fns.length
  ·rw[if_pos h1]at hR;have hd:decide ((256:Int)<u.fns.length)=true:=decide_eq_true (by omega);refine aS ?_;simp -dsimp only[simprocAttr,↓aa,zp,hd];refine ah ?_;refine cH rfl ?_;refine aA (ah ?_);refine aq ?_;simp -dsimp only[simprocAttr,↓aa,zp,zr,Tryz.results9];rw[hR]
  rw[if_neg h1]at hR;have hd:decide ((256:Int)<u.fns.length)=false:=decide_eq_false (by omega);refine aS ?_;simp -dsimp only[simprocAttr,↓aa,zp,hd];refine ah ?_;apply aP rfl<;>intro h
  ·cases h
  cases EZ:within u.main 0 ((u.fns.length:Int)-1)with
  | false =>
   rw[if_pos EZ]at hR;rw[EZ]at hw;refine aA ?_
   repeat(refine⟨by omega,?_⟩)
   refine zi hw ?_;refine ah ?_;refine cH rfl ?_;refine aA (ah ?_);refine aq ?_;simp -dsimp only[simprocAttr,↓aa,zp,zr,Tryz.results9];rw[hR]
  | true =>
   have yI:=within_iff.1 EZ;rw[if_neg (by simp[EZ])]at hR;rw[EZ]at hw;refine aA ?_
   repeat(refine⟨by omega,?_⟩)
   refine zi hw ?_;refine ah ?_;apply aP rfl<;>intro h
   ·cases h
   refine la ?_;refine bX (ah ?_);refine ai (aO (ι:={k:Nat // k<=u.fns.length∧qE u.fns=qE (u.fns.drop k)}) (fun k=>⟨87,[(1,.ip none [bn u.fns,aI u.main]),(2,aI 0),(33,bn u.fns),(34,aI u.fns.length),(35,aI k.1)],[.gone]⟩) (fun k=>u.fns.length-k.1) ⟨0,by omega,rfl⟩ ?_ ?_)
   ·refine zq rfl ?_ ?_;simp -dsimp only[simprocAttr,↓aa,zp,zc];rfl
   rintro⟨k,hk,dw⟩;refine aA (ah ?_);apply iz rfl<;>intro h
   ·refine cd ?_;have bg:k<u.fns.length:=by simpa using h
    obtain⟨f,hf⟩:∃f,u.fns[k]?=some f:=⟨u.fns[k],by simp[bg]⟩
    have HK:=jk f (a8.2.2 f (List.mem_of_getElem? hf));rw[bP hf]at dw;simp only[qE]at dw;obtain⟨e,M6⟩:∃e,e=aZ f:=⟨_,rfl⟩
    rw[<-M6]at dw HK;refine aJ (ai ?_);refine aS ?_;simp -dsimp only[simprocAttr,↓aa,zp,hf];refine ah ?_;refine aD 4 1 (.ip none [aI f.name,ay f.blocks]) rfl (by simp[aj.aF]) trivial rfl ?_ ?_;rotate_left;simp -dsimp only[simprocAttr,↓aa,zp]
    ·refine bt 1 [(1,.ip none [bn u.fns,aI u.main]),(2,aI 0),(33,bn u.fns),(34,aI u.fns.length),(35,aI k),(4,.ip none [aI f.name,ay f.blocks])] (by simp) (by omega) [.gone] ?_ ?_ ?_ ?_ ?_
     ·rfl
     ·simp[aj.upto,aw,ae.upto,az,Func.ag,Block.ag,Edge.ag,Ins.ag]
     ·simp[fj,St.get,bF,bh,Go.Av.look,Sub.refl]
     ·simp[aj.upto,aw,ae.upto,az,Func.ag,Block.ag,Edge.ag,Ins.ag]
     refine aA ?_;refine zi HK ?_;refine ah ?_;by_cases he:e=0
     ·have jP:decide (e=0)=true:=decide_eq_true he;rw[de he]at dw;refine aS ?_;simp -dsimp only[simprocAttr,↓aa,zp,jP];refine ah ?_;refine cr rfl ?_;refine la ?_;refine cT ?_
      repeat(refine⟨by omega,?_⟩)
      refine fK ?_;refine⟨⟨k+1,bg,dw⟩,by simp;omega,?_⟩;refine zq rfl ?_ ?_;simp -dsimp only[simprocAttr,↓aa,zp,zc]
      ·exact Sub.int (by simp)
      rfl
     have jP:decide (e=0)=false:=decide_eq_false he;rw[gV he]at dw;rw[dw,gV he]at hR;refine aS ?_;simp -dsimp only[simprocAttr,↓aa,zp,jP];refine ah ?_;refine cH rfl ?_;refine aA (ah ?_);refine aq ?_;simp -dsimp only[simprocAttr,↓aa,zp,zr,Tryz.results9];rw[hR]
    exact bQ.mp rfl rfl
   refine aM ?_;simp -dsimp only[bS,ne_eq,Nat.reduceEqDiff,reduceCtorEq];have gl:k=u.fns.length:=by simp at h;omega
   subst gl;rw[List.drop_length]at dw;have Oz:qE u.fns=0:=by rw[dw];rfl
   rw[de Oz]at hR;have cz:∀f∈u.fns,QB f:=fun f hf=>c6 (a8.2.2 f hf) (qF Oz f hf);have hM:=kT (u:=u) (k:=u.main) yI.1 (by omega);have QT:0<(aL u u.main).blocks.length:=by
    have:=(cz _ (List.mem_of_getElem? hM)).ne;cases hb:(aL u u.main).blocks with
    | nil=>exact absurd hb this
    | cons=>simp
   have hB:(aL u u.main).blocks[0]?=some (ax (aL u u.main) 0):=ep (f:=aL u u.main) (k:=0) (by omega) (by omega);generalize ax (aL u u.main) 0=B at *;generalize aL u u.main=F at *;by_cases hp:0<B.params.length
   ·rw[if_pos hp]at hR;have Se:decide ((0:Int)<B.params.length)=true:=decide_eq_true (by omega);refine c9 ?_;simp -dsimp only[simprocAttr,↓aa,zp,hM,hB,Se]
    repeat(refine⟨by omega,?_⟩)
    refine ah ?_;refine cH rfl ?_;refine aA (ah ?_);refine aq ?_;simp -dsimp only[simprocAttr,↓aa,zp,zr,Tryz.results9];rw[hR]
   rw[if_neg hp]at hR;have Se:decide ((0:Int)<B.params.length)=false:=decide_eq_false (by omega);refine c9 ?_;simp -dsimp only[simprocAttr,↓aa,zp,hM,hB,Se]
   repeat(refine⟨by omega,?_⟩)
   refine ah ?_;apply aP rfl<;>intro h
   ·cases h
   refine cd ?_;refine bX (ah ?_);refine ai (aO (ι:={k:Nat // k<=u.fns.length∧R=kD u (u.fns.drop k)}) (fun k=>⟨87,[(1,.ip none [bn u.fns,aI u.main]),(2,aI 0),(58,bn u.fns),(59,aI u.fns.length),(60,aI k.1)],[.gone]⟩) (fun k=>u.fns.length-k.1) ⟨0,by omega,hR⟩ ?_ ?_)
   ·refine zq rfl ?_ ?_;simp -dsimp only[simprocAttr,↓aa,zp,zc];rfl
   rintro⟨k,hk,dw⟩;refine aA (ah ?_);apply iz rfl<;>intro h
   ·refine cd ?_;have bg:k<u.fns.length:=by simpa using h
    obtain⟨f,hf⟩:∃f,u.fns[k]?=some f:=⟨u.fns[k],by simp[bg]⟩
    have M7:=List.mem_of_getElem? hf;have pW:=(cz f M7).few;rw[bP hf]at dw;simp only[kD]at dw;refine aJ (ai ?_);refine aS ?_;simp -dsimp only[simprocAttr,↓aa,zp,hf];refine ah ?_;refine aD 7 1 (.ip none [aI f.name,ay f.blocks]) rfl (by simp[aj.aF]) trivial rfl ?_ ?_;rotate_left;simp -dsimp only[simprocAttr,↓aa,zp]
    ·refine bt 1 [(1,.ip none [bn u.fns,aI u.main]),(2,aI 0),(58,bn u.fns),(59,aI u.fns.length),(60,aI k),(7,.ip none [aI f.name,ay f.blocks])] (by simp) (by omega) [.gone] ?_ ?_ ?_ ?_ ?_
     ·rfl
     ·simp[aj.upto,aw,ae.upto,az,Func.ag,Block.ag,Edge.ag,Ins.ag]
     ·simp[fj,St.get,bF,bh,Go.Av.look,Sub.refl]
     ·simp[aj.upto,aw,ae.upto,az,Func.ag,Block.ag,Edge.ag,Ins.ag]
     refine aA (ah ?_);refine ai (aO (ι:={j:Nat // j<=f.blocks.length∧R=oZ (m9 u (f.blocks.drop j)) (kD u (u.fns.drop (k+1)))}) (fun j=>⟨87,[(1,.ip none [bn u.fns,aI u.main]),(2,aI 0),(58,bn u.fns),(59,aI u.fns.length),(60,aI k),(65,ay f.blocks),(66,aI f.blocks.length),(67,aI j.1)],[.gone]⟩) (fun j=>f.blocks.length-j.1) ⟨0,by omega,dw⟩ ?_ ?_)
     ·refine zq rfl ?_ ?_;simp -dsimp only[simprocAttr,↓aa,zp,zc];rfl
     rintro⟨j,hj,gQ⟩;refine aA (ah ?_);apply iz rfl<;>intro h
     ·refine cd ?_;have xk:j<f.blocks.length:=by simpa using h
      obtain⟨b,hb⟩:∃b,f.blocks[j]?=some b:=⟨f.blocks[j],by simp[xk]⟩
      have mg:=List.mem_of_getElem? hb;have xK:=(cz f M7).ins b mg;rw[bP hb]at gQ;simp only[m9]at gQ;rw[ja]at gQ;refine aJ (ai ?_);refine aS ?_;simp -dsimp only[simprocAttr,↓aa,zp,hb];refine ah ?_;refine aD 9 1 (.ip none [aK b.params,bf b.ins,aI b.term.kind,aI b.term.arg,aI b.term.n,aK b.term.cases,aH b.term.to]) rfl (by simp[aj.aF]) trivial rfl ?_ ?_;rotate_left;simp -dsimp only[simprocAttr,↓aa,zp]
      ·refine bt 1 [(1,.ip none [bn u.fns,aI u.main]),(2,aI 0),(58,bn u.fns),(59,aI u.fns.length),(60,aI k),(65,ay f.blocks),(66,aI f.blocks.length),(67,aI j),(9,.ip none [aK b.params,bf b.ins,aI b.term.kind,aI b.term.arg,aI b.term.n,aK b.term.cases,aH b.term.to])] (by simp) (by omega) [.gone] ?_ ?_ ?_ ?_ ?_
       ·rfl
       ·simp[aj.upto,aw,ae.upto,az,Func.ag,Block.ag,Edge.ag,Ins.ag]
       ·simp[fj,St.get,bF,bh,Go.Av.look,Sub.refl]
       ·simp[aj.upto,aw,ae.upto,az,Func.ag,Block.ag,Edge.ag,Ins.ag]
       refine aA (ah ?_);refine ai (aO (ι:={z:Nat // z<=b.ins.length∧R=oZ (qx u (b.ins.drop z)) (oZ (m9 u (f.blocks.drop (j+1))) (kD u (u.fns.drop (k+1))))}) (fun z=>⟨87,[(1,.ip none [bn u.fns,aI u.main]),(2,aI 0),(58,bn u.fns),(59,aI u.fns.length),(60,aI k),(65,ay f.blocks),(66,aI f.blocks.length),(67,aI j),(72,bf b.ins),(73,aI b.ins.length),(74,aI z.1)],[.gone]⟩) (fun z=>b.ins.length-z.1) ⟨0,by omega,gQ⟩ ?_ ?_)
       ·refine zq rfl ?_ ?_;simp -dsimp only[simprocAttr,↓aa,zp,zc];rfl
       rintro⟨z,hz,mr⟩;refine aA (ah ?_);apply iz rfl<;>intro h
       ·refine cd ?_;have xl:z<b.ins.length:=by simpa using h
        obtain⟨i,hi⟩:∃i,b.ins[z]?=some i:=⟨b.ins[z],by simp[xl]⟩
        rw[bP hi]at mr;simp only[qx]at mr;rw[ja]at mr;have TL:=uH (((cz f M7).blk b mg).Gm i (List.mem_of_getElem? hi));have fS:=vr u i (fun q=>(TL.call (by omega)).1) (fun f hf=>(cz f hf).ne);obtain⟨e,M6⟩:∃e,e=jJ u i:=⟨_,rfl⟩
        rw[<-M6]at mr fS;refine aJ (ai ?_);refine aS ?_;simp -dsimp only[simprocAttr,↓aa,zp,hi];refine ah ?_;refine aD 11 1 (.ip none [aI i.to,aI i.op,aI i.n,aK i.args]) rfl (by simp[aj.aF]) trivial rfl ?_ ?_;rotate_left;simp -dsimp only[simprocAttr,↓aa,zp]
        ·refine bt 1 [(1,.ip none [bn u.fns,aI u.main]),(2,aI 0),(58,bn u.fns),(59,aI u.fns.length),(60,aI k),(65,ay f.blocks),(66,aI f.blocks.length),(67,aI j),(72,bf b.ins),(73,aI b.ins.length),(74,aI z),(11,.ip none [aI i.to,aI i.op,aI i.n,aK i.args])] (by simp) (by omega) [.gone] ?_ ?_ ?_ ?_ ?_
         ·rfl
         ·simp[aj.upto,aw,ae.upto,az,Func.ag,Block.ag,Edge.ag,Ins.ag]
         ·simp[fj,St.get,bF,bh,Go.Av.look,Sub.refl]
         ·simp[aj.upto,aw,ae.upto,az,Func.ag,Block.ag,Edge.ag,Ins.ag]
         refine aA ?_;refine zi fS ?_;refine ah ?_;by_cases he:e=0
         ·have jP:decide (e=0)=true:=decide_eq_true he;rw[de he]at mr;refine aS ?_;simp -dsimp only[simprocAttr,↓aa,zp,jP];refine ah ?_;refine cr rfl ?_;refine la ?_;refine cT ?_
          repeat(refine⟨by omega,?_⟩)
          refine fK ?_;refine⟨⟨z+1,xl,mr⟩,by simp;omega,?_⟩;refine zq rfl ?_ ?_;simp -dsimp only[simprocAttr,↓aa,zp,zc]
          ·exact Sub.int (by simp)
          rfl
         have jP:decide (e=0)=false:=decide_eq_false he;rw[gV he]at mr;refine aS ?_;simp -dsimp only[simprocAttr,↓aa,zp,jP];refine ah ?_;refine cH rfl ?_;refine aA (ah ?_);refine aq ?_;simp -dsimp only[simprocAttr,↓aa,zp,zr,Tryz.results9];rw[mr]
        exact bQ.mp rfl rfl
       refine aM ?_;simp -dsimp only[bS,ne_eq,Nat.reduceEqDiff,reduceCtorEq];have H3:z=b.ins.length:=by simp at h;omega
       subst H3;rw[List.drop_length]at mr;rw[de (by rfl)]at mr;refine cT ?_
       repeat(refine⟨by omega,?_⟩)
       refine fK ?_;refine⟨⟨j+1,xk,mr⟩,by simp;omega,?_⟩;refine zq rfl ?_ ?_;simp -dsimp only[simprocAttr,↓aa,zp,zc]
       ·exact Sub.int (by simp)
       rfl
      exact bQ.mp rfl rfl
     refine aM ?_;simp -dsimp only[bS,ne_eq,Nat.reduceEqDiff,reduceCtorEq];have rK:j=f.blocks.length:=by simp at h;omega
     subst rK;rw[List.drop_length]at gQ;rw[de (by rfl)]at gQ;refine cT ?_
     repeat(refine⟨by omega,?_⟩)
     refine fK ?_;refine⟨⟨k+1,bg,gQ⟩,by simp;omega,?_⟩;refine zq rfl ?_ ?_;simp -dsimp only[simprocAttr,↓aa,zp,zc]
     ·exact Sub.int (by simp)
     rfl
    exact bQ.mp rfl rfl
   refine aM ?_;simp -dsimp only[bS,ne_eq,Nat.reduceEqDiff,reduceCtorEq];have gl:k=u.fns.length:=by simp at h;omega
   subst gl;rw[List.drop_length]at dw;refine aA (ah ?_);refine aq ?_;simp -dsimp only[simprocAttr,↓aa,zp,zr,Tryz.results9];rw[dw];rfl
 exact bQ.mp rfl rfl
theorem gH.mono{u:bY}{m m':Mach}(h:∀a∈m.heap,∃b∈m'.heap,b.l8=a.l8){v:SV}(k:gH u m v):gH u m' v :=
 SV.Wf.mono (fun id ⟨a,ha,e⟩=>by
  obtain⟨b,hb,e'⟩:=h a ha;exact⟨b,hb,e'.trans e⟩) k
theorem gH.of_heap{u:bY}{m m':Mach}(h:m'.heap=m.heap){v:SV}(k:gH u m v):gH u m' v :=
 k.mono fun a ha=>⟨a,by rw[h];exact ha,rfl⟩
theorem gH.word{u:bY}{m:Mach}{n:Int}(h:fU n):gH u m (.word n):=SV.Wf.word h
theorem gH.zero{u:bY}{m:Mach}:gH u m .zero:=SV.Wf.zero
theorem jf{u:bY}{m:Mach}{l:List SV}(h:∀v∈l,gH u m v)(k:Nat):gH u m (b8 l k):=by
 unfold b8;cases hk:l[k]? with
 | none=>exact gH.zero
 | some v=>exact h v (List.mem_of_getElem? hk)
theorem z'{u:bY}{m:Mach}{es:List (Int×SV)}(h:∀e∈es,gH u m e.2)(k:Int):gH u m (fk es k):=by
 unfold fk;cases hl:iu es k with
 | none=>exact gH.zero
 | some v =>
  obtain⟨e,h1,rfl⟩:=yX hl;exact h e h1
theorem pf{u:bY}{m:Mach}{es:List (Int×SV)}(h:∀e∈es,gH u m e.2)(l:List Int):∀v∈cB es l,gH u m v:=fun v hv=>by
 obtain⟨k,_,rfl⟩:=List.mem_map.1 hv;exact z' h k
theorem pT(es:List (Int×SV))(l:List Int):(cB es l).length=l.length:=by simp[cB]
theorem AJ{u:bY}{m:Mach}{es:List (Int×SV)}(h:∀e∈es,gH u m e.2){k:Int}{v:SV}(hv:gH u m v):∀e∈cJ es k v,gH u m e.2:=fun e he=>by
 rcases jU he with q|q
 ·exact h e q
 rw[q];exact hv
theorem Bu{u:bY}{m:Mach}{es:List (Int×SV)}(h:∀e∈es,gH u m e.2){ps:List Int}{l:List SV}(hl:∀v∈l,gH u m v):∀e∈cN es ps l,gH u m e.2:=fun e he=>by
 rcases k7 he with q|q
 ·exact h e q
 exact hl _ q
theorem rh(op a b:Int)(hb:fU b):(∃n,fU n∧(df op a b).1=.word n)∧0<=(df op a b).2∧(df op a b).2<=6:=by
 have w1:=kB (a+b);have w2:=kB (a-b);have w3:=kB (a*b);have w4:=kB (a.tdiv b);have w0:fU 0:=by unfold fU;omega
 have w01:fU 1:=by unfold fU;omega
 unfold df
 repeat' split
 all_goals first
  | exact⟨⟨_,w1,rfl⟩,by simp⟩
  | exact⟨⟨_,w2,rfl⟩,by simp⟩
  | exact⟨⟨_,w3,rfl⟩,by simp⟩
  | exact⟨⟨_,w4,rfl⟩,by simp⟩
  | exact⟨⟨_,w0,rfl⟩,by simp⟩
  | exact⟨⟨_,w01,rfl⟩,by simp⟩
  | exact⟨⟨_,w8 hb (by assumption),rfl⟩,by simp⟩
theorem wD{u:bY}{m:Mach}{i:Ins}{args:List SV}(h:∀v∈args,gH u m v):gH u m (cV i args).1∧0<=(cV i args).2∧(cV i args).2<=6:=by
 have h0:=jf h 0;have hk:∀k,gH u m (b8 (b8 args 0).list k):=jf (SV.Wf.kids h0);have hl:=SV.Wf.len h0;unfold cV
 repeat' split
 all_goals first
  | exact⟨gH.zero,by simp⟩
  | exact⟨hk _,by simp⟩
  | exact⟨gH.word (SV.Wf.num h0 (by omega)),by simp⟩
  | exact⟨gH.word (by unfold fU;omega),by simp⟩
theorem G5{u:bY}{m:Mach}{op:Int}:∀(l r:List SV),(∀v∈r,fU v.n)->∀v∈kY op l r,gH u m v∧v.kind=0
 | [],_,_,v,h=>by simp[kY]at h
 | _::_,[],_,v,h=>by simp[kY]at h
 | a::l,b::r,hr,v,h=>by
  simp only[kY,List.mem_cons]at h;rcases h with rfl|h
  ·obtain⟨⟨n,h1,h2⟩,_⟩:=rh op a.n b.n (hr b (by simp));rw[h2];exact⟨gH.word h1,rfl⟩
  exact G5 l r (fun v hv=>hr v (by simp[hv])) v h
theorem tm{u:bY}{m:Mach}{v:SV}(h:gH u m v)(hk:v.kind=4):v.list.length<=1000∧∀x∈v.list,fU x.n :=
 ⟨SV.Wf.len h,fun x hx=>SV.Wf.num (SV.Wf.kids h x hx) (.inl (SV.Wf.vec h hk x hx))⟩
theorem xg{u:bY}{m:Mach}{i:Ins}{args:List SV}(h:∀v∈args,gH u m v)(hl:i.op=22->args.length<=1000)(h2:i.op≠22->i.op≠24->∃x y,args=[x,y]) :
  gH u m (di i args).1∧0<=(di i args).2∧(di i args).2<=6:=by
 have h0:=jf h 0;have hk:∀k,gH u m (b8 (b8 args 0).list k):=jf (SV.Wf.kids h0);by_cases M4:i.op=22
 ·unfold di;rw[if_pos M4];split
  ·rename_i ha;refine⟨.mk (by omega) (by omega) (by omega) (by omega) (fun _ v hv=>?_) (hl M4) (by simp) h,by simp⟩;simp only[lf,List.all_eq_true,decide_eq_true_eq]at ha;exact ha v hv
  exact⟨gH.zero,by simp⟩
 by_cases QN:i.op=24
 ·unfold di;rw[if_neg M4,if_pos QN];split
  ·exact⟨gH.zero,by simp⟩
  exact⟨hk _,by simp⟩
 obtain⟨x,y,e⟩:=h2 M4 QN;subst e;unfold di;rw[if_neg M4,if_neg QN];split
 ·exact⟨gH.zero,by simp⟩
 rename_i hn;have cz:lf [x,y] 4=true:=by
  cases hh:lf [x,y] 4
  ·exact absurd (.inl (by simp[hh])) hn
  rfl
 have gl:x.kind=4∧y.kind=4:=by simpa[lf]using cz
 have hx:=tm (h x (by simp)) gl.1;have hy:=tm (h y (by simp)) gl.2;have hz:=fun v hv=>G5 (u:=u) (m:=m) (op:=i.n) x.list y.list hy.2 v hv;refine⟨.mk (by omega) (by omega) (by omega) (by omega) (fun _ v hv=>(hz v hv).2) ?_ (by simp) (fun v hv=>(hz v hv).1),by simp⟩;show(kY i.n x.list y.list).length<=1000;rw[xj];omega
structure dY(u:bY)(m:Mach)(r:Mach×SV×Int):Prop where
 frames:r.1.frames=m.frames
 mi:∀a∈m.heap,∃b∈r.1.heap,b.l8=a.l8
 val:gH u r.1 r.2.1
 ML:0<=r.2.2∧r.2.2<=6
 ig:∀a∈r.1.heap,a.l.length<=1024∧∀v∈a.l,gH u r.1 v
 left:0<=r.1.left∧r.1.left<=m.left
 out:r.1.out.length<=1000
 words:∀n∈r.1.out,fU n
 fin:r.1.fin=m.fin∧r.1.val=m.val
 over:r.1.over=false->m.over=false∧r.1.short=false
theorem dY.same{u:bY}{m:Mach}(hm:bR u m){v:SV}{t:Int}(hv:gH u m v)(ht:0<=t∧t<=6):dY u m (m,v,t) where
 frames:=rfl
 mi:=fun a ha=>⟨a,ha,rfl⟩
 val:=hv
 ML:=ht
 ig:=hm.ig
 left:=⟨hm.left,Int.le_refl _⟩
 out:=hm.out
 words:=hm.words
 fin:=⟨rfl,rfl⟩
 over:=fun h=>⟨h,(hm.over h).2⟩
theorem tU:∀(l:List DF) (id:Option Nat) (x:List SV),(∀a∈l,∃b∈Mach.kK l id x,b.l8=a.l8)∧(∀b∈Mach.kK l id x,∃a∈l,a.l8=b.l8∧a.eg=b.eg∧(b=a∨b.l=x))
 | [],_,_=>⟨by simp,by simp[Mach.kK]⟩
 | a::r,id,x=>by
  obtain⟨h1,h2⟩:=tU r id x;unfold Mach.kK;split
  ·exact⟨fun c hc=>by
    rcases List.mem_cons.1 hc with rfl|hc
    ·exact⟨⟨c.l8,c.eg,x⟩,List.mem_cons_self,rfl⟩
    ·exact⟨c,by simp[hc],rfl⟩,fun b hb=>by
    rcases List.mem_cons.1 hb with rfl|hb
    ·exact⟨a,by simp,rfl,rfl,.inr rfl⟩
    exact⟨b,by simp[hb],rfl,rfl,.inl rfl⟩⟩
  exact⟨fun c hc=>by
   rcases List.mem_cons.1 hc with rfl|hc
   ·exact⟨_,by simp,rfl⟩
   ·obtain⟨b,hb,e⟩:=h1 c hc;exact⟨b,by simp[hb],e⟩,fun b hb=>by
   rcases List.mem_cons.1 hb with rfl|hb
   ·exact⟨b,by simp,rfl,rfl,.inl rfl⟩
   obtain⟨c,hc,e⟩:=h2 b hb;exact⟨c,by simp[hc],e⟩⟩
theorem pt:∀(l:List DF) (id:Nat),(∃a∈l,a.l8=id)->∃a∈l,a.l8=id∧Mach.iW l (some id)=a.l
 | [],_,h=>by simp at h
 | a::r,id,h=>by
  unfold Mach.iW;by_cases e:id=a.l8
  ·exact⟨a,by simp,e.symm,by simp[e]⟩
  obtain⟨b,hb,hv⟩:=h;rcases List.mem_cons.1 hb with rfl|hb
  ·exact absurd hv.symm e
  obtain⟨c,hc,h1,h2⟩:=pt r id ⟨b,hb,hv⟩;exact⟨c,by simp[hc],h1,by simp[e,h2]⟩
theorem Jw{u:bY}{m:Mach}(hm:bR u m){v:SV}(hv:gH u m v)(hk:v.kind=3):∃a∈m.heap,v.arr=some a.l8∧Mach.iW m.heap v.arr=a.l:=by
 obtain⟨id,e⟩:=SV.Wf.array hv hk;obtain⟨a,ha,h1,h2⟩:=pt m.heap id (SV.Wf.ref hv id e);exact⟨a,ha,by rw[h1];exact e,by rw[e];exact h2⟩
theorem gW(m:Mach)(n:Int):(m.cU n).frames=m.frames∧(m.cU n).heap=m.heap∧(m.cU n).out=m.out∧(m.cU n).fin=m.fin∧(m.cU n).val=m.val∧(m.cU n).sid=m.sid∧(m.cU n).next=m.next:=by
 unfold Mach.cU;split<;>simp
theorem LG{m:Mach}{n:Int}(h:0<=m.left)(hn:0<=n):0<=(m.cU n).left∧(m.cU n).left<=m.left:=by
 unfold Mach.cU;split<;>simp<;>omega
theorem Br{u:bY}{m:Mach}(hm:bR u m){x y:SV}(hy:gH u m y):dY u m (m.bA x y):=by
 obtain⟨p1,p2,p3,p4,p5,p6,p7⟩:=gW m x.n;unfold Mach.bA;split
 ·exact dY.same hm gH.zero (by omega)
 split
 ·exact dY.same hm gH.zero (by omega)
 rename_i hx hr;have EX:0<=x.n∧x.n<=1024:=by omega
 obtain⟨q1,q2⟩:=LG hm.left EX.1;split
 ·rename_i hs;exact⟨p1,fun a ha=>⟨a,by rw[p2];exact ha,rfl⟩,gH.zero,by simp,fun a ha=>by
   have Ja:a∈m.heap:=p2 ▸ ha;exact⟨(hm.ig a Ja).1,fun v hv=>((hm.ig a Ja).2 v hv).of_heap p2⟩,⟨q1,q2⟩,by rw[p3];exact hm.out,by rw[p3];exact hm.words,⟨p4,p5⟩,fun h=>by
   exfalso;unfold Mach.cU at hs h;split at hs
   ·rename_i bg;rw[if_pos bg]at h;cases h
   rename_i bg;rw[if_neg bg]at h;have:=(hm.over h).2;simp only at hs;rw[this]at hs;cases hs⟩
 rename_i hs;refine⟨p1,fun a ha=>⟨a,by simp[ha],rfl⟩,?_,by simp,fun a ha=>?_,⟨q1,q2⟩,by simp only[p3];exact hm.out,by simp only[p3];exact hm.words,⟨p4,p5⟩,fun h=>⟨?_,by simpa using hs⟩⟩
 ·exact .mk (by omega) (by omega) (by omega) (fun _=>⟨_,rfl⟩) (by omega) (by simp) (fun id e=>by
   simp only[Option.some.injEq]at e;exact⟨_,List.mem_append_right _ (List.mem_singleton.2 rfl),e⟩) (by simp)
 ·have hk:∀v,gH u m v->gH u ({ m.cU x.n with heap:=m.heap++[⟨m.next+8,m.next+7,List.replicate x.n.toNat y⟩],next:=m.next+9 }:Mach) v:=fun v hv=>hv.mono fun b hb=>⟨b,by simp[hb],rfl⟩
  simp only[List.mem_append,List.mem_singleton]at ha;rcases ha with ha|rfl
  ·exact⟨(hm.ig a ha).1,fun v hv=>hk v ((hm.ig a ha).2 v hv)⟩
  refine⟨by simp;omega,fun v hv=>?_⟩;rw[(List.mem_replicate.1 hv).2];exact hk y hy
 simp only at h;unfold Mach.cU at h;split at h
 ·cases h
 exact h
theorem yu{u:bY}{m:Mach}(hm:bR u m){i:Ins}{args:List SV}(h:∀v∈args,gH u m v):dY u m (m.effect i args):=by
 have w0:fU 0:=by unfold fU;omega
 have h0:=jf h 0;have h1:=jf h 1;have h2:=jf h 2;unfold Mach.effect;split
 ·split
  ·exact dY.same hm gH.zero (by omega)
  split
  ·exact dY.same hm gH.zero (by omega)
  rename_i hk hl;refine⟨rfl,fun a ha=>⟨a,ha,rfl⟩,gH.word w0,by simp,fun a ha=>⟨(hm.ig a ha).1,fun v hv=>((hm.ig a ha).2 v hv).of_heap rfl⟩,⟨hm.left,Int.le_refl _⟩,?_,fun n hn=>?_,⟨rfl,rfl⟩,fun h=>⟨h,(hm.over h).2⟩⟩
  ·have:=hm.out;simp;omega
  simp only[List.mem_append,List.mem_singleton]at hn;rcases hn with hn|rfl
  ·exact hm.words n hn
  exact SV.Wf.num h0 (.inl (by omega))
 split
 ·exact Br hm h1
 split
 ·split
  ·exact dY.same hm gH.zero (by omega)
  split
  ·exact dY.same hm gH.zero (by omega)
  exact dY.same hm (gH.word w0) (by omega)
 split
 ·exact dY.same hm gH.zero (by omega)
 rename_i hk;obtain⟨a,ha,e1,e2⟩:=Jw hm h0 (by omega);rw[e2];have lK:=(hm.ig a ha).1;split
 ·exact dY.same hm (gH.word (by unfold fU;omega)) (by omega)
 split
 ·exact dY.same hm gH.zero (by omega)
 split
 ·exact dY.same hm (jf (hm.ig a ha).2 _) (by omega)
 obtain⟨s1,s2⟩:=tU m.heap (b8 args 0).arr (a.l.set (b8 args 1).n.toNat (b8 args 2));have Gy:∀v,gH u m v->gH u ({ m with heap:=Mach.kK m.heap (b8 args 0).arr (a.l.set (b8 args 1).n.toNat (b8 args 2)) }:Mach) v:=fun v hv=>hv.mono s1;refine⟨rfl,s1,gH.word w0,by simp,fun b hb=>?_,⟨hm.left,Int.le_refl _⟩,hm.out,hm.words,⟨rfl,rfl⟩,fun h=>⟨h,(hm.over h).2⟩⟩;obtain⟨c,hc,_,_,e⟩:=s2 b hb;rcases e with e|e
 ·rw[e];exact⟨(hm.ig c hc).1,fun v hv=>Gy v ((hm.ig c hc).2 v hv)⟩
 rw[e];refine⟨by simpa using lK,fun v hv=>Gy v ?_⟩;rcases List.mem_or_eq_of_mem_set hv with q|q
 ·exact(hm.ig a ha).2 v q
 rw[q];exact h2
theorem uG{u:bY}{m:Mach}(hm:bR u m){i:Ins}(hi:Jp u i){args:List SV}(hl:args.length=i.args.length)(h:∀v∈args,gH u m v):dY u m (m.exec i args):=by
 have h0:=jf h 0;unfold Mach.exec;split
 ·exact dY.same hm (gH.word (hi.c0 (by assumption))) (by omega)
 split
 ·split
  ·exact dY.same hm gH.zero (by omega)
  rename_i ho hk;have cz:lf args 0=true:=by simpa using hk
  have Bi:=hi.c2 (.inl ho);have Zq:b8 args 1∈args:=by
   unfold b8;rw[List.getElem?_eq_getElem (by omega)];exact List.getElem_mem _
  simp only[lf,List.all_eq_true,decide_eq_true_eq]at cz;obtain⟨⟨n,q1,q2⟩,q3⟩:=rh i.op (b8 args 0).n (b8 args 1).n (SV.Wf.num (h _ Zq) (.inl (cz _ Zq)));have:df i.op (b8 args 0).n (b8 args 1).n=(.word n,(df i.op (b8 args 0).n (b8 args 1).n).2):=by rw[<-q2]
  rw[this];exact dY.same hm (gH.word q1) q3
 split
 ·rename_i ho;exact dY.same hm (.mk (by omega) (fun _=>(hi.Un ho).1) (by omega) (by omega) (by omega) (by have:=(hi.Un ho).2;omega) (by simp) h) (by omega)
 split
 ·rename_i ho;obtain⟨c1,c2,c3⟩:=hi.Xn ho;exact dY.same hm (.mk (by omega) (by omega) (fun _=>⟨c1,c2⟩) (by omega) (by omega) (by omega) (by simp) h) (by omega)
 split
 ·obtain⟨q1,q2⟩:=wD (i:=i) h;exact dY.same hm q1 q2
 split
 ·rename_i ho;obtain⟨q1,q2⟩:=xg (i:=i) h (fun e=>by have:=hi.pack e;omega) (fun e1 e2=>by
   have:=hi.c2 (by omega)
   match args,hl with
   | [x,y],_=>exact⟨x,y,rfl⟩
   | [],hl=>simp at hl;omega
   | [x],hl=>simp at hl;omega
   | x::y::z::r,hl=>simp at hl;omega)
  exact dY.same hm q1 q2
 split
 ·exact dY.same hm h0 (by omega)
 exact yu hm h
end Go.Proofs.YtjdnhamngpafmaaGreat
