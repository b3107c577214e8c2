/-
  Texts bound together by a program of mine: YtkkookchlddbkaaGreatT341, YtkkookchlddbkaaGreatVMb, YtkkookchlddbkaaGreatVMc, YtkkookchlddbkaaGreatVM6, YtkkookchlddbkaaGreatVMd, YtkkookchlddbkaaGreatT344, YtkkookchlddbkaaGreatT345, YtkkookchlddbkaaGreatT349, YtkkookchlddbkaaGreatT350, YtkkookchlddbkaaGreatT351, YtkkookchlddbkaaGreatT352, YtkkookchlddbkaaGreatT353, YtkkookchlddbkaaGreatT354, YtkkookchlddbkaaGreatVMe, YtkkookchlddbkaaGreatVMh, YtkkookchlddbkaaGreatT357, YtkkookchlddbkaaGreatT358, YtkkookchlddbkaaGreatVMi, YtkkookchlddbkaaGreatVMj, YtkkookchlddbkaaGreatT361, YtkkookchlddbkaaGreatT362.
-/
import Derived.Test.YtkkookchlddbkaaGreatA5
set_option linter.all false
set_option maxRecDepth 100000
set_option maxHeartbeats 4000000

namespace Go.Proofs.YtkkookchlddbkaaGreat.V
open Go.Av
theorem Ah{f:oc}{rows:List a8}{paths:List (List Int)}{c:Nat}:∀(l:List fa) (a:(List ByteArray×List Int)×BS),(l.foldl (cH f rows paths c) a).1.1.length<=a.1.1.length+l.length∧(l.foldl (cH f rows paths c) a).1.2.length<=a.1.2.length+l.length
 | [],a=>⟨Nat.le_refl _,Nat.le_refl _⟩
 | r::l,a=>by
  rw[List.foldl_cons];have ih:=Ah (f:=f) (rows:=rows) (paths:=paths) (c:=c) l (cH f rows paths c a r);have hs:(cH f rows paths c a r).1.1.length<=a.1.1.length+1∧(cH f rows paths c a r).1.2.length<=a.1.2.length+1:=by
   unfold cH;split
   ·simp
   exact⟨by omega,by omega⟩
  simp only[List.length_cons];exact⟨by omega,by omega⟩
def qR(cm:ae)(q:List Int)(A:(List ByteArray×List Int)×BS):List ay :=
 [.cells [cm,.aC 6 (A.2.outs.map bc.enc) (.tok 1),.v (.int .i64 A.2.many),.v (.bool A.2.full)],.spare A.2.outs.length,.gone,.cells [aI 2,aI 0,.aC 1 (q.map aI) .sh,.aC 1 (A.1.1.map nS) (.tok 4),.aC 1 [] .ex,.aC 1 (A.1.2.map aI) (.tok 5)],.spare A.1.1.length,.spare A.1.2.length]
abbrev oy(rows:List a8)(paths:List (List Int))(c:Nat)(d:Data)(k:Nat):List (Nat×ae):=[(0,.mp 0 0),(1,eM rows),(2,xn paths),(7,.ip none [aI c]),(8,.mp 3 0),(9,.ip none [.v (.string d.name),.v (.int .i64 d.params),.aC 2 (d.cons.map fa.enc) .sh]),(96,.aC 2 (d.cons.map fa.enc) .sh),(97,aI d.cons.length),(98,aI k)]
theorem BX{t:bF}{fu:Nat}(ih:qK t fu){rows:List a8}{r0:a8}{p:Pat}{paths:List (List Int)}{tys:List Ty}{c:Nat}{s:BS}(cX:tU t rows paths tys)(hs:mb s)(FD:kU rows<=fu)(PF:fu<=1000)(hl:∀s d,bw t s=some d->d.cons.length<=256)(pQ:rows[0]?=some r0)(hn:s.count.full=false)(hi:r0.bP.findIdx? (fun p=>!p.free)=some c)(hp:r0.bP[c]?=some p)(hk:p.kind≠2)(cx:p.free=false){d:Data}(hd:bw t p.name=some d) :
  aY Tryz.prog 15 (s.objs (lN t)) [.mp 0 0,eM rows,xn paths] fun r O'=>r=aI (rb (bm (bw t) fu) d rows paths c s.count).1∧O'=(rb (bm (bw t) fu) d rows paths c s.count).2.objs (lN t):=by
 have rC:=hs.many;have Cz:((s.many+1:Nat):Int)=(s.many:Int)+1:=by omega
 obtain⟨g1,g2,g3,g4⟩:=yy pQ hs hn;have kP:=BS.g7 hs.full hn;have HO:idx (fun p:Pat=>!p.free) r0.bP=c:=by
  unfold idx;rw[hi]
 obtain⟨i,F,hc,ha,VA,K,hf,Wl⟩:∃i F,tys[c]?=some (.data i F)∧BD rows c∧t.datas[i]?=some d∧∃K,find t.cons p.name=some K∧eF t.datas K.data=d:=by
  obtain⟨ty,h1,h2,h3⟩:=cX.column (List.mem_of_getElem? pQ) hp cx;rcases h3 with⟨k2,_⟩|⟨_,i,F,d',K,e,hf,hK,rz,rB⟩
  ·exact absurd k2 hk
  rw[hd]at rB;cases rB;rw[e]at h1;refine⟨i,F,h1,h2,rz,K,hf,?_⟩;unfold eF;rw[hK,rz];rfl
 have tJ:=(List.getElem?_eq_some_iff.1 hc).1;have hlen:=cX.len;have OK:=cX.wide;obtain⟨q,hq⟩:∃q,paths[c]?=some q:=⟨paths[c]'(by omega),by simp⟩
 have Sq:=cX.jz q (List.mem_of_getElem? hq);have hN:=cX.m.nodes;have rq:=cX.m.len;have Vx:=hl _ _ hd;have AK:=hs.count hn;have HN:s.count.many<=4096:=by rw[BS.cM];omega
 have vq:∀k,mb ((d.cons.take k).foldl (cH (bm (bw t) fu) rows paths c) (([],[]),s.count)).2:=fun k=>by
  refine AK.yZ (jL (dT hl fu) rq (d.cons.take k) (([],[]),s.count) s.count 0 (dr.start AK.full _)) HN ?_;simp only[List.length_take];omega
 have xw:∀k,((d.cons.take k).foldl (cH (bm (bw t) fu) rows paths c) (([],[]),s.count)).1.1.length<=256∧((d.cons.take k).foldl (cH (bm (bw t) fu) rows paths c) (([],[]),s.count)).1.2.length<=256:=fun k=>by
  have:=Ah (f:=bm (bw t) fu) (rows:=rows) (paths:=paths) (c:=c) (d.cons.take k) (([],[]),s.count);simp only[List.length_take,List.length_nil]at this;exact⟨by omega,by omega⟩
 have h0:¬((c:Int)<0):=by omega
 unfold rb;simp only[BS.objs,hq,Option.getD_some];have P2:qR (lN t) q ((d.cons.take 0).foldl (cH (bm (bw t) fu) rows paths c) (([],[]),s.count))=[.cells [lN t,.aC 6 (s.outs.map bc.enc) (.tok 1),.v (.int .i64 ((s.many:Int)+1)),.v (.bool false)],.spare s.outs.length,.gone,.cells [aI 2,aI 0,.aC 1 (q.map aI) .sh,.aC 1 [] (.tok 4),.aC 1 [] .ex,.aC 1 [] (.tok 5)],.spare 0,.spare 0]:=by
  simp only[List.take_zero,List.foldl_nil,qR,BS.dz,BS.cM,hn,Cz];rfl
 refine zf true 2 Tryz.func15 Tryz.ntmps15 ?_;dsimp only[Tmp,TypeId,ax];refine aH ?_;simp -dsimp only[simprocAttr,↓aa,aE]
 (refine I ?_;simp -dsimp only[ai,ne_eq,Nat.reduceEqDiff,reduceCtorEq])
 refine aH ?_;simp -dsimp only[simprocAttr,↓aa,aE];refine⟨by omega,by omega,?_⟩
 (refine I ?_;simp -dsimp only[ai,ne_eq,Nat.reduceEqDiff,reduceCtorEq])
 refine aH ?_;simp -dsimp only[simprocAttr,↓aa,aE,g1,g3]
 (refine I ?_;simp -dsimp only[ai,ne_eq,Nat.reduceEqDiff,reduceCtorEq])
 refine cg ?_;simp -dsimp only[simprocAttr,↓aa,aE,g4]
 (refine I ?_;simp -dsimp only[ai,ne_eq,Nat.reduceEqDiff,reduceCtorEq])
 apply aQ rfl<;>intro h
 ·cases h
 (refine au ?_;simp -dsimp only[ai,ne_eq,Nat.reduceEqDiff,reduceCtorEq])
 refine aH ?_;simp -dsimp only[simprocAttr,↓aa,aE,pQ];refine .inl ⟨_,(jx (fun p=>!p.free) 36 [] [] [] (by simp) r0.bP (fun p _=>ox p)),by simp only[aq,ae.upto,zt,iF],ah ?_⟩;simp -dsimp only[simprocAttr,↓aa,aE,HO]
 (refine I ?_;simp -dsimp only[ai,ne_eq,Nat.reduceEqDiff,reduceCtorEq])
 refine aR 7 2 (.ip none [aI c]) rfl (by simp[ay.aP]) trivial rfl ?_ ?_;rotate_left;simp -dsimp only[simprocAttr,↓aa,aE]
 ·refine cg ?_;simp -dsimp only[simprocAttr,↓aa,aE]
  (refine I ?_;simp -dsimp only[ai,ne_eq,Nat.reduceEqDiff,reduceCtorEq])
  apply aQ rfl<;>intro h
  ·simp at h;omega
  (refine au ?_;simp -dsimp only[ai,ne_eq,Nat.reduceEqDiff,reduceCtorEq])
  refine cg ?_;simp -dsimp only[simprocAttr,↓aa,aE,pQ,hp];refine⟨ob (by kernel_rfl),?_⟩
  (refine I ?_;simp -dsimp only[ai,ne_eq,Nat.reduceEqDiff,reduceCtorEq])
  apply aQ rfl<;>intro h
  ·simp[hk]at h
  (refine au ?_;simp -dsimp only[ai,ne_eq,Nat.reduceEqDiff,reduceCtorEq])
  refine aH ?_;simp -dsimp only[simprocAttr,↓aa,aE,hq]
  (refine I ?_;simp -dsimp only[ai,ne_eq,Nat.reduceEqDiff,reduceCtorEq])
  refine gZ 3 3 rfl rfl ?_;simp -dsimp only[simprocAttr,↓aa,aE];refine gZ 3 5 rfl rfl ?_;simp -dsimp only[simprocAttr,↓aa,aE];have TX:lN t=.im .str (t.cons.map (fQ t.datas)):=rfl;refine aH ?_;simp -dsimp only[simprocAttr,↓aa,aE,pQ,hp,TX,ua,hf,Option.map_some,Option.getD_some,Wl];refine⟨ob (by kernel_rfl),?_⟩
  (refine I ?_;simp -dsimp only[ai,ne_eq,Nat.reduceEqDiff,reduceCtorEq])
  refine cg ?_;simp -dsimp only[simprocAttr,↓aa,aE]
  (refine I ?_;simp -dsimp only[ai,ne_eq,Nat.reduceEqDiff,reduceCtorEq])
  refine aj (aO (ι:={k:Nat // k<=d.cons.length}) (fun k=>⟨157,oy rows paths c d k.1,qR (lN t) q ((d.cons.take k.1).foldl (cH (bm (bw t) fu) rows paths c) (([],[]),s.count))⟩) (fun k=>d.cons.length-k.1) ⟨0,by omega⟩ ?_ ?_)
  ·refine zq rfl ?_ ?_;simp -dsimp only[simprocAttr,↓aa,aE,zc];exact P2.symm
  rintro⟨k,hk⟩;have eo:=vq k;have hle:=xw k;simp only[qR,oy];generalize hA:(d.cons.take k).foldl (cH (bm (bw t) fu) rows paths c) (([],[]),s.count)=A at eo hle;refine aH ?_;simp -dsimp only[simprocAttr,↓aa,aE]
  (refine I ?_;simp -dsimp only[ai,ne_eq,Nat.reduceEqDiff,reduceCtorEq])
  apply gr rfl<;>intro h
  ·(refine au ?_;simp -dsimp only[ai,ne_eq,Nat.reduceEqDiff,reduceCtorEq])
   have aN:k<d.cons.length:=by simpa using h
   obtain⟨x,hx⟩:∃x,d.cons[k]?=some x:=⟨d.cons[k],by simp[aN]⟩
   have eN:=List.mem_of_getElem? hx;have oL:(d.cons.take (k+1)).foldl (cH (bm (bw t) fu) rows paths c) (([],[]),s.count)=cH (bm (bw t) fu) rows paths c A x:=by
    rw[bN hx,List.foldl_append,hA];rfl
   refine aG (aj ?_);refine aH ?_;simp -dsimp only[simprocAttr,↓aa,aE,hx]
   (refine I ?_;simp -dsimp only[ai,ne_eq,Nat.reduceEqDiff,reduceCtorEq])
   refine aR 11 6 (.ip none x.enc.cells) rfl (by simp[ay.aP]) trivial rfl ?_ ?_;rotate_left;simp -dsimp only[simprocAttr,↓aa,aE]
   ·refine aH ?_;simp -dsimp only[simprocAttr,↓aa,aE]
    (refine I ?_;simp -dsimp only[ai,ne_eq,Nat.reduceEqDiff,reduceCtorEq])
    refine aR 12 7 (.ip none [.fn (.func 39) [] [.ip none x.enc.cells]]) rfl (by simp[ay.aP]) trivial rfl ?_ ?_;rotate_left;simp -dsimp only[simprocAttr,↓aa,aE]
    ·have lG:=E5 c none none (fun p=>decide (p.name=x.name)) 39 [.ip none [.v (.string x.name),.aC 4 (x.args.map Pat.enc) .sh]] rfl (fun n=>by simp[aq,ae.upto,Pat.an]) rows (cX.m.wide tJ) (fun r _ p _=>sW p x.name _ none);refine aH ?_;simp -dsimp only[simprocAttr,↓aa,aE];refine .inl ⟨_,lG,by simp only[aq,ae.upto,zt,iF],ah ?_⟩;simp -dsimp only[simprocAttr,↓aa,aE]
     (refine I ?_;simp -dsimp only[ai,ne_eq,Nat.reduceEqDiff,reduceCtorEq])
     apply aQ rfl<;>intro h
     ·have PO:=nx rows c x.args.length (fun p=>decide (p.name=x.name)) 39 [.ip none [.v (.string x.name),.aC 4 (x.args.map Pat.enc) .sh]] rfl (fun n=>by simp[aq,ae.upto,Pat.an]) (by omega) (by have:=(cX.gu hc VA eN h).2.1;omega) (cX.m.wide tJ) (fun r hr=>by have:=(cX.m.typed r hr).len;omega) (fun r hr p hp=>by have:=hN r hr p hp;rw[Pat.fX]at this;have:=iY p.args;omega) (fun r _ p _=>sW p x.name _ none);obtain⟨_,Pk,sb,On⟩:=cX.gu hc VA eN h;have hb:=ih _ _ _ A.2 sb eo (by omega);have HD:bR paths c x.args.length=paths.take c++paths.drop (c+1)++qE q x.args.length:=by
       unfold bR;rw[hq];rfl
      have he:cH (bm (bw t) fu) rows paths c A x=((A.1.1++[x.name],A.1.2++[(bm (bw t) fu (aW c (fun p=>decide (p.name=x.name)) x.args.length rows) (bR paths c x.args.length) A.2).1]),(bm (bw t) fu (aW c (fun p=>decide (p.name=x.name)) x.args.length rows) (bR paths c x.args.length) A.2).2):=by
       unfold cH;rw[if_pos h]
      have rD:=vq (k+1);rw[oL,he]at rD;generalize hR:bm (bw t) fu (aW c (fun p=>decide (p.name=x.name)) x.args.length rows) (bR paths c x.args.length) A.2=R at hb he rD;have fk:=c6 t A.2;have gz:=c6 t R.2;simp only[BS.objs]at hb fk gz;refine aH ?_;simp -dsimp only[simprocAttr,↓aa,aE];refine⟨by omega,by omega,?_⟩
      (refine I ?_;simp -dsimp only[ai,ne_eq,Nat.reduceEqDiff,reduceCtorEq])
      refine fq ?_;simp -dsimp only[simprocAttr,↓aa,aE];refine .inl ⟨_,PO,by simp only[aq,ae.upto,zt,iF],ah ?_⟩;simp -dsimp only[simprocAttr,↓aa,aE];refine .inl ⟨_,p8 paths c x.args.length q hq Sq.1 (by omega) (by omega) (by omega),by simp only[aq,ae.upto,zt,iF],ah ?_⟩;simp -dsimp only[simprocAttr,↓aa,aE,<-HD];refine .inr (.inl ⟨_,_,aY.frame hb rfl (by simp[aq,ae.upto,a8.an,gM]) fk [.gone,.cells [aI 2,aI 0,.aC 1 (q.map aI) .sh,.aC 1 (A.1.1.map nS++[nS x.name]) (.tok 4),.aC 1 [] .ex,.aC 1 (A.1.2.map aI) (.tok 5)],.spare (A.1.1.length+1),.spare A.1.2.length,.gone,.gone],.inr ⟨_,_,gm (O:=[_,_]) (O':=[_,_]) (X:=[.gone,.cells [aI 2,aI 0,.aC 1 (q.map aI) .sh,.aC 1 (A.1.1.map nS++[nS x.name]) (.tok 4),.aC 1 [] .ex,.aC 1 (A.1.2.map aI) (.tok 5)],.spare (A.1.1.length+1),.spare A.1.2.length,.gone,.gone]) rfl,ah ?_⟩⟩);simp -dsimp only[simprocAttr,↓aa,aE];refine⟨by omega,by omega,?_⟩;refine⟨ob (by kernel_rfl),?_⟩
      (refine I ?_;simp -dsimp only[ai,ne_eq,Nat.reduceEqDiff,reduceCtorEq])
      refine ba 6 (oy rows paths c d k) (by simp) (by omega) (qR (lN t) q ((A.1.1++[x.name],A.1.2++[R.1]),R.2)) ?_ ?_ ?_ ?_ ?_
      ·simp[qR]
      ·simp[qR,ay.upto,aq,ae.upto,fE,bc.an,aL,pv,-List.map_append]
      ·simp -dsimp only[simprocAttr,↓aa,aE,oy,dy,exists_eq_left',Option.some.injEq,sub_self,and_true]
      ·simp[oy,ae.upto,aq,a8.an,gM,fa.an]
      refine fq ?_;simp -dsimp only[simprocAttr,↓aa,aE]
      repeat(refine⟨by omega,?_⟩)
      (refine I ?_;simp -dsimp only[ai,ne_eq,Nat.reduceEqDiff,reduceCtorEq])
      refine⟨⟨k+1,aN⟩,by simp;omega,?_⟩;refine zq rfl ?_ ?_;simp -dsimp only[simprocAttr,↓aa,aE,zc]
      ·exact Sub.int (by simp)
      rw[oL,he];rfl
     have he:cH (bm (bw t) fu) rows paths c A x=A:=by
      unfold cH;rw[if_neg (by rw[h];simp)]
     (refine au ?_;simp -dsimp only[ai,ne_eq,Nat.reduceEqDiff,reduceCtorEq])
     refine ba 6 (oy rows paths c d k) (by simp) (by omega) (qR (lN t) q A) ?_ ?_ ?_ ?_ ?_
     ·rfl
     ·simp[qR,ay.upto,aq,ae.upto,fE,bc.an,aL,pv]
     ·simp -dsimp only[simprocAttr,↓aa,aE,oy,dy,exists_eq_left',Option.some.injEq,sub_self,and_true]
     ·simp[oy,ae.upto,aq,a8.an,gM,fa.an]
     refine fq ?_;simp -dsimp only[simprocAttr,↓aa,aE]
     repeat(refine⟨by omega,?_⟩)
     (refine I ?_;simp -dsimp only[ai,ne_eq,Nat.reduceEqDiff,reduceCtorEq])
     refine⟨⟨k+1,aN⟩,by simp;omega,?_⟩;refine zq rfl ?_ ?_;simp -dsimp only[simprocAttr,↓aa,aE,zc]
     ·exact Sub.int (by simp)
     rw[oL,he];rfl
    exact da.mp rfl rfl
   exact da.mp rfl rfl
  refine aM ?_;simp -dsimp only[ai,ne_eq,Nat.reduceEqDiff,reduceCtorEq];have gg:k=d.cons.length:=by simp at h;omega
  subst gg;rw[List.take_length]at hA;rw[hA];refine aH ?_;simp -dsimp only[simprocAttr,↓aa,aE]
  (refine I ?_;simp -dsimp only[ai,ne_eq,Nat.reduceEqDiff,reduceCtorEq])
  refine cg ?_;simp -dsimp only[simprocAttr,↓aa,aE];refine⟨ob (by kernel_rfl),?_⟩
  (refine I ?_;simp -dsimp only[ai,ne_eq,Nat.reduceEqDiff,reduceCtorEq])
  apply aQ rfl<;>intro h
  ·have aN:A.1.1.length<d.cons.length:=by simpa using h
   rw[if_pos aN];have hb:=vE ih cX hc ha eo FD;have hm:=l5 (paths:=paths) (c:=c) (dT hl fu) rq (jL (dT hl fu) rq (paths:=paths) (c:=c) d.cons (([],[]),s.count) s.count 0 (dr.start AK.full _));rw[hA]at hm;have rD:=AK.yZ hm HN (by omega);generalize hR:mq (bm (bw t) fu) rows paths c A.2=R at hb rD ⊢;have fk:=c6 t A.2;have gz:=c6 t R.2;simp only[BS.objs]at hb fk gz;refine fq ?_;simp -dsimp only[simprocAttr,↓aa,aE];refine .inr (.inl ⟨_,_,aY.frame hb rfl (by simp[aq,ae.upto,a8.an,gM]) fk [.gone,.cells [aI 2,aI 0,.aC 1 (q.map aI) .sh,.aC 1 (A.1.1.map nS) (.tok 4),.aC 1 [] .ex,.aC 1 (A.1.2.map aI) (.tok 5)],.spare A.1.1.length,.spare A.1.2.length],.inr ⟨_,_,gm (O:=[_,_]) (O':=[_,_]) (X:=[.gone,.cells [aI 2,aI 0,.aC 1 (q.map aI) .sh,.aC 1 (A.1.1.map nS) (.tok 4),.aC 1 [] .ex,.aC 1 (A.1.2.map aI) (.tok 5)],.spare A.1.1.length,.spare A.1.2.length]) rfl,ah ?_⟩⟩);simp -dsimp only[simprocAttr,↓aa,aE]
   (refine I ?_;simp -dsimp only[ai,ne_eq,Nat.reduceEqDiff,reduceCtorEq])
   refine aH ?_;simp -dsimp only[simprocAttr,↓aa,aE];refine⟨by omega,by omega,?_⟩
   (refine I ?_;simp -dsimp only[ai,ne_eq,Nat.reduceEqDiff,reduceCtorEq])
   refine aR 8 3 (.ip none (bc.enc ⟨2,0,q,A.1.1,[],A.1.2++[R.1]⟩).cells) rfl (by simp[ay.aP]) trivial rfl ?_ ?_;rotate_left;simp -dsimp only[simprocAttr,↓aa,aE]
   ·have gl:=mM (lN t) (fE t 2) R.2 ⟨2,0,q,A.1.1,[],A.1.2++[R.1]⟩ (mb.outs rD);have kr:=c6 t ((R.2).add ⟨2,0,q,A.1.1,[],A.1.2++[R.1]⟩).2;generalize hZ:BS.add R.2 ⟨2,0,q,A.1.1,[],A.1.2++[R.1]⟩=Z at gl kr;simp only[BS.objs]at gl kr;refine aH ?_;simp -dsimp only[simprocAttr,↓aa,aE];refine .inr (.inl ⟨_,_,aY.frame gl rfl (by simp[aq,ae.upto,bc.aF]) gz [.gone,.gone,.spare A.1.1.length,.spare (A.1.2.length+1)],.inr ⟨_,_,gm (O:=[_,_]) (O':=[_,_]) (X:=[.gone,.gone,.spare A.1.1.length,.spare (A.1.2.length+1)]) rfl,ah ?_⟩⟩);simp -dsimp only[simprocAttr,↓aa,aE]
    (refine I ?_;simp -dsimp only[ai,ne_eq,Nat.reduceEqDiff,reduceCtorEq])
    refine ak ?_;simp -dsimp only[simprocAttr,↓aa,aE,zr,Tryz.results15,hZ];exact kr
   exact da.mp rfl (by rw[List.drop_zero];simp only[bc.al,List.map_append];rfl)
  have aN:¬A.1.1.length<d.cons.length:=by simpa using h
  rw[if_neg aN];have gz:=c6 t A.2;simp only[BS.objs]at gz
  (refine au ?_;simp -dsimp only[ai,ne_eq,Nat.reduceEqDiff,reduceCtorEq])
  refine aH ?_;simp -dsimp only[simprocAttr,↓aa,aE];refine⟨by omega,by omega,?_⟩
  (refine I ?_;simp -dsimp only[ai,ne_eq,Nat.reduceEqDiff,reduceCtorEq])
  refine aR 8 3 (.ip none (bc.enc ⟨2,0,q,A.1.1,[],A.1.2++[-1]⟩).cells) rfl (by simp[ay.aP]) trivial rfl ?_ ?_;rotate_left;simp -dsimp only[simprocAttr,↓aa,aE]
  ·have gl:=mM (lN t) (fE t 2) A.2 ⟨2,0,q,A.1.1,[],A.1.2++[-1]⟩ (mb.outs eo);have kr:=c6 t ((A.2).add ⟨2,0,q,A.1.1,[],A.1.2++[-1]⟩).2;generalize hZ:BS.add A.2 ⟨2,0,q,A.1.1,[],A.1.2++[-1]⟩=Z at gl kr;simp only[BS.objs]at gl kr;refine aH ?_;simp -dsimp only[simprocAttr,↓aa,aE];refine .inr (.inl ⟨_,_,aY.frame gl rfl (by simp[aq,ae.upto,bc.aF]) gz [.gone,.gone,.spare A.1.1.length,.spare (A.1.2.length+1)],.inr ⟨_,_,gm (O:=[_,_]) (O':=[_,_]) (X:=[.gone,.gone,.spare A.1.1.length,.spare (A.1.2.length+1)]) rfl,ah ?_⟩⟩);simp -dsimp only[simprocAttr,↓aa,aE]
   (refine I ?_;simp -dsimp only[ai,ne_eq,Nat.reduceEqDiff,reduceCtorEq])
   refine ak ?_;simp -dsimp only[simprocAttr,↓aa,aE,zr,Tryz.results15,hZ];exact kr
  exact da.mp rfl (by rw[List.drop_zero];simp only[bc.al,List.map_append];rfl)
 exact da.mp rfl rfl
end Go.Proofs.YtkkookchlddbkaaGreat.V
namespace Go.Proofs.YtkkookchlddbkaaGreat.V
inductive jD{α β:Type}(R:α->β->Prop):List α->List β->Prop
 | nil:jD R [] []
 | cons {a:α} {b:β} {l:List α} {m:List β} (h:R a b) (k:jD R l m):jD R (a::l) (b::m)
def nodeAt(L:List bc)(i:Int):Option bc:=if 0<=i then L[i.toNat]? else none
theorem lv(L:List bc)(k:Nat):nodeAt L k=L[k]?:=by
 simp[nodeAt]
theorem l4{L L':List bc}(h:L <+: L'){i:Int}{t:bc}(k:nodeAt L i=some t):nodeAt L' i=some t:=by
 unfold nodeAt at k ⊢;split at k
 ·rename_i h0;rw[if_pos h0];obtain⟨X,rfl⟩:=h;rw[List.getElem?_append_left (List.getElem?_eq_some_iff.1 k).1];exact k
 cases k
theorem ld{L:List bc}{i:Int}{t:bc}(k:nodeAt L i=some t):0<=i∧i<L.length:=by
 unfold nodeAt at k;split at k
 ·rename_i h0;have:=(List.getElem?_eq_some_iff.1 k).1;exact⟨h0,by omega⟩
 cases k
def jJ(t:bF)(u:bc):Prop:=u.kids.length<=1000∧(∀x∈u.path,0<=x) ∧
 ((u.kind=0∧u.row=0∧u.path=[]∧u.names=[]∧u.words=[]∧u.kids=[]) ∨
 (u.kind=1∧0<=u.row∧u.path=[]∧u.names=[]∧u.words=[]∧u.kids=[]) ∨
 (u.kind=2∧u.row=0∧u.words=[]∧u.path≠[]∧u.kids.length=u.names.length+1∧u.names≠[]∧u.names.Nodup∧∃i d,t.datas[i]?=some d∧(∀s∈u.names,∃K,find t.cons s=some K∧K.data=i)∧∀(n:Nat) x,u.kids[n]?=some x->-1<=x∧(x=-1↔n=u.names.length∧u.names.length=d.cons.length)) ∨
 (u.kind=3∧u.row=0∧u.names=[]∧u.path≠[]∧u.kids.length=u.words.length+1∧u.words.Nodup∧(∀w∈u.words,-1073741824<=w∧w<=1073741823)∧∀x∈u.kids,0<=x))
def gX(t:bF)(L:List bc):Prop:=∀(i:Nat) u,L[i]?=some u->(∀y∈u.kids,y<i)∧u.path.length<=2 ^ 19∧jJ t u
theorem gX.add{tb:bF}{s:BS}{t:bc}(h:gX tb s.outs)(ht:∀y∈t.kids,y<s.outs.length)(oM:t.path.length<=2 ^ 19∧jJ tb t):gX tb (s.add t).2.outs:=by
 rcases s.kf t with⟨_,e,_⟩|⟨_,e,_⟩
 ·rw[e];exact h
 rw[e];intro i u hu;simp only at hu;rw[List.getElem?_append]at hu;split at hu
 ·exact h i u hu
 rename_i hi;have hz:i-s.outs.length=0:=by
  have:=(List.getElem?_eq_some_iff.1 hu).1;simp at this;omega
 rw[hz]at hu;simp only[List.getElem?_cons_zero,Option.some.injEq]at hu;subst hu;refine⟨fun y hy=>?_,oM⟩;have:=ht y hy;omega
def dI(c:Nat):List Int->List a8->List Int
 | acc,[]=>acc
 | acc,r::rs=>match r.bP[c]? with
  | none=>dI c acc rs
  | some p=>if p.free || decide (p.n∈acc)then dI c acc rs else dI c (acc++[p.n]) rs
def dM(c:Nat)(rows:List a8)(l:List fa):List fa:=l.filter fun k=>rows.any (a8.has c fun p=>decide (p.name=k.name))
abbrev GI:=List a8->List (List Int)->List bc->Int->Prop
def Q5(f:GI)(rows:List a8)(paths:List (List Int))(c:Nat)(L:List bc)(i:Int):Prop :=
 ∃ks o,nodeAt L i=some ⟨3,0,paths[c]?.getD [],[],dI c [] rows,ks++[o]⟩∧jD (fun w k=>f (aW c (fun q=>decide (q.n=w)) 0 rows) (bR paths c 0) L k) (dI c [] rows) ks∧f (aW c (fun _=>false) 0 rows) (bR paths c 0) L o
def Q4(f:GI)(d:Data)(rows:List a8)(paths:List (List Int))(c:Nat)(L:List bc)(i:Int):Prop :=
 ∃ks o,nodeAt L i=some ⟨2,0,paths[c]?.getD [],(dM c rows d.cons).map fa.name,[],ks++[o]⟩∧jD (fun(x:fa) k=>f (aW c (fun p=>decide (p.name=x.name)) x.args.length rows) (bR paths c x.args.length) L k) (dM c rows d.cons) ks ∧
  if(dM c rows d.cons).length<d.cons.length then f (aW c (fun _=>false) 0 rows) (bR paths c 0) L o else o=-1
def gS(look:ByteArray->Option Data):Nat->GI
 | 0=>fun _ _ _ _=>False
 | fu+1=>fun rows paths L i =>
  match rows with
  | []=>nodeAt L i=some gP
  | r0::_=>match r0.bP.findIdx? (fun p=>!p.free)with
   | none=>nodeAt L i=some ⟨1,r0.ix,[],[],[],[]⟩
   | some c=>match r0.bP[c]? with
    | none=>False
    | some p=>if p.kind=2 then Q5 (gS look fu) rows paths c L i
     else match look p.name with
      | none=>False
      | some d=>Q4 (gS look fu) d rows paths c L i
def GI.Tw(f:GI):Prop:=∀rows paths L L' i,L <+: L'->f rows paths L i->f rows paths L' i
theorem fF{α β:Type}{R S:α->β->Prop}(h:∀a b,R a b->S a b):∀{l:List α} {m:List β},jD R l m->jD S l m
 | _,_,.nil=>.nil
 | _,_,.cons a b=>.cons (h _ _ a) (fF h b)
theorem ju{α β:Type}{R:α->β->Prop}:∀{l l':List α} {m m':List β},jD R l m->jD R l' m'->jD R (l++l') (m++m')
 | _,_,_,_,.nil,k=>k
 | _,_,_,_,.cons a b,k=>.cons a (ju b k)
theorem oH{α β:Type}{R:α->β->Prop}:∀{l:List α} {m:List β},jD R l m->l.length=m.length
 | _,_,.nil=>rfl
 | _,_,.cons _ b=>by simp[oH b]
theorem fN{α β:Type}{R:α->β->Prop}:∀{l:List α} {m:List β},jD R l m->∀y∈m,∃x∈l,R x y
 | _,_,.nil,y,hy=>by cases hy
 | _,_,.cons a b,y,hy=>by
  rcases List.mem_cons.1 hy with rfl|hy
  ·exact⟨_,by simp,a⟩
  obtain⟨x,hx,r⟩:=fN b y hy;exact⟨x,by simp[hx],r⟩
theorem gS.mono(look:ByteArray->Option Data):∀fu,(gS look fu).Tw
 | 0=>fun _ _ _ _ _ _ h=>h
 | fu+1=>fun rows paths L L' i hp h=>by
  have ih:=gS.mono look fu;unfold gS at h ⊢;split at h
  ·exact l4 hp h
  split at h
  ·exact l4 hp h
  split at h
  ·exact h
  split at h
  ·rename_i h2;rw[if_pos h2];obtain⟨ks,o,h1,h2,h3⟩:=h;exact⟨ks,o,l4 hp h1,fF (fun _ _ q=>ih _ _ _ _ _ hp q) h2,ih _ _ _ _ _ hp h3⟩
  rename_i h2;rw[if_neg h2];split at h
  ·exact h
  obtain⟨ks,o,h1,h2,h3⟩:=h;refine⟨ks,o,l4 hp h1,fF (fun _ _ q=>ih _ _ _ _ _ hp q) h2,?_⟩;split
  ·rename_i h4;rw[if_pos h4]at h3;exact ih _ _ _ _ _ hp h3
  rename_i h4;rw[if_neg h4]at h3;exact h3
theorem gS.lt{look:ByteArray->Option Data}{fu:Nat}{rows:List a8}{paths:List (List Int)}{L:List bc}{i:Int}(h:gS look fu rows paths L i):0<=i∧i<L.length:=by
 cases fu with
 | zero=>exact h.elim
 | succ fu =>
  unfold gS at h;split at h
  ·exact ld h
  split at h
  ·exact ld h
  split at h
  ·exact h.elim
  split at h
  ·obtain⟨_,_,h,_⟩:=h;exact ld h
  split at h
  ·exact h.elim
  obtain⟨_,_,h,_⟩:=h;exact ld h
theorem rK{s s':BS}(h:s.full=decide (4096<s.many))(h':s'.full=decide (4096<s'.many))(hle:s.many<=s'.many)(hf:s'.full=false):s.full=false:=by
 rw[h']at hf;rw[h];have:=of_decide_eq_false hf;exact decide_eq_false (by omega)
def BE(t:bF)(f:oc)(G:List bc->Int->Prop)(rows:List a8)(paths:List (List Int)):Prop:=∀s:BS,s.full=decide (4096<s.many)->(f rows paths s).2.full=false->gX t s.outs->gX t (f rows paths s).2.outs∧G (f rows paths s).2.outs (f rows paths s).1
theorem sP{t:bF}{f:oc}{B:Nat}(hf:ke f B){rows:List a8}(rq:rows.length<=64){paths:List (List Int)}{c:Nat}{G:Int->List bc->Int->Prop}(hG:∀n L L' i,L <+: L'->G n L i->G n L' i)(hb:∀n,BE t f (G n) (aW c (fun q=>decide (q.n=n)) 0 rows) (bR paths c 0)) :
  ∀(l:List a8) (a:(List Int×List Int)×BS),a.2.full=decide (4096<a.2.many)->(l.foldl (b7 f rows paths c) a).2.full=false->gX t a.2.outs->jD (fun w k=>G w a.2.outs k) a.1.1 a.1.2 ->
  (l.foldl (b7 f rows paths c) a).1.1=dI c a.1.1 l∧jD (fun w k=>G w (l.foldl (b7 f rows paths c) a).2.outs k) (l.foldl (b7 f rows paths c) a).1.1 (l.foldl (b7 f rows paths c) a).1.2∧gX t (l.foldl (b7 f rows paths c) a).2.outs
 | [],a,_,_,hv,hg=>⟨rfl,hg,hv⟩
 | r::l,a,gf,nP,hv,hg=>by
  rw[List.foldl_cons]at nP ⊢;have key:b7 f rows paths c a r=a∧dI c a.1.1 (r::l)=dI c a.1.1 l∨∃n,b7 f rows paths c a r=((a.1.1++[n],a.1.2++[(f (aW c (fun q=>decide (q.n=n)) 0 rows) (bR paths c 0) a.2).1]),(f (aW c (fun q=>decide (q.n=n)) 0 rows) (bR paths c 0) a.2).2)∧dI c a.1.1 (r::l)=dI c (a.1.1++[n]) l:=by
   unfold b7;rw[dI];cases hp:r.bP[c]? with
   | none=>exact .inl ⟨rfl,rfl⟩
   | some p =>
    simp only;by_cases hc:(p.free ||decide (p.n∈a.1.1))=true
    ·rw[if_pos hc,if_pos hc];exact .inl ⟨rfl,rfl⟩
    rw[if_neg hc,if_neg hc];exact .inr ⟨p.n,rfl,rfl⟩
  rcases key with⟨e1,e2⟩|⟨n,e1,e2⟩
  ·rw[e1]at nP ⊢;rw[e2];exact sP hf rq hG hb l a gf nP hv hg
  have hm:=hf (aW c (fun q=>decide (q.n=n)) 0 rows) (bR paths c 0) a.2 (Nat.le_trans (fJ _ _ _ _) rq) gf;rw[e1]at nP ⊢;rw[e2];have hk:=jf hf rq (paths:=paths) (c:=c) l ((a.1.1++[n],a.1.2++[(f (aW c (fun q=>decide (q.n=n)) 0 rows) (bR paths c 0) a.2).1]),(f (aW c (fun q=>decide (q.n=n)) 0 rows) (bR paths c 0) a.2).2) _ 0 (dr.start hm.full B);obtain⟨Lc,QN⟩:=hb n a.2 gf (rK hm.full hk.full hk.le nP) hv;refine sP hf rq hG hb l _ hm.full nP Lc (ju (fF (fun w k q=>hG _ _ _ _ hm.pre q) hg) (.cons QN .nil))
theorem uW{t:bF}{f:oc}{B:Nat}(hf:ke f B){rows:List a8}(rq:rows.length<=64){paths:List (List Int)}{c:Nat}{G:fa->List bc->Int->Prop}(hG:∀n L L' i,L <+: L'->G n L i->G n L' i) :
  ∀(l:List fa) (a:(List ByteArray×List Int)×BS),(∀k∈l,rows.any (a8.has c fun p=>decide (p.name=k.name))=true->BE t f (G k) (aW c (fun p=>decide (p.name=k.name)) k.args.length rows) (bR paths c k.args.length)) ->
  a.2.full=decide (4096<a.2.many)->(l.foldl (cH f rows paths c) a).2.full=false->gX t a.2.outs ->
  (l.foldl (cH f rows paths c) a).1.1=a.1.1++(dM c rows l).map fa.name∧gX t (l.foldl (cH f rows paths c) a).2.outs∧∃ks,(l.foldl (cH f rows paths c) a).1.2=a.1.2++ks∧jD (fun x k=>G x (l.foldl (cH f rows paths c) a).2.outs k) (dM c rows l) ks
 | [],a,_,_,_,hv=>⟨by simp[dM],hv,[],by simp,.nil⟩
 | x::l,a,hb,gf,nP,hv=>by
  rw[List.foldl_cons]at nP ⊢;by_cases lG:rows.any (a8.has c fun p=>decide (p.name=x.name))=true
  ·have e1:cH f rows paths c a x=((a.1.1++[x.name],a.1.2++[(f (aW c (fun p=>decide (p.name=x.name)) x.args.length rows) (bR paths c x.args.length) a.2).1]),(f (aW c (fun p=>decide (p.name=x.name)) x.args.length rows) (bR paths c x.args.length) a.2).2):=by
    unfold cH;rw[if_pos lG]
   have e2:dM c rows (x::l)=x::dM c rows l:=by
    unfold dM;rw[List.filter_cons,if_pos lG]
   have hm:=hf (aW c (fun p=>decide (p.name=x.name)) x.args.length rows) (bR paths c x.args.length) a.2 (Nat.le_trans (fJ _ _ _ _) rq) gf;rw[e1]at nP ⊢;rw[e2];have hk:=jL hf rq (paths:=paths) (c:=c) l ((a.1.1++[x.name],a.1.2++[(f (aW c (fun p=>decide (p.name=x.name)) x.args.length rows) (bR paths c x.args.length) a.2).1]),(f (aW c (fun p=>decide (p.name=x.name)) x.args.length rows) (bR paths c x.args.length) a.2).2) _ 0 (dr.start hm.full B);obtain⟨Lc,QN⟩:=hb x (by simp) lG a.2 gf (rK hm.full hk.full hk.le nP) hv;obtain⟨i1,i2,ks,i3,i4⟩:=uW hf rq hG l _ (fun k hk=>hb k (by simp[hk])) hm.full nP Lc;refine⟨by rw[i1];simp,i2,_::ks,by rw[i3];simp,.cons (hG _ _ _ _ hk.pre QN) i4⟩
  have e1:cH f rows paths c a x=a:=by
   unfold cH;rw[if_neg lG]
  have e2:dM c rows (x::l)=dM c rows l:=by
   unfold dM;rw[List.filter_cons,if_neg lG]
  rw[e1]at nP ⊢;rw[e2];exact uW hf rq hG l a (fun k hk=>hb k (by simp[hk])) gf nP hv
theorem qN{tb:bF}{s:BS}(hv:gX tb s.outs){t:bc}(ht:∀y∈t.kids,y<s.outs.length)(oM:t.path.length<=2 ^ 19∧jJ tb t):gX tb (s.add t).2.outs∧nodeAt (s.add t).2.outs (s.add t).1=some t:=by
 refine⟨hv.add ht oM,?_⟩;obtain⟨k,h1,h2⟩:=s.add_get t;rw[h1,lv];exact h2
theorem kW{α:Type}{f:α->Bool}{l:List α}{c:Nat}(h:l.findIdx? f=some c):∃p,l[c]?=some p∧f p=true∧∀j q,j<c->l[j]?=some q->f q=false:=by
 rw[List.findIdx?_eq_some_iff_getElem]at h;obtain⟨aN,h1,h2⟩:=h;refine⟨l[c],by simp[aN],h1,fun j q hj hq=>?_⟩;obtain⟨iB,e⟩:=List.getElem?_eq_some_iff.1 hq;have:=h2 j hj;rw[e]at this;simpa using this
theorem kF{c:Nat}:∀{rows:List a8} {acc:List Int} {n:Int},n∈dI c acc rows↔n∈acc∨∃r∈rows,∃p,r.bP[c]?=some p∧p.free=false∧p.n=n
 | [],acc,n=>by simp[dI]
 | r::rs,acc,n=>by
  rw[dI];cases hp:r.bP[c]? with
  | none =>
   simp only;rw[kF];simp[hp]
  | some p =>
   simp only;split
   ·rename_i h;rw[kF];constructor
    ·rintro(h|⟨x,hx,q⟩)
     ·exact .inl h
     exact .inr ⟨x,by simp[hx],q⟩
    rintro(h'|⟨x,hx,q,h1,h2,h3⟩)
    ·exact .inl h'
    rcases List.mem_cons.1 hx with rfl|hx
    ·rw[hp]at h1;cases h1;simp only[Bool.or_eq_true,h2,decide_eq_true_eq,Bool.false_eq_true,false_or]at h;exact .inl (h3 ▸ h)
    exact .inr ⟨x,hx,q,h1,h2,h3⟩
   rename_i h;simp only[Bool.or_eq_true,not_or,Bool.not_eq_true]at h;rw[kF];constructor
   ·rintro(h'|⟨x,hx,q⟩)
    ·rcases List.mem_append.1 h' with h'|h'
     ·exact .inl h'
     exact .inr ⟨r,by simp,p,hp,h.1,(List.mem_singleton.1 h').symm⟩
    exact .inr ⟨x,by simp[hx],q⟩
   rintro(h'|⟨x,hx,q,h1,h2,h3⟩)
   ·exact .inl (by simp[h'])
   rcases List.mem_cons.1 hx with rfl|hx
   ·rw[hp]at h1;cases h1;exact .inl (by simp[h3])
   exact .inr ⟨x,hx,q,h1,h2,h3⟩
theorem kc{c:Nat}:∀(rows:List a8) (acc:List Int),acc.Nodup->(dI c acc rows).Nodup
 | [],acc,h=>h
 | r::rs,acc,h=>by
  rw[dI];split
  ·exact kc rs acc h
  split
  ·exact kc rs acc h
  rename_i p _ hc;simp only[Bool.or_eq_true,not_or,Bool.not_eq_true,decide_eq_true_eq]at hc;refine kc rs _ ?_;rw[List.nodup_append];refine⟨h,by simp,fun x hx y hy e=>?_⟩;rw[List.mem_singleton.1 hy]at e;exact hc.2 (e ▸ hx)
theorem LA(t:bF):jJ t gP:=⟨by simp[gP],by simp[gP],.inl ⟨rfl,rfl,rfl,rfl,rfl,rfl⟩⟩
theorem Qd(t:bF){z:Int}(h:0<=z):jJ t ⟨1,z,[],[],[],[]⟩:=⟨by simp,by simp,.inr (.inl ⟨rfl,h,rfl,rfl,rfl,rfl⟩)⟩
theorem o8{c:Nat}:∀(rows:List a8) (acc:List Int),(dI c acc rows).length<=acc.length+rows.length
 | [],acc=>Nat.le_refl _
 | r::rs,acc=>by
  have h1:=o8 (c:=c) rs acc;rw[dI,List.length_cons];split
  ·omega
  split
  ·omega
  rename_i p _ _;have h2:=o8 (c:=c) rs (acc++[p.n]);simp only[List.length_append,List.length_singleton]at h2;omega
theorem KW{t:bF}{rows:List a8}{paths:List (List Int)}{tys:List Ty}(cX:tU t rows paths tys){c:Nat}(hc:tys[c]?=some .int){q:List Int}(hq:paths[c]?=some q){ks:List Int}(hl:ks.length=(dI c [] rows).length)(DM:∀y∈ks,0<=y){o:Int}(ho:0<=o):jJ t ⟨3,0,q,[],dI c [] rows,ks++[o]⟩:=by
 have hm:=List.mem_of_getElem? hq;have SH:=o8 (c:=c) rows [];have rq:=cX.m.len;refine⟨by simp only[List.length_append,List.length_singleton,List.length_nil]at SH ⊢;omega,cX.pos q hm,.inr (.inr (.inr ⟨rfl,rfl,rfl,(cX.jz q hm).1,by simp[hl],kc _ _ .nil,fun w hw=>?_,fun x hx=>?_⟩))⟩
 ·rcases kF.1 hw with h|⟨r,hr,p,hp,cx,rfl⟩
  ·cases h
  refine A3 (cX.m.ok r hr p (List.mem_of_getElem? hp)) ?_;rcases((cX.m.typed r hr).parts hc hp).2.1.kind cx with⟨k2,_⟩|⟨_,_,_,_,e,_⟩
  ·exact k2
  cases e
 rcases List.mem_append.1 hx with hx|hx
 ·exact DM x hx
 rw[List.mem_singleton.1 hx];exact ho
theorem DA{t:bF}{rows:List a8}{paths:List (List Int)}{tys:List Ty}(cX:tU t rows paths tys){c i:Nat}{d:Data}(hd:t.datas[i]?=some d)(cA:dM c rows d.cons≠[]){q:List Int}(hq:paths[c]?=some q){ks:List Int}(hl:ks.length=(dM c rows d.cons).length)(DM:∀y∈ks,0<=y){o:Int}
  (Wb:d.cons.length<=256) (ho:((dM c rows d.cons).length<d.cons.length∧0<=o)∨(¬(dM c rows d.cons).length<d.cons.length∧o=-1)):jJ t ⟨2,0,q,(dM c rows d.cons).map fa.name,[],ks++[o]⟩:=by
 have hm:=List.mem_of_getElem? hq;have hle:(dM c rows d.cons).length<=d.cons.length:=List.length_filter_le _ _;refine⟨by simp only[List.length_append,List.length_singleton];omega,cX.pos q hm,.inr (.inr (.inl ⟨rfl,rfl,rfl,(cX.jz q hm).1,by simp[hl],by simpa using cA,?_,i,d,hd,fun s hs=>?_,fun n x hx=>?_⟩))⟩
 ·have nY:((dM c rows d.cons).map fa.name).Sublist (d.cons.map fa.name):=List.Sublist.map _ (List.filter_sublist);exact nY.nodup (cX.m.nodup d (List.mem_of_getElem? hd))
 ·obtain⟨x,hx,rfl⟩:=List.mem_map.1 hs;obtain⟨K,h1,h2,_⟩:=cX.m.EU.uniq i d x hd (List.mem_filter.1 hx).1;exact⟨K,h1,h2⟩
 simp only[List.length_map];rw[List.getElem?_append]at hx;split at hx
 ·rename_i aN;have:=DM x (List.mem_of_getElem? hx);exact⟨by omega,fun e=>by omega,fun e=>by omega⟩
 rename_i aN;have sr:n-ks.length=0:=by
  have:=(List.getElem?_eq_some_iff.1 hx).1;simp at this;omega
 rw[sr]at hx;simp only[List.getElem?_cons_zero,Option.some.injEq]at hx;subst hx;rcases ho with⟨h1,h2⟩|⟨h1,h2⟩
 ·exact⟨by omega,fun e=>by omega,fun e=>by omega⟩
 exact⟨by omega,fun _=>by omega,fun _=>h2⟩
theorem uD{t:bF}(hl:∀s d,bw t s=some d->d.cons.length<=256):∀(fu:Nat) (rows:List a8) (paths:List (List Int)) (tys:List Ty),tU t rows paths tys->kU rows<fu->BE t (bm (bw t) fu) (fun L i=>gS (bw t) fu rows paths L i) rows paths
 | 0,_,_,_,_,h=>by omega
 | fu+1,rows,paths,tys,cX,Pv=>fun s gf nP hv=>by
  have ih:=uD hl fu;have mH:=gS.mono (bw t) fu;have K7:=dT hl fu;cases rows with
  | nil =>
   have e:bm (bw t) (fu+1) [] paths s=s.count.add gP:=by
    unfold bm;rfl
   rw[e];have:=qN (s:=s.count) (t:=gP) hv (fun y hy=>by cases hy) ⟨by simp[gP],LA t⟩;exact⟨this.1,by unfold gS;exact this.2⟩
  | cons r0 rs =>
   have WV:=dT hl (fu+1) (r0::rs) paths s cX.m.len gf;have Un:s.count.full=false:=by
    by_cases hq:s.count.full=true
    ·have e:bm (bw t) (fu+1) (r0::rs) paths s=s.count.add gP:=by
      unfold bm;simp only[hq,if_true]
     rw[e,(s.count.gw _).2,hq]at nP;cases nP
    simpa using hq
   cases hi:r0.bP.findIdx? (fun p=>!p.free)with
   | none =>
    have e:bm (bw t) (fu+1) (r0::rs) paths s=s.count.add ⟨1,r0.ix,[],[],[],[]⟩:=by
     unfold bm;simp only[Un,hi,Bool.false_eq_true,if_false]
    rw[e];have:=qN (s:=s.count) (t:=⟨1,r0.ix,[],[],[],[]⟩) hv (fun y hy=>by cases hy) ⟨by simp,Qd t (cX.m.ix r0 (by simp))⟩;refine⟨this.1,?_⟩;unfold gS;simp only[hi];exact this.2
   | some c =>
    obtain⟨p,hp,cx,_⟩:=kW hi;have cx:p.free=false:=by simpa using cx
    obtain⟨ty,hc,ha,hk⟩:=cX.column (r:=r0) (by simp) hp cx;have rq:=cX.m.len;have s8:(paths[c]?.getD []).length<=2 ^ 19:=by
     cases hq:paths[c]? with
     | none=>simp
     | some q =>
      have:=(cX.jz q (List.mem_of_getElem? hq)).2;rw[Option.getD_some];omega
    have H3:=cX.other hc ha;obtain⟨q0,H5⟩:∃q,paths[c]?=some q:=⟨paths[c]'(by rw[cX.len];exact(List.getElem?_eq_some_iff.1 hc).1),by simp⟩
    have vn:=ih _ _ _ H3.1 (by have:=H3.2;omega);rcases hk with⟨k2,e2⟩|⟨k3,i,F,d,K,e3,hf,hK,hd,lV⟩
    ·subst e2;have e:bm (bw t) (fu+1) (r0::rs) paths s=j1 (bm (bw t) fu) (r0::rs) paths c s.count:=by
      conv=>lhs;unfold bm
      simp only[Un,hi,hp,k2,Bool.false_eq_true,if_false,if_true]
     rw[e]at nP ⊢;have e':∀L i,gS (bw t) (fu+1) (r0::rs) paths L i=Q5 (gS (bw t) fu) (r0::rs) paths c L i:=fun L i=>by
      conv=>lhs;unfold gS
      simp only[hi,hp,k2,if_true]
     simp only[e'];unfold j1 at nP ⊢;simp only at nP ⊢;have nk:=jf K7 rq (paths:=paths) (c:=c) (r0::rs) (([],[]),s.count) s.count 0 (dr.start (BS.eE gf) _);have hw:=sP K7 rq (paths:=paths) (c:=c) (G:=fun n L k=>gS (bw t) fu (aW c (fun q=>decide (q.n=n)) 0 (r0::rs)) (bR paths c 0) L k) (fun n L L' i=>mH _ _ L L' i) (fun n=>by
      have:=cX.word hc ha n;exact ih _ _ _ this.1 (by have:=this.2;omega)) (r0::rs) (([],[]),s.count) (BS.eE gf)
     generalize hA:List.foldl (b7 (bm (bw t) fu) (r0::rs) paths c) (([],[]),s.count) (r0::rs)=A at nP nk hw ⊢;have FI:=K7 (aW c (fun _=>false) 0 (r0::rs)) (bR paths c 0) A.2 (Nat.le_trans (fJ _ _ _ _) rq) nk.full;rw[(BS.gw _ _).2]at nP;unfold mq at nP ⊢;obtain⟨w1,w2,w3⟩:=hw (rK nk.full FI.full FI.le nP) hv .nil;obtain⟨o1,o2⟩:=vn A.2 nk.full nP w3;generalize hO:bm (bw t) fu (aW c (fun _=>false) 0 (r0::rs)) (bR paths c 0) A.2=O at nP FI o1 o2 ⊢;have Qz:=fF (S:=fun w k=>gS (bw t) fu (aW c (fun q=>decide (q.n=w)) 0 (r0::rs)) (bR paths c 0) O.2.outs k) (fun w k q=>mH _ _ _ _ _ FI.pre q) w2;have vj:∀y∈A.1.2++[O.1],y<O.2.outs.length:=fun y hy=>by
      rcases List.mem_append.1 hy with hy|hy
      ·obtain⟨w,_,q⟩:=fN Qz y hy;exact q.lt.2
      rw[List.mem_singleton.1 hy];exact o2.lt.2
     have pP:jJ t ⟨3,0,paths[c]?.getD [],[],A.1.1,A.1.2++[O.1]⟩:=by
      have qo:A.1.1=dI c [] (r0::rs):=w1;have sc:=oH w2;rw[H5,Option.getD_some,qo];refine KW cX hc H5 (by rw[<-sc,qo]) (fun y hy=>?_) o2.lt.1;obtain⟨w,_,q⟩:=fN Qz y hy;exact q.lt.1
     have gl:=qN (s:=O.2) (t:=⟨3,0,paths[c]?.getD [],[],A.1.1,A.1.2++[O.1]⟩) o1 vj ⟨s8,pP⟩;refine⟨gl.1,A.1.2,O.1,?_,?_,mH _ _ _ _ _ (BS.mZ _ _) o2⟩
     ·rw[<-w1];exact gl.2
     rw[<-w1];exact fF (fun w k q=>mH _ _ _ _ _ (BS.mZ _ _) q) Qz
    subst e3;have k2:¬p.kind=2:=by omega
    have e:bm (bw t) (fu+1) (r0::rs) paths s=rb (bm (bw t) fu) d (r0::rs) paths c s.count:=by
     conv=>lhs;unfold bm
     simp only[Un,hi,hp,k2,lV,Bool.false_eq_true,if_false]
    rw[e]at nP ⊢;have e':∀L i,gS (bw t) (fu+1) (r0::rs) paths L i=Q4 (gS (bw t) fu) d (r0::rs) paths c L i:=fun L i=>by
     conv=>lhs;unfold gS
     simp only[hi,hp,k2,lV,if_false]
    simp only[e'];unfold rb at nP ⊢;simp only at nP ⊢;have nk:=jL K7 rq (paths:=paths) (c:=c) d.cons (([],[]),s.count) s.count 0 (dr.start (BS.eE gf) _);have hw:=uW K7 rq (paths:=paths) (c:=c) (G:=fun x L k=>gS (bw t) fu (aW c (fun p=>decide (p.name=x.name)) x.args.length (r0::rs)) (bR paths c x.args.length) L k) (fun n L L' i=>mH _ _ L L' i) d.cons (([],[]),s.count) (fun x hx lG=>by
     obtain⟨_,_,h1,h2⟩:=cX.gu hc hd hx lG;exact ih _ _ _ h1 (by omega)) (BS.eE gf)
    generalize hA:List.foldl (cH (bm (bw t) fu) (r0::rs) paths c) (([],[]),s.count) d.cons=A at nP nk hw ⊢;have FI:=K7 (aW c (fun _=>false) 0 (r0::rs)) (bR paths c 0) A.2 (Nat.le_trans (fJ _ _ _ _) rq) nk.full;have ho:=vn A.2 nk.full;rw[(BS.gw _ _).2]at nP;unfold mq at nP ⊢;generalize hO:bm (bw t) fu (aW c (fun _=>false) 0 (r0::rs)) (bR paths c 0) A.2=O at nP FI ho ⊢;have TL:A.2.full=false:=by
     split at nP
     ·exact rK nk.full FI.full FI.le nP
     exact nP
    obtain⟨w1,w3,ks,w4,w2⟩:=hw TL hv;simp only[List.nil_append]at w1 w4;have hlen:A.1.1.length=(dM c (r0::rs) d.cons).length:=by rw[w1,List.length_map]
    have LR:dM c (r0::rs) d.cons≠[]:=by
     obtain⟨d',c',rz,nO,kX,_⟩:=cX.m.EU.back _ _ hf;rw[hK,hd]at rz;cases rz;refine List.ne_nil_of_mem (List.mem_filter.2 ⟨nO,?_⟩);exact List.any_eq_true.2 ⟨r0,by simp,yB.2 ⟨p,hp,cx,by simp[kX]⟩⟩
    have sc:=oH w2;by_cases aN:A.1.1.length<d.cons.length
    ·rw[if_pos aN]at nP ⊢;obtain⟨o1,o2⟩:=ho nP w3;have Qz:=fF (S:=fun(x:fa) k=>gS (bw t) fu (aW c (fun p=>decide (p.name=x.name)) x.args.length (r0::rs)) (bR paths c x.args.length) O.2.outs k) (fun w k q=>mH _ _ _ _ _ FI.pre q) w2;have vj:∀y∈A.1.2++[O.1],y<O.2.outs.length:=fun y hy=>by
      rcases List.mem_append.1 hy with hy|hy
      ·rw[w4]at hy;obtain⟨w,_,q⟩:=fN Qz y hy;exact q.lt.2
      rw[List.mem_singleton.1 hy];exact o2.lt.2
     have pP:jJ t ⟨2,0,paths[c]?.getD [],A.1.1,[],A.1.2++[O.1]⟩:=by
      rw[H5,Option.getD_some,w1,w4];refine DA cX hd LR H5 sc.symm (fun y hy=>?_) (hl _ _ lV) (.inl ⟨by omega,o2.lt.1⟩);obtain⟨w,_,q⟩:=fN Qz y hy;exact q.lt.1
     have gl:=qN (s:=O.2) (t:=⟨2,0,paths[c]?.getD [],A.1.1,[],A.1.2++[O.1]⟩) o1 vj ⟨s8,pP⟩;refine⟨gl.1,ks,O.1,?_,fF (fun w k q=>mH _ _ _ _ _ (BS.mZ _ _) q) Qz,?_⟩
     ·rw[<-w1,<-w4];exact gl.2
     rw[if_pos (by omega)];exact mH _ _ _ _ _ (BS.mZ _ _) o2
    rw[if_neg aN]at nP ⊢;have vj:∀y∈A.1.2++[-1],y<(A.2.outs.length:Int):=fun y hy=>by
     rcases List.mem_append.1 hy with hy|hy
     ·rw[w4]at hy;obtain⟨w,_,q⟩:=fN w2 y hy;exact q.lt.2
     rw[List.mem_singleton.1 hy];omega
    have pP:jJ t ⟨2,0,paths[c]?.getD [],A.1.1,[],A.1.2++[-1]⟩:=by
     rw[H5,Option.getD_some,w1,w4];refine DA cX hd LR H5 sc.symm (fun y hy=>?_) (hl _ _ lV) (.inr ⟨by omega,rfl⟩);obtain⟨w,_,q⟩:=fN w2 y hy;exact q.lt.1
    have gl:=qN (s:=A.2) (t:=⟨2,0,paths[c]?.getD [],A.1.1,[],A.1.2++[-1]⟩) w3 vj ⟨s8,pP⟩;refine⟨gl.1,ks,-1,?_,fF (fun w k q=>mH _ _ _ _ _ (BS.mZ _ _) q) w2,?_⟩
    ·rw[<-w1,<-w4];exact gl.2
    rw[if_neg (by omega)]
theorem gS.cut{t:bF}{look:ByteArray->Option Data}:∀(fu:Nat) (rows:List a8) (paths:List (List Int)) (L:List bc) (i:Int) (n:Nat),gX t L->gS look fu rows paths L i->i<n->gS look fu rows paths (L.take n) i
 | 0,_,_,_,_,_,_,h,_=>h
 | fu+1,rows,paths,L,i,n,hv,h,hn=>by
  have ih:=gS.cut (t:=t) (look:=look) fu;have pP:∀(i:Int) t,nodeAt L i=some t->i<n->nodeAt (L.take n) i=some t:=fun i t hi hn=>by
   have h0:=(ld hi).1;unfold nodeAt at hi ⊢;rw[if_pos h0]at hi ⊢;rw[List.getElem?_take,if_pos (by omega)];exact hi
  have FH:∀t,nodeAt L i=some t->∀y∈t.kids,y<n:=fun t hi y hy=>by
   have h0:=(ld hi).1;unfold nodeAt at hi;rw[if_pos h0]at hi;have:=(hv _ _ hi).1 y hy;omega
  have bq:∀{α:Type} (g:α->List a8) (q:α->List (List Int)) (l:List α) (ks:List Int),jD (fun x k=>gS look fu (g x) (q x) L k) l ks->(∀y∈ks,y<n)->jD (fun x k=>gS look fu (g x) (q x) (L.take n) k) l ks:=by
   intro α g q l ks h;induction h with
   | nil=>exact fun _=>.nil
   | cons a b Xk=>exact fun hk=>.cons (ih _ _ _ _ _ hv a (hk _ (by simp))) (Xk fun y hy=>hk y (by simp[hy]))
  unfold gS at h ⊢;split at h
  ·exact pP _ _ h hn
  split at h
  ·exact pP _ _ h hn
  split at h
  ·exact h
  split at h
  ·rename_i h2;rw[if_pos h2];obtain⟨ks,o,h1,h2,h3⟩:=h;have hk:=FH _ h1;exact⟨ks,o,pP _ _ h1 hn,bq _ _ _ _ h2 fun y hy=>hk y (by simp[hy]),ih _ _ _ _ _ hv h3 (hk o (by simp))⟩
  rename_i h2;rw[if_neg h2];split at h
  ·exact h
  obtain⟨ks,o,h1,h2,h3⟩:=h;have hk:=FH _ h1;refine⟨ks,o,pP _ _ h1 hn,bq _ _ _ _ h2 fun y hy=>hk y (by simp[hy]),?_⟩;split
  ·rename_i h4;rw[if_pos h4]at h3;exact ih _ _ _ _ _ hv h3 (hk o (by simp))
  rename_i h4;rw[if_neg h4]at h3;exact h3
def QE:Nat->List Pat->Bool
 | 0,l=>l.isEmpty
 | d+1,l=>l.all fun p=>QE d p.args
theorem vR{f:List Pat->Nat->Bool×Nat}{g:List Pat->Bool}(hn:∀l m m2,f l m=(true,m2)->m2=m+bX l)(hf:∀l m,m<=400->((f l m).1=true↔g l=true∧m+bX l<=400)) :
  ∀(l:List Pat) (m:Nat),m<=400->((iD f l m).1=true↔(l.all fun p=>g p.args)=true∧m+bX l<=400)
 | [],m,hm=>by simp[iD,bX,hm]
 | p::r,m,hm=>by
  rw[iD,bX,Pat.fX,List.all_cons,Bool.and_eq_true];by_cases h:400<m+1
  ·rw[if_pos h];simp;omega
  rw[if_neg h];have h1:=hf p.args (m+1) (by omega);cases hq:f p.args (m+1)with
  | mk b m2 =>
   rw[hq]at h1;cases b with
   | false =>
    simp only[Bool.false_eq_true,false_iff,not_and]at h1 ⊢;intro h2;have:=h1 h2.1;omega
   | true =>
    simp only[true_iff]at h1;have h2:=hn _ _ _ hq;show(iD f r m2).1=true↔_;rw[vR hn hf r m2 (by omega),h2];constructor
    ·rintro⟨h3,h4⟩;exact⟨⟨h1.1,h3⟩,by omega⟩
    rintro⟨⟨_,h3⟩,h4⟩;exact⟨h3,by omega⟩
theorem xO:∀(d:Nat) (l:List Pat) (m:Nat),m<=400->((iS d l m).1=true↔QE d l=true∧m+bX l<=400)
 | 0,l,m,hm=>by
  simp only[iS,QE,List.isEmpty_iff];constructor
  ·intro h;rw[h];simp[bX,hm]
  exact fun h=>h.1
 | d+1,l,m,hm=>vR (l7 d) (xO d) l m hm
theorem pR:∀(rows:List (List Pat)) (m:Nat),m<=400->(dP rows m=true↔(∀r∈rows,r.length<=16∧QE 20 r=true)∧m+fh rows<=400)
 | [],m,hm=>by simp[dP,fh,hm]
 | r::rows,m,hm=>by
  rw[dP,fh];by_cases yz:16<r.length
  ·rw[if_pos yz];simp;omega
  rw[if_neg yz];have h1:=xO 20 r m hm;cases hq:iS 20 r m with
  | mk b m2 =>
   rw[hq]at h1;cases b with
   | false =>
    simp only[Bool.false_eq_true,false_iff,not_and]at h1 ⊢;intro h2;have:=h1 (h2 r (by simp)).2;omega
   | true =>
    simp only[true_iff]at h1;have h2:=l7 _ _ _ _ hq;show dP rows m2=true↔_;rw[pR rows m2 (by omega),h2];constructor
    ·rintro⟨h3,h4⟩;refine⟨fun x hx=>?_,by omega⟩;rcases List.mem_cons.1 hx with rfl|hx
     ·exact⟨by omega,h1.1⟩
     exact h3 x hx
    rintro⟨h3,h4⟩;exact⟨fun x hx=>h3 x (by simp[hx]),by omega⟩
theorem sJ{datas:List Data}{rows:List (List Pat)}:small datas rows=true↔((∀r∈rows,r.length<=16∧QE 20 r=true)∧fh rows<=400)∧rows.length<=64∧(datas.any fun d=>decide ((256:Int)<d.cons.length))=false:=by
 rw[small,Bool.and_eq_true,Bool.and_eq_true,pR rows 0 (by omega)];simp
theorem IJ{datas:List Data}{rows less:List (List Pat)}(h:small datas rows=true)(h1:∀r∈less,r.length<=16∧QE 20 r=true)(h2:fh less<=fh rows)(h3:less.length<=rows.length):small datas less=true:=by
 rw[sJ]at h ⊢;exact⟨⟨h1,by omega⟩,by omega,h.2.2⟩
theorem lM{datas:List Data}{rows:List (List Pat)}(h:check datas rows=0):small datas rows=true:=by
 unfold check at h;by_cases hs:small datas rows=true
 ·exact hs
 rw[if_pos (by simpa using hs)]at h;cases h
theorem AU{datas:List Data}{rows:List (List Pat)}{t:bF}{tys:List Ty}(hb:build datas=some t)(eo:gV t rows tys)(hc:check datas rows=0)(hl:tys.length<=16)(hr:∀r∈rows,r.length=tys.length) :
  (fW datas rows tys.length).2=0∧((fW datas rows tys.length).1≠[]↔Q1 t rows tys∧tys≠[])∧(∀vs,(fW datas rows tys.length).1≠[]->eY (fW datas rows tys.length).1 vs->pX rows vs):=by
 obtain⟨h1,h2⟩:=AV eo hl;have hh:0<rows.length->((tys.length:Nat):Int)=(rows.headD []).length:=fun h=>by
  cases rows with
  | nil=>simp at h
  | cons r x=>simp[hr r (by simp)]
 have e:fW datas rows tys.length=if(t.missing rows tys.length).2 then((t.missing rows tys.length).1,0)else([],0):=by
  rw[fW,if_neg (by simp[hc]),if_neg,hb]
  ·simp
  rintro(h|h|⟨h3,h4⟩)
  ·omega
  ·omega
  exact h4 (hh h3)
 rw[e];by_cases hm:(t.missing rows tys.length).2=true
 ·rw[if_pos hm];obtain⟨h3,h4⟩:=h2 hm;refine⟨rfl,?_,fun vs _=>h4 vs⟩;constructor
  ·intro h5;refine⟨h1.1 hm,fun h6=>h5 ?_⟩;rw[h6]at h3 ⊢;exact List.length_eq_zero_iff.1 h3
  rintro⟨_,h6⟩ h7;simp only at h7;rw[h7]at h3;exact h6 (List.length_eq_zero_iff.1 h3.symm)
 rw[if_neg hm];exact⟨rfl,⟨fun h=>absurd rfl h,fun h=>absurd (h1.2 h.1) hm⟩,fun vs h=>absurd rfl h⟩
def dS:Nat->List (List Pat)->List a8
 | _,[]=>[]
 | k,r::rs=>⟨k,r⟩::dS (k+1) rs
theorem pt:∀(k:Nat) (rows:List (List Pat)),(dS k rows).length=rows.length
 | _,[]=>rfl
 | k,r::rs=>by simp[dS,pt (k+1) rs]
theorem mO:∀(k:Nat) (rows:List (List Pat)) (i:Nat),(dS k rows)[i]?=(rows[i]?).map fun r=>⟨((k+i:Nat):Int),r⟩
 | _,[],i=>by simp[dS]
 | k,r::rs,0=>by simp[dS]
 | k,r::rs,i+1=>by
  simp only[dS,List.getElem?_cons_succ];rw[mO (k+1) rs i,show k+1+i=k+(i+1) by omega]
theorem vz:∀(k:Nat) (rows:List (List Pat)) (r:List Pat),dS k (rows++[r])=dS k rows++[⟨((k+rows.length:Nat):Int),r⟩]
 | k,[],r=>by simp[dS]
 | k,x::rs,r=>by
  simp only[List.cons_append,dS];rw[vz (k+1) rs r,List.length_cons,show k+1+rs.length=k+(rs.length+1) by omega]
theorem sA{k:Nat}{rows:List (List Pat)}{x:a8}(h:x∈dS k rows):x.bP∈rows:=by
 obtain⟨i,hi⟩:=List.mem_iff_getElem?.1 h;rw[mO]at hi;cases hr:rows[i]? with
 | none =>
  rw[hr]at hi;cases hi
 | some r =>
  rw[hr]at hi;simp only[Option.map_some,Option.some.injEq]at hi;rw[<-hi];exact List.mem_of_getElem? hr
theorem sD:∀(k:Nat) (rows:List (List Pat)),kU (dS k rows)<=fh rows
 | _,[]=>Nat.le_refl _
 | k,r::rs=>by
  have:=sD (k+1) rs;have:=qf r;simp only[dS,kU,fh];omega
theorem vA:∀(k:Nat) (rows:List (List Pat)),Dq (dS k rows)=sQ rows
 | _,[]=>rfl
 | k,r::rs=>by
  simp only[dS,Dq,sQ,vA (k+1) rs]
def fS(n:Nat):List (List Int):=(List.range n).map fun(k:Nat)=>[(k:Int)]
theorem y3(n:Nat):fS (n+1)=fS n++[[(n:Int)]]:=by
 simp[fS,List.range_succ]
theorem l6(n:Nat):(fS n).length=n:=by simp[fS]
theorem sK{t:bF}{rows:List (List Pat)}{tys:List Ty}(h:gV t rows tys)(hl:tys.length<=16)(vl:∀d∈t.datas,(d.cons.map fa.name).Nodup):tU t (dS 0 rows) (fS tys.length) tys:=by
 have hw:=h.wt;refine⟨⟨vl,fun r hr=>h.ok _ (sA hr),fun r hr=>?_,h.EU,by rw[pt];exact h.len,fun r hr=>h.typed _ (sA hr),h.wf,fun r hr p hp=>?_⟩,l6 _,?_,fun q hq=>?_,fun q hq x hx=>?_⟩
 ·obtain⟨i,hi⟩:=List.mem_iff_getElem?.1 hr;rw[mO]at hi;cases VU:rows[i]? with
  | none =>
   rw[VU]at hi;cases hi
  | some r' =>
   rw[VU]at hi;simp only[Option.map_some,Option.some.injEq]at hi;rw[<-hi];simp only;omega
 ·have h1:=iZ hp;have h2:=qy (sA hr);have:=h.nodes;omega
 ·rw[l6,vA];omega
 ·obtain⟨k,_,rfl⟩:=List.mem_map.1 hq;rw[vA];exact⟨by simp,by simp;omega⟩
 obtain⟨k,_,rfl⟩:=List.mem_map.1 hq;rw[List.mem_singleton.1 hx];omega
theorem Ce{datas:List Data}{k:Nat}:eF datas k∈datas∨(eF datas k).cons=[]:=by
 unfold eF;cases h:datas[k]? with
 | none=>exact .inr rfl
 | some d=>exact .inl (List.mem_of_getElem? h)
theorem vv{t:bF}{rows:List (List Pat)}(h:small t.datas rows=true):∀s d,bw t s=some d->d.cons.length<=256:=fun s d hd=>by
 unfold bw at hd;cases hf:find t.cons s with
 | none =>
  rw[hf]at hd;cases hd
 | some K =>
  rw[hf]at hd;simp only[Option.map_some,Option.some.injEq]at hd;subst hd;rcases Ce (datas:=t.datas) (k:=K.data)with hm|hm
  ·have:=(sJ.1 h).2.2;have h2:=List.any_eq_false.1 this _ hm;simp at h2;omega
  rw[hm];simp
@[irreducible] def iz (t:bF) (rows:List (List Pat)):Int×BS:=bm (bw t) 1000 (dS 0 rows) (fS (rows.headD []).length) ⟨[],0,false⟩
theorem lz:mb ⟨[],0,false⟩:=⟨by simp,⟨by simp[BS.KZ],by simp⟩,by simp⟩
def b6(datas:List Data)(rows:List (List Pat)):List bc×Int :=
 if check datas rows≠0 then([],check datas rows)
 else match build datas with
  | none=>([],0)
  | some t=>if(iz t rows).2.full then([],2)else((iz t rows).2.outs.take ((iz t rows).1.toNat+1),0)
theorem Bj{t:bF}{rows:List (List Pat)}{tys:List Ty}(eo:gV t rows tys)(hl:tys.length<=16)(hh:(rows.headD []).length=tys.length)(hs:small t.datas rows=true)(vl:∀d∈t.datas,(d.cons.map fa.name).Nodup) :
  jH ⟨[],0,false⟩ (iz t rows).2 300000∧((iz t rows).2.full=false->gX t (iz t rows).2.outs∧gS (bw t) 1000 (dS 0 rows) (fS tys.length) (iz t rows).2.outs (iz t rows).1):=by
 have lV:=vv hs;have hn:=eo.nodes;unfold iz;rw[hh];refine⟨(dT lV 1000 _ _ _ (by rw[pt];exact eo.len) lz.full).pH (by omega),fun hf=>?_⟩;refine uD lV 1000 _ _ tys (sK eo hl vl) ?_ _ lz.full hf ?_
 ·have:=sD 0 rows;omega
 intro i u hu;simp at hu
theorem ra{datas:List Data}{rows:List (List Pat)}(h:(b6 datas rows).2=0):∃t,build datas=some t∧t.datas=datas∧check datas rows=0∧small datas rows=true∧∃tys:List Ty,(rows.headD []).length=tys.length∧tys.length<=16∧(∀r∈rows,r.length=tys.length)∧gV t rows tys ∧
  (b6 datas rows).1≠[]∧(b6 datas rows).1.length<=4096∧gX t (b6 datas rows).1∧gS (bw t) 1000 (dS 0 rows) (fS tys.length) (b6 datas rows).1 (((b6 datas rows).1.length:Int)-1):=by
 unfold b6 at h ⊢;by_cases hc:check datas rows=0
 ·rw[if_neg (by simp[hc])]at h ⊢;obtain⟨t,hb,lq,bq,yz,tys,eW,eo⟩:=ll hc;have Mm:=lM hc;rw[hb]at h ⊢;simp only at h ⊢;obtain⟨hm,Mk⟩:=Bj eo (by omega) eW.symm (by rw[lq];exact Mm) (lK hb);cases hf:(iz t rows).2.full with
  | true =>
   rw[hf]at h;simp at h
  | false =>
   simp only[Bool.false_eq_true,if_false];obtain⟨hv,hr⟩:=Mk hf;have aN:=hr.lt;have rC:=hm.full;rw[hf]at rC;have rC:=of_decide_eq_false rC.symm;have kP:=(hm.room 0 lz.room).2;have hlen:((iz t rows).2.outs.take ((iz t rows).1.toNat+1)).length=(iz t rows).1.toNat+1:=by
    rw[List.length_take];omega
   refine⟨t,rfl,lq,hc,Mm,tys,eW.symm,by omega,fun r hr=>by rw[bq r hr,eW],eo,?_,?_,?_,?_⟩
   ·intro e;rw[e]at hlen;simp at hlen
   ·rw[hlen];omega
   ·intro i u hu;rw[List.getElem?_take]at hu;split at hu
    ·exact hv i u hu
    cases hu
   rw[hlen];have:=hr.cut _ _ _ _ _ ((iz t rows).1.toNat+1) hv (by omega);rw[show(((iz t rows).1.toNat+1:Nat):Int)-1=(iz t rows).1 by omega];exact this
 rw[if_pos hc]at h;exact absurd h hc
end Go.Proofs.YtkkookchlddbkaaGreat.V
namespace Go.Proofs.YtkkookchlddbkaaGreat.V
open Go.Av
theorem xi{t:bF}(hl:∀s d,bw t s=some d->d.cons.length<=256):∀fu,fu<=1000->qK t fu
 | 0,_=>fun _ _ _ _ _ _ h=>by omega
 | fu+1,FD=>fun rows paths tys s cX hs Pv=>by
  have ih:=xi hl fu (by omega);cases rows with
  | nil =>
   have e:bm (bw t) (fu+1) [] paths s=s.count.add gP:=by
    unfold bm;rfl
   rw[e];exact uF hs (.inl rfl)
  | cons r0 rs =>
   cases hn:s.count.full with
   | true =>
    have e:bm (bw t) (fu+1) (r0::rs) paths s=s.count.add gP:=by
     unfold bm;simp only[hn,if_true]
    rw[e];exact uF hs (.inr hn)
   | false =>
    cases hi:r0.bP.findIdx? (fun p=>!p.free)with
    | none =>
     have e:bm (bw t) (fu+1) (r0::rs) paths s=s.count.add ⟨1,r0.ix,[],[],[],[]⟩:=by
      unfold bm;simp only[hn,hi,Bool.false_eq_true,if_false]
     rw[e];exact Fa hs rfl hn hi
    | some c =>
     obtain⟨p,hp,cx,_⟩:=kW hi;have cx:p.free=false:=by simpa using cx
     obtain⟨ty,hc,ha,hk⟩:=cX.column (r:=r0) (by simp) hp cx;rcases hk with⟨k2,e2⟩|⟨k3,i,F,d,K,e3,hf,hK,hd,lV⟩
     ·have e:bm (bw t) (fu+1) (r0::rs) paths s=j1 (bm (bw t) fu) (r0::rs) paths c s.count:=by
       conv=>lhs;unfold bm
       simp only[hn,hi,hp,k2,Bool.false_eq_true,if_false,if_true]
      rw[e];exact zY ih cX hs (by omega) (by omega) hl rfl hn hi hp k2 cx
     have k2:¬p.kind=2:=by omega
     have e:bm (bw t) (fu+1) (r0::rs) paths s=rb (bm (bw t) fu) d (r0::rs) paths c s.count:=by
      conv=>lhs;unfold bm
      simp only[hn,hi,hp,k2,lV,Bool.false_eq_true,if_false]
     rw[e];exact BX ih cX hs (by omega) (by omega) hl rfl hn hi hp k2 cx lV
theorem z'(l:List Int)(hb:l.length<=2 ^ 30):aV Tryz.prog 17 [eI l] (eI l):=by
 refine zf true 0 Tryz.func17 Tryz.ntmps17 ?_;dsimp only[Tmp,TypeId,ax];refine aH ?_;simp -dsimp only[simprocAttr,↓aa,aE]
 (refine I ?_;simp -dsimp only[ai,ne_eq,Nat.reduceEqDiff,reduceCtorEq])
 refine jk 0 rfl (fun yI=>?_) ?_
 ·simp -dsimp only[simprocAttr,↓aa,aE];refine cg ?_;simp -dsimp only[simprocAttr,↓aa,aE]
  (refine I ?_;simp -dsimp only[ai,ne_eq,Nat.reduceEqDiff,reduceCtorEq])
  refine de rfl ?_;refine aH ?_;simp -dsimp only[simprocAttr,↓aa,aE]
  (refine I ?_;simp -dsimp only[ai,ne_eq,Nat.reduceEqDiff,reduceCtorEq])
  refine ak ?_;simp -dsimp only[simprocAttr,↓aa,aE,zr,Tryz.results17];simpa[aq]using yI
 simp -dsimp only[simprocAttr,↓aa,aE];refine cg ?_;simp -dsimp only[simprocAttr,↓aa,aE]
 (refine I ?_;simp -dsimp only[ai,ne_eq,Nat.reduceEqDiff,reduceCtorEq])
 refine cB rfl ?_
 (refine au ?_;simp -dsimp only[ai,ne_eq,Nat.reduceEqDiff,reduceCtorEq])
 refine aH ?_;simp -dsimp only[simprocAttr,↓aa,aE];refine⟨by omega,by omega,?_⟩
 (refine I ?_;simp -dsimp only[ai,ne_eq,Nat.reduceEqDiff,reduceCtorEq])
 refine ak ?_;simp -dsimp only[simprocAttr,↓aa,aE,zr,Tryz.results17]
theorem bc.dL(n:Nat)(l:List bc):aq n (ar (l.map bc.enc)):=by
 rw[a9];intro c hc;simp only[ar,List.mem_flatMap,List.mem_map]at hc;obtain⟨_,⟨p,_,rfl⟩,hc⟩:=hc;have:=p.aF n;rw[bc.enc]at this;rw[bc.al]at hc;simp only[ae.upto,a9]at this;exact this c hc
theorem Ab(l:List bc)(hl:l≠[])(hb:l.length<=2 ^ 20)(O:List ay)(hO:∀o∈O,o.upto (O.length+1)) :
  aY Tryz.prog 16 O [eT l] fun r O'=>r=.ms O.length 0 l.length l.length∧O'=O++[.cells (ar (l.map bc.enc))]:=by
 refine zf true (O.length+1) Tryz.func16 Tryz.ntmps16 ?_;dsimp only[Tmp,TypeId,ax];refine aH ?_;simp -dsimp only[simprocAttr,↓aa,aE]
 (refine I ?_;simp -dsimp only[ai,ne_eq,Nat.reduceEqDiff,reduceCtorEq])
 refine jk 0 rfl (fun h=>?_) ?_
 ·exact absurd (List.map_eq_nil_iff.1 h) hl
 simp -dsimp only[simprocAttr,↓aa,aE];refine cg ?_;simp -dsimp only[simprocAttr,↓aa,aE]
 (refine I ?_;simp -dsimp only[ai,ne_eq,Nat.reduceEqDiff,reduceCtorEq])
 refine cB rfl ?_
 (refine au ?_;simp -dsimp only[ai,ne_eq,Nat.reduceEqDiff,reduceCtorEq])
 refine SZ ?_;simp -dsimp only[simprocAttr,↓aa,aE];refine⟨by omega,by omega,by simpa using hl,?_⟩
 (refine I ?_;simp -dsimp only[ai,ne_eq,Nat.reduceEqDiff,reduceCtorEq])
 refine ak ?_;simp -dsimp only[simprocAttr,↓aa,aE,zr,Tryz.results16];have e:∀x:ay,(O++[x]).take (O.length+1)=O++[x]:=fun x=>List.take_of_length_le (by simp);rw[e];refine⟨fun o ho=>?_,by omega,rfl⟩;rcases List.mem_append.1 ho with ho|ho
 ·exact hO o ho
 rw[List.mem_singleton.1 ho];exact bc.dL _ _
theorem a5(t:bF):(lN t).cells=[lN t]:=rfl
theorem bh(t:bF):(lN t).flat:=trivial
theorem a6(t:bF):(lN t).share=lN t:=rfl
theorem aJ(t:bF):(lN t).bp=lN t:=rfl
theorem Bg{cs:List ae}{off:Nat}{x:ae}(h:cs[off]?=some x):bu cs off [x]=cs:=by
 unfold bu;obtain⟨aN,e⟩:=List.getElem?_eq_some_iff.1 h
 conv=>rhs;rw[<-List.take_append_drop off cs,List.drop_eq_getElem_cons aN,e]
 simp
theorem SS{l:List bc}{k:Nat}{t:bc}(h:l[k]?=some t):(ar (l.map bc.enc))[k*6+2]?=some (.aC 1 (t.path.map aI) .sh):=by
 refine jm (sz:=6) (xs:=l.map bc.enc) (x:=t.enc) (fun x hx=>?_) (by simp[h]) rfl;obtain⟨y,_,rfl⟩:=List.mem_map.1 hx;rfl
theorem Cd{datas:List Data}{rows:List (List Pat)}(h0:check datas rows=0):aV Tryz.prog 7 [eD datas,kV rows] (.c5 [eT (b6 datas rows).1,aI (b6 datas rows).2]):=by
 have oJ:=pW datas rows;rw[h0]at oJ;have Mm:=lM h0;obtain⟨t,hb,lq,bq,yz,tys,eW,eo⟩:=ll h0;have DJ:=nq datas;rw[hb]at DJ;simp only[OO]at DJ;have Cz:ae.im KT.str (t.cons.map (fQ datas))=lN t:=by rw[lN,lq]
 rw[Cz]at DJ;have lV:=vv (t:=t) (rows:=rows) (by rw[lq];exact Mm);have rq:=eo.len;obtain⟨K7,Mk⟩:=Bj eo (by omega) eW.symm (by rw[lq];exact Mm) (lK hb);have Pv:kU (dS 0 rows)<1000:=by
  have:=sD 0 rows;have:=eo.nodes;omega
 have yF:=xi lV 1000 (Nat.le_refl _) _ _ _ _ (sK eo (by omega) (lK hb)) lz Pv;have SA:iz t rows=bm (bw t) 1000 (dS 0 rows) (fS tys.length) ⟨[],0,false⟩:=by
  unfold iz;rw[eW]
 rw[<-SA]at yF;have hE:b6 datas rows=if(iz t rows).2.full then([],2)else((iz t rows).2.outs.take ((iz t rows).1.toNat+1),0):=by
  unfold b6;rw[if_neg (by simp[h0]),hb]
 rw[hE];have UM:∀r∈rows,r.length=tys.length:=fun r hr=>by rw[bq r hr,eW]
 have zK:rows=[]->tys.length=0:=fun e=>by rw[eW,e];rfl
 have TY:=fE t;generalize iz t rows=Z at K7 Mk yF;have kP:=(K7.room 0 lz.room).1;have vi:=K7.full;have fk:=c6 t ⟨[],0,false⟩;have gz:=c6 t Z.2;simp only[BS.objs,List.map_nil,List.length_nil]at yF fk gz;refine zf true 0 Tryz.func7 Tryz.ntmps7 ?_;dsimp only[Tmp,TypeId,ax];refine aH ?_;simp -dsimp only[simprocAttr,↓aa,aE,bh,a5,a6,aJ]
 (refine I ?_;simp -dsimp only[ai,ne_eq,Nat.reduceEqDiff,reduceCtorEq])
 refine cg ?_;simp -dsimp only[simprocAttr,↓aa,aE,bh,a5,a6,aJ];refine .inl ⟨_,oJ,by simp only[aq,ae.upto,zt,iF],ah ?_⟩;simp -dsimp only[simprocAttr,↓aa,aE,bh,a5,a6,aJ]
 (refine I ?_;simp -dsimp only[ai,ne_eq,Nat.reduceEqDiff,reduceCtorEq])
 refine aH ?_;simp -dsimp only[simprocAttr,↓aa,aE,bh,a5,a6,aJ]
 (refine I ?_;simp -dsimp only[ai,ne_eq,Nat.reduceEqDiff,reduceCtorEq])
 apply aQ rfl<;>intro h
 ·cases h
 (refine au ?_;simp -dsimp only[ai,ne_eq,Nat.reduceEqDiff,reduceCtorEq])
 refine aH ?_;simp -dsimp only[simprocAttr,↓aa,aE,bh,a5,a6,aJ];refine .inl ⟨_,DJ,by simp only[aq,ae.upto,zt,iF],ah ?_⟩;simp -dsimp only[simprocAttr,↓aa,aE,bh,a5,a6,aJ]
 (refine I ?_;simp -dsimp only[ai,ne_eq,Nat.reduceEqDiff,reduceCtorEq])
 refine aH ?_;simp -dsimp only[simprocAttr,↓aa,aE,bh,a5,a6,aJ]
 (refine I ?_;simp -dsimp only[ai,ne_eq,Nat.reduceEqDiff,reduceCtorEq])
 refine gZ 0 1 rfl rfl ?_;simp -dsimp only[simprocAttr,↓aa,aE,bh,a5,a6,aJ];refine aH ?_;simp -dsimp only[simprocAttr,↓aa,aE,bh,a5,a6,aJ]
 (refine I ?_;simp -dsimp only[ai,ne_eq,Nat.reduceEqDiff,reduceCtorEq])
 refine j4 10 rfl ?_;simp -dsimp only[simprocAttr,↓aa,aE,bh,a5,a6,aJ];refine aH ?_;simp -dsimp only[simprocAttr,↓aa,aE,bh,a5,a6,aJ]
 (refine I ?_;simp -dsimp only[ai,ne_eq,Nat.reduceEqDiff,reduceCtorEq])
 refine j4 11 rfl ?_;simp -dsimp only[simprocAttr,↓aa,aE,bh,a5,a6,aJ];refine cg ?_;simp -dsimp only[simprocAttr,↓aa,aE,bh,a5,a6,aJ]
 (refine I ?_;simp -dsimp only[ai,ne_eq,Nat.reduceEqDiff,reduceCtorEq])
 refine aj (aO (ι:={k:Nat // k<=rows.length}) (fun k=>⟨92,[(0,eD datas),(1,kV rows),(9,.mp 0 0),(10,.aC 2 ((dS 0 (rows.take k.1)).map a8.enc) (.tok 2)),(11,.aC 1 ((fS (if k.1=0 then 0 else tys.length)).map eI) (.tok 3)),(32,kV rows),(33,aI rows.length),(34,aI k.1)],[.cells [lN t,.aC 6 [] (.tok 1),aI 0,.v (.bool false)],.spare 0,.spare k.1,.spare (if k.1=0 then 0 else tys.length)]⟩) (fun k=>rows.length-k.1) ⟨0,by omega⟩ ?_ ?_)
 ·refine zq rfl ?_ ?_;simp -dsimp only[simprocAttr,↓aa,aE,bh,a5,a6,aJ,zc]
  ·exact⟨Sub.aC (by simp[dS]),Sub.aC (by simp[fS])⟩
  simp
 rintro⟨k,hk⟩;have FJ:(dS 0 (rows.take k)).length=k:=by
  rw[pt,List.length_take];omega
 refine aH ?_;simp -dsimp only[simprocAttr,↓aa,aE,bh,a5,a6,aJ]
 (refine I ?_;simp -dsimp only[ai,ne_eq,Nat.reduceEqDiff,reduceCtorEq])
 apply gr rfl<;>intro h
 ·(refine au ?_;simp -dsimp only[ai,ne_eq,Nat.reduceEqDiff,reduceCtorEq])
  have aN:k<rows.length:=by simpa using h
  obtain⟨r,hr⟩:∃r,rows[k]?=some r:=⟨rows[k],by simp[aN]⟩
  have wU:=UM r (List.mem_of_getElem? hr);have oL:dS 0 (rows.take (k+1))=dS 0 (rows.take k)++[⟨(k:Int),r⟩]:=by
   rw[bN hr,vz,List.length_take,show 0+min k rows.length=k by omega]
  refine aG (aj ?_);refine aH ?_;simp -dsimp only[simprocAttr,↓aa,aE,bh,a5,a6,aJ,hr]
  (refine I ?_;simp -dsimp only[ai,ne_eq,Nat.reduceEqDiff,reduceCtorEq])
  refine aH ?_;simp -dsimp only[simprocAttr,↓aa,aE,bh,a5,a6,aJ,FJ]
  repeat(refine⟨by omega,?_⟩)
  (refine I ?_;simp -dsimp only[ai,ne_eq,Nat.reduceEqDiff,reduceCtorEq])
  by_cases DK:k=0
  ·subst DK;refine aH ?_;simp -dsimp only[simprocAttr,↓aa,aE,bh,a5,a6,aJ]
   (refine I ?_;simp -dsimp only[ai,ne_eq,Nat.reduceEqDiff,reduceCtorEq])
   apply aQ rfl<;>intro h
   ·refine aH ?_;simp -dsimp only[simprocAttr,↓aa,aE,bh,a5,a6,aJ]
    (refine I ?_;simp -dsimp only[ai,ne_eq,Nat.reduceEqDiff,reduceCtorEq])
    refine aj (aO (ι:={j:Nat // j<=tys.length}) (fun j=>⟨92,[(0,eD datas),(1,kV rows),(9,.mp 0 0),(10,.aC 2 ((dS 0 (rows.take 1)).map a8.enc) (.tok 2)),(11,.aC 1 ((fS j.1).map eI) (.tok 3)),(32,kV rows),(33,aI rows.length),(34,aI 0),(48,aI tys.length),(49,aI j.1)],[.cells [lN t,.aC 6 [] (.tok 1),aI 0,.v (.bool false)],.spare 0,.spare 1,.spare j.1]⟩) (fun j=>tys.length-j.1) ⟨0,by omega⟩ ?_ ?_)
    ·refine zq rfl ?_ ?_;simp -dsimp only[simprocAttr,↓aa,aE,bh,a5,a6,aJ,zc]
     ·refine⟨Sub.aC ?_,Sub.int (by rw[wU])⟩;have e:dS 0 (rows.take 1)=dS 0 []++[⟨((0:Nat):Int),r⟩]:=oL;rw[e];simp[a8.enc]
     rfl
    rintro⟨j,hj⟩;refine aH ?_;simp -dsimp only[simprocAttr,↓aa,aE,bh,a5,a6,aJ]
    (refine I ?_;simp -dsimp only[ai,ne_eq,Nat.reduceEqDiff,reduceCtorEq])
    apply gr rfl<;>intro h
    ·(refine au ?_;simp -dsimp only[ai,ne_eq,Nat.reduceEqDiff,reduceCtorEq])
     have HU:j<tys.length:=by simpa using h
     refine aG (aj ?_);refine aH ?_;simp -dsimp only[simprocAttr,↓aa,aE,bh,a5,a6,aJ]
     (refine I ?_;simp -dsimp only[ai,ne_eq,Nat.reduceEqDiff,reduceCtorEq])
     refine fq ?_;simp -dsimp only[simprocAttr,↓aa,aE,bh,a5,a6,aJ,l6]
     repeat(refine⟨by omega,?_⟩)
     (refine I ?_;simp -dsimp only[ai,ne_eq,Nat.reduceEqDiff,reduceCtorEq])
     refine fq ?_;simp -dsimp only[simprocAttr,↓aa,aE,bh,a5,a6,aJ]
     repeat(refine⟨by omega,?_⟩)
     (refine I ?_;simp -dsimp only[ai,ne_eq,Nat.reduceEqDiff,reduceCtorEq])
     refine⟨⟨j+1,HU⟩,by simp;omega,?_⟩;refine zq rfl ?_ ?_;simp -dsimp only[simprocAttr,↓aa,aE,bh,a5,a6,aJ,zc]
     ·exact⟨Sub.aC (by rw[y3];simp),Sub.int (by simp)⟩
     rfl
    refine aM ?_;simp -dsimp only[ai,ne_eq,Nat.reduceEqDiff,reduceCtorEq];have tN:j=tys.length:=by simp at h;omega
    subst tN;refine fq ?_;simp -dsimp only[simprocAttr,↓aa,aE,bh,a5,a6,aJ]
    repeat(refine⟨by omega,?_⟩)
    (refine I ?_;simp -dsimp only[ai,ne_eq,Nat.reduceEqDiff,reduceCtorEq])
    refine⟨⟨1,aN⟩,by simp;omega,?_⟩;refine zq rfl ?_ ?_;simp -dsimp only[simprocAttr,↓aa,aE,bh,a5,a6,aJ,zc];rfl
   simp at h
  have zI:decide ((k:Int)=0)=false:=decide_eq_false (by omega);refine aH ?_;simp -dsimp only[simprocAttr,↓aa,aE,bh,a5,a6,aJ,zI]
  (refine I ?_;simp -dsimp only[ai,ne_eq,Nat.reduceEqDiff,reduceCtorEq])
  refine cB rfl ?_
  (refine au ?_;simp -dsimp only[ai,ne_eq,Nat.reduceEqDiff,reduceCtorEq])
  refine fq ?_;simp -dsimp only[simprocAttr,↓aa,aE,bh,a5,a6,aJ]
  repeat(refine⟨by omega,?_⟩)
  (refine I ?_;simp -dsimp only[ai,ne_eq,Nat.reduceEqDiff,reduceCtorEq])
  refine⟨⟨k+1,aN⟩,by simp;omega,?_⟩;refine zq rfl ?_ ?_;simp -dsimp only[simprocAttr,↓aa,aE,bh,a5,a6,aJ,zc]
  ·refine⟨Sub.aC ?_,?_,Sub.int (by simp)⟩
   ·rw[oL];simp[a8.enc]
   rw[if_neg DK];exact Sub.refl _
  simp[DK]
 refine aM ?_;simp -dsimp only[ai,ne_eq,Nat.reduceEqDiff,reduceCtorEq];have gg:k=rows.length:=by simp at h;omega
 subst gg;have Sn:(if rows.length=0 then 0 else tys.length)=tys.length:=by
  split
  ·rename_i e;exact(zK (List.length_eq_zero_iff.1 e)).symm
  rfl
 simp only[List.take_length,Sn];have sa:=aY.vC (args:=[.mp 0 0,.aC 2 ((dS 0 rows).map a8.enc) (.tok 2),.aC 1 ((fS tys.length).map eI) (.tok 3)]) (aY.frame yF rfl (by simp[aq,ae.upto,a8.an,gM]) fk [.spare rows.length,.spare tys.length]);refine aH ?_;simp -dsimp only[simprocAttr,↓aa,aE,bh,a5,a6,aJ];refine .inr (.inl ⟨_,_,sa,.inl (ah ?_)⟩);simp -dsimp only[simprocAttr,↓aa,aE,bh,a5,a6,aJ]
 (refine I ?_;simp -dsimp only[ai,ne_eq,Nat.reduceEqDiff,reduceCtorEq])
 cases hf:Z.2.full with
 | true =>
  simp only[if_true];refine cg ?_;simp -dsimp only[simprocAttr,↓aa,aE,bh,a5,a6,aJ,hf]
  (refine I ?_;simp -dsimp only[ai,ne_eq,Nat.reduceEqDiff,reduceCtorEq])
  refine de rfl ?_;refine aH ?_;simp -dsimp only[simprocAttr,↓aa,aE,bh,a5,a6,aJ]
  (refine I ?_;simp -dsimp only[ai,ne_eq,Nat.reduceEqDiff,reduceCtorEq])
  refine ak ?_;simp -dsimp only[simprocAttr,↓aa,aE,bh,a5,a6,aJ,zr,Tryz.results7];exact⟨by simp[aq,ae.upto],rfl⟩
 | false =>
  obtain⟨hv,W5⟩:=Mk hf;have aN:=W5.lt;simp only[Bool.false_eq_true,if_false];refine cg ?_;simp -dsimp only[simprocAttr,↓aa,aE,bh,a5,a6,aJ,hf]
  (refine I ?_;simp -dsimp only[ai,ne_eq,Nat.reduceEqDiff,reduceCtorEq])
  apply aQ rfl<;>intro h
  ·cases h
  have hz:(Z.1+1).toNat=Z.1.toNat+1:=by omega
  have TP:(Z.2.outs.take (Z.1.toNat+1)).length=Z.1.toNat+1:=by
   rw[List.length_take];omega
  have oM:∀u∈Z.2.outs.take (Z.1.toNat+1),u.path.length<=2 ^ 30:=fun u hu=>by
   obtain⟨i,hi⟩:=List.mem_iff_getElem?.1 (List.mem_of_mem_take hu);have:=(hv i u hi).2.1;omega
  generalize hN:Z.2.outs.take (Z.1.toNat+1)=N at TP oM;have Wn:N≠[]:=fun e=>by
   rw[e]at TP;simp at TP
  have Pt:=Ab N Wn (by omega) [.cells [lN t,.aC 6 (Z.2.outs.map bc.enc) (.tok 1),.v (.int .i64 Z.2.many),.v (.bool false)],.spare Z.2.outs.length,.spare rows.length,.spare tys.length] (by simp[ay.upto,aq,ae.upto,bc.an,TY])
  (refine au ?_;simp -dsimp only[ai,ne_eq,Nat.reduceEqDiff,reduceCtorEq])
  refine aH ?_;simp -dsimp only[simprocAttr,↓aa,aE,bh,a5,a6,aJ,hz,<-List.map_take,hN]
  repeat(refine⟨by omega,?_⟩)
  refine .inr (.inl ⟨_,_,Pt,.inl (ah ?_)⟩);simp -dsimp only[simprocAttr,↓aa,aE,bh,a5,a6,aJ]
  (refine I ?_;simp -dsimp only[ai,ne_eq,Nat.reduceEqDiff,reduceCtorEq])
  refine cg ?_;simp -dsimp only[simprocAttr,↓aa,aE,bh,a5,a6,aJ]
  (refine I ?_;simp -dsimp only[ai,ne_eq,Nat.reduceEqDiff,reduceCtorEq])
  refine aj (aO (ι:={k:Nat // k<=N.length}) (fun k=>⟨92,[(16,.ms 4 0 N.length N.length),(75,.ms 4 0 N.length N.length),(76,aI N.length),(77,aI k.1)],[.cells [lN t,.aC 6 (Z.2.outs.map bc.enc) (.tok 1),.v (.int .i64 Z.2.many),.v (.bool false)],.spare Z.2.outs.length,.spare rows.length,.spare tys.length,.cells (ar (N.map bc.enc))]⟩) (fun k=>N.length-k.1) ⟨0,by omega⟩ ?_ ?_)
  ·refine zq rfl ?_ ?_;simp -dsimp only[simprocAttr,↓aa,aE,bh,a5,a6,aJ,zc];rfl
  rintro⟨k,hk⟩;refine aH ?_;simp -dsimp only[simprocAttr,↓aa,aE,bh,a5,a6,aJ]
  (refine I ?_;simp -dsimp only[ai,ne_eq,Nat.reduceEqDiff,reduceCtorEq])
  apply gr rfl<;>intro h
  ·(refine au ?_;simp -dsimp only[ai,ne_eq,Nat.reduceEqDiff,reduceCtorEq])
   have Sb:k<N.length:=by simpa using h
   obtain⟨u,hu⟩:∃u,N[k]?=some u:=⟨N[k],by simp[Sb]⟩
   have vd:=SS hu;refine aG (aj ?_);refine aH ?_;simp -dsimp only[simprocAttr,↓aa,aE,bh,a5,a6,aJ]
   (refine I ?_;simp -dsimp only[ai,ne_eq,Nat.reduceEqDiff,reduceCtorEq])
   have R8:k*6+2+1<=(ar (N.map bc.enc)).length:=by
    have:=(List.getElem?_eq_some_iff.1 vd).1;omega
   refine fq ?_;simp -dsimp only[simprocAttr,↓aa,aE,bh,a5,a6,aJ,vd];refine⟨by omega,?_⟩;refine .inl ⟨_,z' u.path (oM u (List.mem_of_getElem? hu)),by simp only[aq,ae.upto,zt,iF],ah ?_⟩;simp -dsimp only[simprocAttr,↓aa,aE,bh,a5,a6,aJ,Bg vd];refine⟨by omega,R8,?_⟩
   (refine I ?_;simp -dsimp only[ai,ne_eq,Nat.reduceEqDiff,reduceCtorEq])
   refine fq ?_;simp -dsimp only[simprocAttr,↓aa,aE,bh,a5,a6,aJ]
   repeat(refine⟨by omega,?_⟩)
   (refine I ?_;simp -dsimp only[ai,ne_eq,Nat.reduceEqDiff,reduceCtorEq])
   refine⟨⟨k+1,Sb⟩,by simp;omega,?_⟩;refine zq rfl ?_ ?_;simp -dsimp only[simprocAttr,↓aa,aE,bh,a5,a6,aJ,zc]
   ·exact Sub.int (by simp)
   rfl
  refine aM ?_;simp -dsimp only[ai,ne_eq,Nat.reduceEqDiff,reduceCtorEq];have gg:k=N.length:=by simp at h;omega
  subst gg;refine aR 16 4 (.aC 6 (N.map bc.enc) .sh) rfl (by simp[ay.aP]) trivial rfl ?_ ?_;rotate_left;simp -dsimp only[simprocAttr,↓aa,aE,bh,a5,a6,aJ]
  ·refine aH ?_;simp -dsimp only[simprocAttr,↓aa,aE,bh,a5,a6,aJ]
   (refine I ?_;simp -dsimp only[ai,ne_eq,Nat.reduceEqDiff,reduceCtorEq])
   refine ak ?_;simp -dsimp only[simprocAttr,↓aa,aE,bh,a5,a6,aJ,zr,Tryz.results7];simp[aq,ae.upto,bc.an]
  refine da.ms rfl ?_ (by simp) ?_
  ·intro x hx;obtain⟨y,_,rfl⟩:=List.mem_map.1 hx;rfl
  have UH:∀x∈N.map bc.enc,x.cells.length=6:=fun x hx=>by
   obtain⟨y,_,rfl⟩:=List.mem_map.1 hx;rfl
  rw[List.drop_zero,List.take_of_length_le (by rw[bI UH,List.length_map];exact Nat.le_refl _),<-ef,bc.bV]
theorem Af{datas:List Data}{rows:List (List Pat)}(h0:check datas rows≠0):aV Tryz.prog 7 [eD datas,kV rows] (.c5 [eT (b6 datas rows).1,aI (b6 datas rows).2]):=by
 have oJ:=pW datas rows;have hE:b6 datas rows=([],check datas rows):=by
  unfold b6;rw[if_pos h0]
 have hd:(!decide (check datas rows=0))=true:=by simpa using h0
 rw[hE];generalize check datas rows=e at oJ hd;refine zf true 0 Tryz.func7 Tryz.ntmps7 ?_;dsimp only[Tmp,TypeId,ax];refine aH ?_;simp -dsimp only[simprocAttr,↓aa,aE,bh,a5,a6,aJ]
 (refine I ?_;simp -dsimp only[ai,ne_eq,Nat.reduceEqDiff,reduceCtorEq])
 refine cg ?_;simp -dsimp only[simprocAttr,↓aa,aE,bh,a5,a6,aJ];refine .inl ⟨_,oJ,by simp only[aq,ae.upto,zt,iF],ah ?_⟩;simp -dsimp only[simprocAttr,↓aa,aE,bh,a5,a6,aJ]
 (refine I ?_;simp -dsimp only[ai,ne_eq,Nat.reduceEqDiff,reduceCtorEq])
 refine aH ?_;simp -dsimp only[simprocAttr,↓aa,aE,bh,a5,a6,aJ,hd]
 (refine I ?_;simp -dsimp only[ai,ne_eq,Nat.reduceEqDiff,reduceCtorEq])
 refine de rfl ?_;refine aH ?_;simp -dsimp only[simprocAttr,↓aa,aE,bh,a5,a6,aJ]
 (refine I ?_;simp -dsimp only[ai,ne_eq,Nat.reduceEqDiff,reduceCtorEq])
 refine ak ?_;simp -dsimp only[simprocAttr,↓aa,aE,bh,a5,a6,aJ,zr,Tryz.results7];exact⟨by simp[aq,ae.upto],rfl⟩
theorem yk(datas:List Data)(rows:List (List Pat)):aV Tryz.prog 7 [eD datas,kV rows] (.c5 [eT (b6 datas rows).1,aI (b6 datas rows).2]):=by
 by_cases h0:check datas rows=0
 ·exact Cd h0
 exact Af h0
abbrev Rg(datas:List Data)(ad:Addr):ae:=.aC 3 (datas.map Data.enc) (.loc ad)
def dG(datas:List Data)(ad:Addr)(p:ByteArray×K):Value×ae:=(.string p.1,.ip (some ⟨ad.block,ad.off+p.2.data*3,none⟩) (eF datas p.2.data).enc.cells)
theorem jS(datas:List Data)(ad:Addr):∀(l:List (ByteArray×K)) (s:ByteArray),iy (l.map (dG datas ad)) (.string s)=(find l s).map fun k=>ae.ip (some ⟨ad.block,ad.off+k.data*3,none⟩) (eF datas k.data).enc.cells
 | [],_=>rfl
 | (n,k)::r,s=>by
  simp only[List.map_cons,dG,iy,find,jS datas ad r s];have:gN (.string n) (.string s)=decide (n=s):=by
   simp[gN]
  rw[this];by_cases h:n=s<;>simp[h]
theorem A5(datas:List Data)(ad:Addr):∀(l:List (ByteArray×K)) (s:ByteArray) (k:K),find l s=none->jG (l.map (dG datas ad)) (.string s) (.ip (some ⟨ad.block,ad.off+k.data*3,none⟩) (eF datas k.data).enc.cells)=(l++[(s,k)]).map (dG datas ad)
 | [],_,_,_=>rfl
 | (n,k')::r,s,k,h=>by
  simp only[find]at h;split at h
  ·cases h
  rename_i hn;have:gN (.string n) (.string s)=decide (n=s):=by
   simp[gN]
  simp only[List.map_cons,List.cons_append,dG,jG,this,hn,decide_false,Bool.false_eq_true,if_false];have ih:=A5 datas ad r s k h;rw[<-ih]
theorem fB(datas:List Data)(ad:Addr)(n:Nat)(l:List (ByteArray×K)):kC n (l.map (dG datas ad)):=by
 rw[je];intro x hx;obtain⟨p,_,rfl⟩:=List.mem_map.1 hx;have:=(eF datas p.2.data).aF n;exact this
def Mt(datas:List Data)(ad:Addr):Option bF->ae
 | some t=>.c5 [.im .str (t.cons.map (dG datas ad)),aI 0]
 | none=>.c5 [.v (.map none),aI 7]
theorem wZ(datas:List Data)(ad:Addr):aV Tryz.prog 14 [Rg datas ad] (Mt datas ad (build datas)):=by
 refine zf true 0 Tryz.func14 Tryz.ntmps14 ?_;dsimp only[Tmp,TypeId,ax];refine aH ?_;simp -dsimp only[simprocAttr,↓aa,aE]
 (refine I ?_;simp -dsimp only[ai,ne_eq,Nat.reduceEqDiff,reduceCtorEq])
 refine aH ?_;simp -dsimp only[simprocAttr,↓aa,aE]
 (refine I ?_;simp -dsimp only[ai,ne_eq,Nat.reduceEqDiff,reduceCtorEq])
 refine bT 0 rfl (fun hlen=>?_);simp only[List.length_map]at hlen;refine cg ?_;simp -dsimp only[simprocAttr,↓aa,aE]
 (refine I ?_;simp -dsimp only[ai,ne_eq,Nat.reduceEqDiff,reduceCtorEq])
 refine aj (aO (ι:={q:Nat×List (ByteArray×K) // q.1<=datas.length∧cK 0 datas []=cK q.1 (datas.drop q.1) q.2}) (fun q=>⟨38,[(0,Rg datas ad),(4,.mm 0),(10,aI datas.length),(11,aI q.1.1)],[.map .str (q.1.2.map (dG datas ad))]⟩) (fun q=>datas.length-q.1.1) ⟨(0,[]),by omega,rfl⟩ ?_ ?_)
 ·refine zq rfl ?_ ?_;simp -dsimp only[simprocAttr,↓aa,aE,zc];rfl
 rintro⟨⟨k,acc⟩,hk,he⟩;simp only at hk he;refine aH ?_;simp -dsimp only[simprocAttr,↓aa,aE]
 (refine I ?_;simp -dsimp only[ai,ne_eq,Nat.reduceEqDiff,reduceCtorEq])
 apply gr rfl<;>intro h
 ·(refine au ?_;simp -dsimp only[ai,ne_eq,Nat.reduceEqDiff,reduceCtorEq])
  have aN:k<datas.length:=by simpa using h
  obtain⟨d,hd⟩:∃d:Data,datas[k]?=some d:=⟨datas[k],by simp[aN]⟩
  have wq:eF datas k=d:=by simp[eF,hd]
  have gy:datas.drop k=d::datas.drop (k+1):=by
   rw[List.drop_eq_getElem_cons aN];rw[List.getElem?_eq_getElem aN]at hd;simp only[Option.some.injEq]at hd;rw[hd]
  rw[gy,cK]at he;refine aG (aj ?_);refine aH ?_;simp -dsimp only[simprocAttr,↓aa,aE]
  (refine I ?_;simp -dsimp only[ai,ne_eq,Nat.reduceEqDiff,reduceCtorEq])
  refine aH ?_;simp -dsimp only[simprocAttr,↓aa,aE,hd]
  (refine I ?_;simp -dsimp only[ai,ne_eq,Nat.reduceEqDiff,reduceCtorEq])
  refine bT 18 rfl (fun zJ=>?_);simp only[List.length_map]at zJ;refine aj (aO (ι:={q:Nat×List (ByteArray×K) // q.1<=d.cons.length∧cK 0 datas []=(fD k q.1 (d.cons.drop q.1) q.2).bind (cK (k+1) (datas.drop (k+1)))}) (fun q=>⟨38,[(18,eC d.cons),(19,aI d.cons.length),(20,aI q.1.1),(5,aI k),(0,Rg datas ad),(4,.mm 0),(10,aI datas.length),(11,aI k)],[.map .str (q.1.2.map (dG datas ad))]⟩) (fun q=>d.cons.length-q.1.1) ⟨(0,acc),by omega,he⟩ ?_ ?_)
  ·refine zq rfl ?_ ?_;simp -dsimp only[simprocAttr,↓aa,aE,zc];rfl
  rintro⟨⟨n,eJ⟩,hn,pk⟩;simp only at hn pk;refine aH ?_;simp -dsimp only[simprocAttr,↓aa,aE]
  (refine I ?_;simp -dsimp only[ai,ne_eq,Nat.reduceEqDiff,reduceCtorEq])
  apply gr rfl<;>intro h
  ·(refine au ?_;simp -dsimp only[ai,ne_eq,Nat.reduceEqDiff,reduceCtorEq])
   have iB:n<d.cons.length:=by simpa using h
   obtain⟨c,hc⟩:∃c,d.cons[n]?=some c:=⟨d.cons[n],by simp[iB]⟩
   have vg:d.cons.drop n=c::d.cons.drop (n+1):=by
    rw[List.drop_eq_getElem_cons iB];rw[List.getElem?_eq_getElem iB]at hc;simp only[Option.some.injEq]at hc;rw[hc]
   rw[vg,fD]at pk;refine aG (aj ?_);refine aH ?_;simp -dsimp only[simprocAttr,↓aa,aE,hc]
   (refine I ?_;simp -dsimp only[ai,ne_eq,Nat.reduceEqDiff,reduceCtorEq])
   cases hf:find eJ c.name with
   | some x =>
    rw[hf]at pk;have hb:build datas=none:=by rw[build,pk];rfl
    refine cg ?_;simp -dsimp only[simprocAttr,↓aa,aE,jS,hf,Option.map_some,Option.getD_some];refine⟨⟨_,Tryz.underlying104⟩,?_⟩
    (refine I ?_;simp -dsimp only[ai,ne_eq,Nat.reduceEqDiff,reduceCtorEq])
    refine de rfl ?_;refine aH ?_;simp -dsimp only[simprocAttr,↓aa,aE]
    (refine I ?_;simp -dsimp only[ai,ne_eq,Nat.reduceEqDiff,reduceCtorEq])
    refine ak ?_;simp -dsimp only[simprocAttr,↓aa,aE,zr,Tryz.results14];rw[hb];exact⟨by simp[aq,ae.upto],rfl⟩
   | none =>
    rw[hf]at pk;have CF:jG (eJ.map (dG datas ad)) (.string c.name) (.ip (some ⟨ad.block,ad.off+k*3,none⟩) [.v (.string d.name),.v (.int .i64 d.params),.aC 2 (d.cons.map fa.enc) .sh])=(eJ++[(c.name,(⟨k,n,c.args.length⟩:K))]).map (dG datas ad):=by
     rw[<-A5 datas ad eJ c.name ⟨k,n,c.args.length⟩ hf];simp only[wq];rfl
    refine cg ?_;simp -dsimp only[simprocAttr,↓aa,aE,jS,hf,Option.map_none,Option.getD_none,List.getD_cons_zero];refine⟨⟨_,Tryz.underlying104⟩,?_⟩
    (refine I ?_;simp -dsimp only[ai,ne_eq,Nat.reduceEqDiff,reduceCtorEq])
    refine cB rfl ?_
    (refine au ?_;simp -dsimp only[ai,ne_eq,Nat.reduceEqDiff,reduceCtorEq])
    refine fq ?_;simp -dsimp only[simprocAttr,↓aa,aE,hd,CF];refine⟨ob (by kernel_rfl),?_⟩
    (refine I ?_;simp -dsimp only[ai,ne_eq,Nat.reduceEqDiff,reduceCtorEq])
    refine ba 1 [(18,eC d.cons),(19,aI d.cons.length),(20,aI n),(5,aI k),(0,Rg datas ad),(4,.mm 0),(10,aI datas.length),(11,aI k)] (by simp) (by simp) [.map .str ((eJ++[(c.name,(⟨k,n,c.args.length⟩:K))]).map (dG datas ad))] ?_ ?_ ?_ ?_ ?_
    ·rfl
    ·simp only[List.mem_singleton,forall_eq,ay.upto];exact fB datas ad 1 _
    ·simp -dsimp only[simprocAttr,↓aa,aE,dy,exists_eq_left',Option.some.injEq,sub_self,and_true]
    ·simp[ae.upto,aq,Data.an,fa.an]
    refine fq ?_;simp -dsimp only[simprocAttr,↓aa,aE]
    repeat(refine⟨by omega,?_⟩)
    (refine I ?_;simp -dsimp only[ai,ne_eq,Nat.reduceEqDiff,reduceCtorEq])
    refine⟨⟨(n+1,eJ++[(c.name,(⟨k,n,c.args.length⟩:K))]),iB,pk⟩,by simp;omega,?_⟩;refine zq rfl ?_ ?_;simp -dsimp only[simprocAttr,↓aa,aE,zc]
    ·exact Sub.int (by simp)
    rfl
  refine aM ?_;simp -dsimp only[ai,ne_eq,Nat.reduceEqDiff,reduceCtorEq];have nX:n=d.cons.length:=by simp at h;omega
  subst nX;rw[List.drop_length,fD]at pk;refine fq ?_;simp -dsimp only[simprocAttr,↓aa,aE]
  repeat(refine⟨by omega,?_⟩)
  (refine I ?_;simp -dsimp only[ai,ne_eq,Nat.reduceEqDiff,reduceCtorEq])
  refine⟨⟨(k+1,eJ),aN,pk⟩,by simp;omega,?_⟩;refine zq rfl ?_ ?_;simp -dsimp only[simprocAttr,↓aa,aE,zc]
  ·exact Sub.int (by simp)
  rfl
 refine aM ?_;simp -dsimp only[ai,ne_eq,Nat.reduceEqDiff,reduceCtorEq];have gg:k=datas.length:=by simp at h;omega
 subst gg;rw[List.drop_length,cK]at he;have hb:build datas=some ⟨datas,acc⟩:=by rw[build,he];rfl
 refine aR 4 0 (.im .str (acc.map (dG datas ad))) rfl (by simp[ay.aP]) trivial rfl ?_ ?_;rotate_left;simp -dsimp only[simprocAttr,↓aa,aE]
 ·refine aH ?_;simp -dsimp only[simprocAttr,↓aa,aE]
  (refine I ?_;simp -dsimp only[ai,ne_eq,Nat.reduceEqDiff,reduceCtorEq])
  refine ak ?_;simp -dsimp only[simprocAttr,↓aa,aE,zr,Tryz.results14];rw[hb];exact⟨by simp[aq,ae.upto,fB],rfl⟩
 exact da.mm rfl
theorem yQ(f:Int->Bool)(id:Nat)(cs:List ae)(iq:cs.map ae.share=cs)(bD:∀n,aq n cs)(l:List Int)
  (hf:∀x∈l,aV Tryz.prog id (aI x::cs) (.v (.bool (f x)))) :
  aV Tryz.prog 91 [eI l,.fn (.func id) [] cs] (aI (idx f l)):=by
 refine zf true 0 Tryz.func91 Tryz.ntmps91 ?_;dsimp only[Tmp,TypeId,ax];refine aH ?_;simp -dsimp only[simprocAttr,↓aa,aE]
 (refine I ?_;simp -dsimp only[ai,ne_eq,Nat.reduceEqDiff,reduceCtorEq])
 refine bT 0 rfl (fun hlen=>?_);simp only[List.length_map]at hlen;refine cg ?_;simp -dsimp only[simprocAttr,↓aa,aE]
 (refine I ?_;simp -dsimp only[ai,ne_eq,Nat.reduceEqDiff,reduceCtorEq])
 refine aj (aO (ι:={k:Nat // k<=l.length∧∀j p,j<k->l[j]?=some p->f p=false}) (fun k=>⟨19,[(0,eI l),(1,.fn (.func id) [] cs),(7,.v (.int .i64 l.length)),(8,.v (.int .i64 k.1))],[]⟩) (fun k=>l.length-k.1) ⟨0,by omega,by intros;omega⟩ ?_ ?_)
 ·refine zq rfl ?_ ?_;simp -dsimp only[simprocAttr,↓aa,aE,zc];rfl
 rintro⟨k,hk,bq⟩;refine aH ?_;simp -dsimp only[simprocAttr,↓aa,aE]
 (refine I ?_;simp -dsimp only[ai,ne_eq,Nat.reduceEqDiff,reduceCtorEq])
 apply gr rfl<;>intro h
 ·(refine au ?_;simp -dsimp only[ai,ne_eq,Nat.reduceEqDiff,reduceCtorEq])
  have aN:k<l.length:=by simpa using h
  obtain⟨p,hp⟩:∃p,l[k]?=some p:=⟨l[k],by simp[aN]⟩
  have eN:=List.mem_of_getElem? hp;refine aG (aj ?_);refine aH ?_;simp -dsimp only[simprocAttr,↓aa,aE]
  (refine I ?_;simp -dsimp only[ai,ne_eq,Nat.reduceEqDiff,reduceCtorEq])
  refine aH ?_;simp -dsimp only[simprocAttr,↓aa,aE,hp,iq];refine .inl ⟨_,(hf p eN),by simp only[aq,ae.upto,zt,iF,bD],ah ?_⟩;simp -dsimp only[simprocAttr,↓aa,aE]
  (refine I ?_;simp -dsimp only[ai,ne_eq,Nat.reduceEqDiff,reduceCtorEq])
  apply aQ rfl<;>intro h
  ·refine aH ?_;simp -dsimp only[simprocAttr,↓aa,aE]
   (refine I ?_;simp -dsimp only[ai,ne_eq,Nat.reduceEqDiff,reduceCtorEq])
   refine ak ?_;simp -dsimp only[simprocAttr,↓aa,aE,zr,Tryz.results91];rw[jw hp h bq]
  (refine au ?_;simp -dsimp only[ai,ne_eq,Nat.reduceEqDiff,reduceCtorEq])
  have hb:f p=false:=by simpa using h
  refine fq ?_;simp -dsimp only[simprocAttr,↓aa,aE];refine⟨by omega,by omega,?_⟩
  (refine I ?_;simp -dsimp only[ai,ne_eq,Nat.reduceEqDiff,reduceCtorEq])
  refine⟨⟨k+1,aN,fun j q hj hq=>?_⟩,by simp;omega,?_⟩
  ·rcases Nat.lt_succ_iff_lt_or_eq.1 hj with hj|hj
   ·exact bq j q hj hq
   subst hj;rw[hp]at hq;simp only[Option.some.injEq]at hq;rw[<-hq];exact hb
  refine zq rfl ?_ ?_;simp -dsimp only[simprocAttr,↓aa,aE,zc]
  ·exact Sub.int (by simp)
  rfl
 refine aM ?_;simp -dsimp only[ai,ne_eq,Nat.reduceEqDiff,reduceCtorEq];have aN:k=l.length:=by simp at h;omega
 subst aN;refine aH ?_;simp -dsimp only[simprocAttr,↓aa,aE]
 (refine I ?_;simp -dsimp only[ai,ne_eq,Nat.reduceEqDiff,reduceCtorEq])
 refine ak ?_;simp -dsimp only[simprocAttr,↓aa,aE,zr,Tryz.results91];rw[jv bq]
theorem nM(f:Int->Bool)(id:Nat)(cs:List ae)(iq:cs.map ae.share=cs)(bD:∀n,aq n cs)(l:List Int)
  (hf:∀x∈l,aV Tryz.prog id (aI x::cs) (.v (.bool (f x)))) :
  aV Tryz.prog 73 [eI l,.fn (.func id) [] cs] (.v (.bool (l.any f))):=by
 refine zf true 0 Tryz.func73 Tryz.ntmps73 ?_;dsimp only[Tmp,TypeId,ax];refine aH ?_;simp -dsimp only[simprocAttr,↓aa,aE]
 (refine I ?_;simp -dsimp only[ai,ne_eq,Nat.reduceEqDiff,reduceCtorEq])
 refine aH ?_;simp -dsimp only[simprocAttr,↓aa,aE,iq];refine .inl ⟨_,yQ f id cs iq bD l hf,by simp only[aq,ae.upto,zt,iF,bD],ah ?_⟩;simp -dsimp only[simprocAttr,↓aa,aE]
 (refine I ?_;simp -dsimp only[ai,ne_eq,Nat.reduceEqDiff,reduceCtorEq])
 refine ak ?_;simp -dsimp only[simprocAttr,↓aa,aE,zr,Tryz.results73];rw[np]
theorem yR(f:ByteArray->Bool)(id:Nat)(cs:List ae)(iq:cs.map ae.share=cs)(bD:∀n,aq n cs)(l:List ByteArray)
  (hf:∀x∈l,aV Tryz.prog id (nS x::cs) (.v (.bool (f x)))) :
  aV Tryz.prog 92 [Fp l,.fn (.func id) [] cs] (aI (idx f l)):=by
 refine zf true 0 Tryz.func92 Tryz.ntmps92 ?_;dsimp only[Tmp,TypeId,ax];refine aH ?_;simp -dsimp only[simprocAttr,↓aa,aE]
 (refine I ?_;simp -dsimp only[ai,ne_eq,Nat.reduceEqDiff,reduceCtorEq])
 refine bT 0 rfl (fun hlen=>?_);simp only[List.length_map]at hlen;refine cg ?_;simp -dsimp only[simprocAttr,↓aa,aE]
 (refine I ?_;simp -dsimp only[ai,ne_eq,Nat.reduceEqDiff,reduceCtorEq])
 refine aj (aO (ι:={k:Nat // k<=l.length∧∀j p,j<k->l[j]?=some p->f p=false}) (fun k=>⟨19,[(0,Fp l),(1,.fn (.func id) [] cs),(7,.v (.int .i64 l.length)),(8,.v (.int .i64 k.1))],[]⟩) (fun k=>l.length-k.1) ⟨0,by omega,by intros;omega⟩ ?_ ?_)
 ·refine zq rfl ?_ ?_;simp -dsimp only[simprocAttr,↓aa,aE,zc];rfl
 rintro⟨k,hk,bq⟩;refine aH ?_;simp -dsimp only[simprocAttr,↓aa,aE]
 (refine I ?_;simp -dsimp only[ai,ne_eq,Nat.reduceEqDiff,reduceCtorEq])
 apply gr rfl<;>intro h
 ·(refine au ?_;simp -dsimp only[ai,ne_eq,Nat.reduceEqDiff,reduceCtorEq])
  have aN:k<l.length:=by simpa using h
  obtain⟨p,hp⟩:∃p,l[k]?=some p:=⟨l[k],by simp[aN]⟩
  have eN:=List.mem_of_getElem? hp;refine aG (aj ?_);refine aH ?_;simp -dsimp only[simprocAttr,↓aa,aE]
  (refine I ?_;simp -dsimp only[ai,ne_eq,Nat.reduceEqDiff,reduceCtorEq])
  refine aH ?_;simp -dsimp only[simprocAttr,↓aa,aE,hp,iq];refine .inl ⟨_,(hf p eN),by simp only[aq,ae.upto,zt,iF,bD],ah ?_⟩;simp -dsimp only[simprocAttr,↓aa,aE]
  (refine I ?_;simp -dsimp only[ai,ne_eq,Nat.reduceEqDiff,reduceCtorEq])
  apply aQ rfl<;>intro h
  ·refine aH ?_;simp -dsimp only[simprocAttr,↓aa,aE]
   (refine I ?_;simp -dsimp only[ai,ne_eq,Nat.reduceEqDiff,reduceCtorEq])
   refine ak ?_;simp -dsimp only[simprocAttr,↓aa,aE,zr,Tryz.results92];rw[jw hp h bq]
  (refine au ?_;simp -dsimp only[ai,ne_eq,Nat.reduceEqDiff,reduceCtorEq])
  have hb:f p=false:=by simpa using h
  refine fq ?_;simp -dsimp only[simprocAttr,↓aa,aE];refine⟨by omega,by omega,?_⟩
  (refine I ?_;simp -dsimp only[ai,ne_eq,Nat.reduceEqDiff,reduceCtorEq])
  refine⟨⟨k+1,aN,fun j q hj hq=>?_⟩,by simp;omega,?_⟩
  ·rcases Nat.lt_succ_iff_lt_or_eq.1 hj with hj|hj
   ·exact bq j q hj hq
   subst hj;rw[hp]at hq;simp only[Option.some.injEq]at hq;rw[<-hq];exact hb
  refine zq rfl ?_ ?_;simp -dsimp only[simprocAttr,↓aa,aE,zc]
  ·exact Sub.int (by simp)
  rfl
 refine aM ?_;simp -dsimp only[ai,ne_eq,Nat.reduceEqDiff,reduceCtorEq];have aN:k=l.length:=by simp at h;omega
 subst aN;refine aH ?_;simp -dsimp only[simprocAttr,↓aa,aE]
 (refine I ?_;simp -dsimp only[ai,ne_eq,Nat.reduceEqDiff,reduceCtorEq])
 refine ak ?_;simp -dsimp only[simprocAttr,↓aa,aE,zr,Tryz.results92];rw[jv bq]
theorem nN(f:ByteArray->Bool)(id:Nat)(cs:List ae)(iq:cs.map ae.share=cs)(bD:∀n,aq n cs)(l:List ByteArray)
  (hf:∀x∈l,aV Tryz.prog id (nS x::cs) (.v (.bool (f x)))) :
  aV Tryz.prog 75 [Fp l,.fn (.func id) [] cs] (.v (.bool (l.any f))):=by
 refine zf true 0 Tryz.func75 Tryz.ntmps75 ?_;dsimp only[Tmp,TypeId,ax];refine aH ?_;simp -dsimp only[simprocAttr,↓aa,aE]
 (refine I ?_;simp -dsimp only[ai,ne_eq,Nat.reduceEqDiff,reduceCtorEq])
 refine aH ?_;simp -dsimp only[simprocAttr,↓aa,aE,iq];refine .inl ⟨_,yR f id cs iq bD l hf,by simp only[aq,ae.upto,zt,iF,bD],ah ?_⟩;simp -dsimp only[simprocAttr,↓aa,aE]
 (refine I ?_;simp -dsimp only[ai,ne_eq,Nat.reduceEqDiff,reduceCtorEq])
 refine ak ?_;simp -dsimp only[simprocAttr,↓aa,aE,zr,Tryz.results75];rw[np]
theorem tc(l:List ByteArray)(x:ByteArray):aV Tryz.prog 21 [Fp l,nS x] (aI (idx (fun y=>decide (x=y)) l)):=by
 refine zf true 0 Tryz.func21 Tryz.ntmps21 ?_;dsimp only[Tmp,TypeId,ax];refine aH ?_;simp -dsimp only[simprocAttr,↓aa,aE]
 (refine I ?_;simp -dsimp only[ai,ne_eq,Nat.reduceEqDiff,reduceCtorEq])
 refine bT 0 rfl (fun hlen=>?_);simp only[List.length_map]at hlen;refine cg ?_;simp -dsimp only[simprocAttr,↓aa,aE]
 (refine I ?_;simp -dsimp only[ai,ne_eq,Nat.reduceEqDiff,reduceCtorEq])
 refine aj (aO (ι:={k:Nat // k<=l.length∧∀j p,j<k->l[j]?=some p->decide (x=p)=false}) (fun k=>⟨19,[(0,Fp l),(1,nS x),(7,.v (.int .i64 l.length)),(8,.v (.int .i64 k.1))],[]⟩) (fun k=>l.length-k.1) ⟨0,by omega,by intros;omega⟩ ?_ ?_)
 ·refine zq rfl ?_ ?_;simp -dsimp only[simprocAttr,↓aa,aE,zc];rfl
 rintro⟨k,hk,bq⟩;refine aH ?_;simp -dsimp only[simprocAttr,↓aa,aE]
 (refine I ?_;simp -dsimp only[ai,ne_eq,Nat.reduceEqDiff,reduceCtorEq])
 apply gr rfl<;>intro h
 ·(refine au ?_;simp -dsimp only[ai,ne_eq,Nat.reduceEqDiff,reduceCtorEq])
  have aN:k<l.length:=by simpa using h
  obtain⟨p,hp⟩:∃p,l[k]?=some p:=⟨l[k],by simp[aN]⟩
  refine aG (aj ?_);refine aH ?_;simp -dsimp only[simprocAttr,↓aa,aE]
  (refine I ?_;simp -dsimp only[ai,ne_eq,Nat.reduceEqDiff,reduceCtorEq])
  refine aH ?_;simp -dsimp only[simprocAttr,↓aa,aE,hp]
  (refine I ?_;simp -dsimp only[ai,ne_eq,Nat.reduceEqDiff,reduceCtorEq])
  apply aQ rfl<;>intro h
  ·refine aH ?_;simp -dsimp only[simprocAttr,↓aa,aE]
   (refine I ?_;simp -dsimp only[ai,ne_eq,Nat.reduceEqDiff,reduceCtorEq])
   refine ak ?_;simp -dsimp only[simprocAttr,↓aa,aE,zr,Tryz.results21];rw[jw hp h bq]
  (refine au ?_;simp -dsimp only[ai,ne_eq,Nat.reduceEqDiff,reduceCtorEq])
  have hb:decide (x=p)=false:=by simpa using h
  refine fq ?_;simp -dsimp only[simprocAttr,↓aa,aE];refine⟨by omega,by omega,?_⟩
  (refine I ?_;simp -dsimp only[ai,ne_eq,Nat.reduceEqDiff,reduceCtorEq])
  refine⟨⟨k+1,aN,fun j q hj hq=>?_⟩,by simp;omega,?_⟩
  ·rcases Nat.lt_succ_iff_lt_or_eq.1 hj with hj|hj
   ·exact bq j q hj hq
   subst hj;rw[hp]at hq;simp only[Option.some.injEq]at hq;rw[<-hq];exact hb
  refine zq rfl ?_ ?_;simp -dsimp only[simprocAttr,↓aa,aE,zc]
  ·exact Sub.int (by simp)
  rfl
 refine aM ?_;simp -dsimp only[ai,ne_eq,Nat.reduceEqDiff,reduceCtorEq];have aN:k=l.length:=by simp at h;omega
 subst aN;refine aH ?_;simp -dsimp only[simprocAttr,↓aa,aE]
 (refine I ?_;simp -dsimp only[ai,ne_eq,Nat.reduceEqDiff,reduceCtorEq])
 refine ak ?_;simp -dsimp only[simprocAttr,↓aa,aE,zr,Tryz.results21];rw[jv bq]
theorem uX(l:List ByteArray)(x:ByteArray):aV Tryz.prog 93 [Fp l,nS x] (.v (.bool (l.any fun y=>decide (x=y)))):=by
 refine zf true 0 Tryz.func93 Tryz.ntmps93 ?_;dsimp only[Tmp,TypeId,ax];refine aH ?_;simp -dsimp only[simprocAttr,↓aa,aE]
 (refine I ?_;simp -dsimp only[ai,ne_eq,Nat.reduceEqDiff,reduceCtorEq])
 refine aH ?_;simp -dsimp only[simprocAttr,↓aa,aE];refine .inl ⟨_,tc l x,by simp only[aq,ae.upto,zt,iF],ah ?_⟩;simp -dsimp only[simprocAttr,↓aa,aE]
 (refine I ?_;simp -dsimp only[ai,ne_eq,Nat.reduceEqDiff,reduceCtorEq])
 refine ak ?_;simp -dsimp only[simprocAttr,↓aa,aE,zr,Tryz.results93];rw[np]
theorem Bk(l:List Int)(hl:l.Nodup):aV Tryz.prog 78 [eI l] (.v (.bool false)):=by
 refine zf true 0 Tryz.func78 Tryz.ntmps78 ?_;dsimp only[Tmp,TypeId,ax];refine aH ?_;simp -dsimp only[simprocAttr,↓aa,aE]
 (refine I ?_;simp -dsimp only[ai,ne_eq,Nat.reduceEqDiff,reduceCtorEq])
 refine bT 0 rfl (fun hlen=>?_);simp only[List.length_map]at hlen;refine cg ?_;simp -dsimp only[simprocAttr,↓aa,aE]
 (refine I ?_;simp -dsimp only[ai,ne_eq,Nat.reduceEqDiff,reduceCtorEq])
 refine aj (aO (ι:={k:Nat // k<=l.length}) (fun k=>⟨18,[(0,eI l),(5,eI l),(6,aI l.length),(7,aI k.1)],[]⟩) (fun k=>l.length-k.1) ⟨0,by omega⟩ ?_ ?_)
 ·refine zq rfl ?_ ?_;simp -dsimp only[simprocAttr,↓aa,aE,zc];rfl
 rintro⟨k,hk⟩;refine aH ?_;simp -dsimp only[simprocAttr,↓aa,aE]
 (refine I ?_;simp -dsimp only[ai,ne_eq,Nat.reduceEqDiff,reduceCtorEq])
 apply gr rfl<;>intro h
 ·(refine au ?_;simp -dsimp only[ai,ne_eq,Nat.reduceEqDiff,reduceCtorEq])
  have aN:k<l.length:=by simpa using h
  obtain⟨p,hp⟩:∃p,l[k]?=some p:=⟨l[k],by simp[aN]⟩
  have Up:decide (p∈l.take k)=false:=by
   rw[jZ hp]at hl;rw[List.nodup_append]at hl;exact decide_eq_false fun hm=>hl.2.2 p hm p (by simp) rfl
  refine aG (aj ?_);refine aH ?_;simp -dsimp only[simprocAttr,↓aa,aE,hp]
  (refine I ?_;simp -dsimp only[ai,ne_eq,Nat.reduceEqDiff,reduceCtorEq])
  refine aH ?_;simp -dsimp only[simprocAttr,↓aa,aE,<-List.map_take,Int.toNat_natCast]
  repeat(refine⟨by omega,?_⟩)
  refine .inl ⟨_,oC (l.take k) p,by simp only[aq,ae.upto,zt,iF],ah ?_⟩;simp -dsimp only[simprocAttr,↓aa,aE,Up]
  (refine I ?_;simp -dsimp only[ai,ne_eq,Nat.reduceEqDiff,reduceCtorEq])
  refine cB rfl ?_
  (refine au ?_;simp -dsimp only[ai,ne_eq,Nat.reduceEqDiff,reduceCtorEq])
  refine fq ?_;simp -dsimp only[simprocAttr,↓aa,aE]
  repeat(refine⟨by omega,?_⟩)
  (refine I ?_;simp -dsimp only[ai,ne_eq,Nat.reduceEqDiff,reduceCtorEq])
  refine⟨⟨k+1,aN⟩,by simp;omega,?_⟩;refine zq rfl ?_ ?_;simp -dsimp only[simprocAttr,↓aa,aE,zc]
  ·exact Sub.int (by simp)
  rfl
 refine aM ?_;simp -dsimp only[ai,ne_eq,Nat.reduceEqDiff,reduceCtorEq];refine aH ?_;simp -dsimp only[simprocAttr,↓aa,aE]
 (refine I ?_;simp -dsimp only[ai,ne_eq,Nat.reduceEqDiff,reduceCtorEq])
 refine ak ?_;simp -dsimp only[simprocAttr,↓aa,aE,zr,Tryz.results78]
theorem Bl(l:List ByteArray)(hl:l.Nodup):aV Tryz.prog 77 [Fp l] (.v (.bool false)):=by
 refine zf true 0 Tryz.func77 Tryz.ntmps77 ?_;dsimp only[Tmp,TypeId,ax];refine aH ?_;simp -dsimp only[simprocAttr,↓aa,aE]
 (refine I ?_;simp -dsimp only[ai,ne_eq,Nat.reduceEqDiff,reduceCtorEq])
 refine bT 0 rfl (fun hlen=>?_);simp only[List.length_map]at hlen;refine cg ?_;simp -dsimp only[simprocAttr,↓aa,aE]
 (refine I ?_;simp -dsimp only[ai,ne_eq,Nat.reduceEqDiff,reduceCtorEq])
 refine aj (aO (ι:={k:Nat // k<=l.length}) (fun k=>⟨18,[(0,Fp l),(5,Fp l),(6,aI l.length),(7,aI k.1)],[]⟩) (fun k=>l.length-k.1) ⟨0,by omega⟩ ?_ ?_)
 ·refine zq rfl ?_ ?_;simp -dsimp only[simprocAttr,↓aa,aE,zc];rfl
 rintro⟨k,hk⟩;refine aH ?_;simp -dsimp only[simprocAttr,↓aa,aE]
 (refine I ?_;simp -dsimp only[ai,ne_eq,Nat.reduceEqDiff,reduceCtorEq])
 apply gr rfl<;>intro h
 ·(refine au ?_;simp -dsimp only[ai,ne_eq,Nat.reduceEqDiff,reduceCtorEq])
  have aN:k<l.length:=by simpa using h
  obtain⟨p,hp⟩:∃p,l[k]?=some p:=⟨l[k],by simp[aN]⟩
  have Up:((l.take k).any fun y=>decide (p=y))=false:=by
   rw[jZ hp]at hl;rw[List.nodup_append]at hl;rw[List.any_eq_false];intro y hy;simp only[decide_eq_true_eq];exact fun e=>hl.2.2 y hy p (by simp) e.symm
  refine aG (aj ?_);refine aH ?_;simp -dsimp only[simprocAttr,↓aa,aE,hp]
  (refine I ?_;simp -dsimp only[ai,ne_eq,Nat.reduceEqDiff,reduceCtorEq])
  refine aH ?_;simp -dsimp only[simprocAttr,↓aa,aE,<-List.map_take,Int.toNat_natCast]
  repeat(refine⟨by omega,?_⟩)
  refine .inl ⟨_,uX (l.take k) p,by simp only[aq,ae.upto,zt,iF],ah ?_⟩;simp -dsimp only[simprocAttr,↓aa,aE,Up]
  (refine I ?_;simp -dsimp only[ai,ne_eq,Nat.reduceEqDiff,reduceCtorEq])
  refine cB rfl ?_
  (refine au ?_;simp -dsimp only[ai,ne_eq,Nat.reduceEqDiff,reduceCtorEq])
  refine fq ?_;simp -dsimp only[simprocAttr,↓aa,aE]
  repeat(refine⟨by omega,?_⟩)
  (refine I ?_;simp -dsimp only[ai,ne_eq,Nat.reduceEqDiff,reduceCtorEq])
  refine⟨⟨k+1,aN⟩,by simp;omega,?_⟩;refine zq rfl ?_ ?_;simp -dsimp only[simprocAttr,↓aa,aE,zc]
  ·exact Sub.int (by simp)
  rfl
 refine aM ?_;simp -dsimp only[ai,ne_eq,Nat.reduceEqDiff,reduceCtorEq];refine aH ?_;simp -dsimp only[simprocAttr,↓aa,aE]
 (refine I ?_;simp -dsimp only[ai,ne_eq,Nat.reduceEqDiff,reduceCtorEq])
 refine ak ?_;simp -dsimp only[simprocAttr,↓aa,aE,zr,Tryz.results77]
theorem CV(x:Int):aV Tryz.prog 71 [aI x] (.v (.bool (decide (x<0)))):=by
 refine zf true 0 Tryz.func71 Tryz.ntmps71 ?_;dsimp only[Tmp,TypeId,ax];refine aH ?_;simp -dsimp only[simprocAttr,↓aa,aE]
 (refine I ?_;simp -dsimp only[ai,ne_eq,Nat.reduceEqDiff,reduceCtorEq])
 refine aH ?_;simp -dsimp only[simprocAttr,↓aa,aE]
 (refine I ?_;simp -dsimp only[ai,ne_eq,Nat.reduceEqDiff,reduceCtorEq])
 refine ak ?_;simp -dsimp only[simprocAttr,↓aa,aE,zr,Tryz.results71]
theorem CW(x:Int):aV Tryz.prog 74 [aI x] (.v (.bool (decide (x < -1073741824) ||decide (1073741823<x)))):=by
 refine zf true 0 Tryz.func74 Tryz.ntmps74 ?_;dsimp only[Tmp,TypeId,ax];refine aH ?_;simp -dsimp only[simprocAttr,↓aa,aE]
 (refine I ?_;simp -dsimp only[ai,ne_eq,Nat.reduceEqDiff,reduceCtorEq])
 by_cases h1:x < -1073741824
 ·have hd:decide (x < -1073741824)=true:=decide_eq_true h1;refine aH ?_;simp -dsimp only[simprocAttr,↓aa,aE,hd]
  (refine I ?_;simp -dsimp only[ai,ne_eq,Nat.reduceEqDiff,reduceCtorEq])
  refine ak ?_;simp -dsimp only[simprocAttr,↓aa,aE,zr,Tryz.results74,hd];rfl
 have hd:decide (x < -1073741824)=false:=decide_eq_false h1;refine aH ?_;simp -dsimp only[simprocAttr,↓aa,aE,hd]
 (refine I ?_;simp -dsimp only[ai,ne_eq,Nat.reduceEqDiff,reduceCtorEq])
 refine ak ?_;simp -dsimp only[simprocAttr,↓aa,aE,zr,Tryz.results74,hd];rfl
def lF(t:bF)(ad:Addr):ae:=.im .str (t.cons.map (dG t.datas ad))
theorem CX(t:bF)(ad:Addr)(s:ByteArray)(oa:Option Addr){K:K}(hf:find t.cons s=some K):aV Tryz.prog 76 [nS s,.ip oa [lF t ad]] (.v (.bool false)):=by
 simp only[lF];refine zf true 0 Tryz.func76 Tryz.ntmps76 ?_;dsimp only[Tmp,TypeId,ax];refine aH ?_;simp -dsimp only[simprocAttr,↓aa,aE]
 (refine I ?_;simp -dsimp only[ai,ne_eq,Nat.reduceEqDiff,reduceCtorEq])
 refine aH ?_;simp -dsimp only[simprocAttr,↓aa,aE,jS,hf,Option.map_some,Option.getD_some];refine⟨⟨_,Tryz.underlying104⟩,?_⟩
 (refine I ?_;simp -dsimp only[ai,ne_eq,Nat.reduceEqDiff,reduceCtorEq])
 refine ak ?_;simp -dsimp only[simprocAttr,↓aa,aE,zr,Tryz.results76]
theorem CY(t:bF)(ad:Addr)(s s0:ByteArray)(rest:List ByteArray)(a b c d e:ae)(oa obb:Option Addr){K1 K0:K}(hf:find t.cons s=some K1)(GD:find t.cons s0=some K0)(hd:K1.data=K0.data)(ha:∀n,a.upto n) :
  aV Tryz.prog 79 [nS s,.ip oa [lF t ad],.ip obb [a,b,c,.aC 1 ((s0::rest).map nS) .sh,d,e]] (.v (.bool false)):=by
 simp only[lF];refine zf true 0 Tryz.func79 Tryz.ntmps79 ?_;dsimp only[Tmp,TypeId,ax];refine aH ?_;simp -dsimp only[simprocAttr,↓aa,aE]
 (refine I ?_;simp -dsimp only[ai,ne_eq,Nat.reduceEqDiff,reduceCtorEq])
 refine aH ?_;simp -dsimp only[simprocAttr,↓aa,aE,jS,hf,GD,hd,Option.map_some,Option.getD_some];refine⟨⟨96,_,Tryz.underlying104,(hT 96 _ Dg).sizeOf,by decide⟩,?_⟩;refine⟨ob (by kernel_rfl),?_⟩
 (refine I ?_;simp -dsimp only[ai,ne_eq,Nat.reduceEqDiff,reduceCtorEq])
 refine ak ?_;simp -dsimp only[simprocAttr,↓aa,aE,zr,Tryz.results79]
theorem E8{t:bF}{u:bc}(h:jJ t u):aV Tryz.prog 72 [u.enc] (.v (.bool true)):=by
 obtain⟨Az,_,h⟩:=h;rcases h with⟨hk,hr,hp,hn,hw,DM⟩|⟨hk,hr,hp,hn,hw,DM⟩|⟨hk,hr,hw,hp,hl,cA,_⟩|⟨hk,hr,hn,hp,hl,_⟩
 ·refine zf true 0 Tryz.func72 Tryz.ntmps72 ?_;dsimp only[Tmp,TypeId,ax];refine aH ?_;simp -dsimp only[simprocAttr,↓aa,aE]
  (refine I ?_;simp -dsimp only[ai,ne_eq,Nat.reduceEqDiff,reduceCtorEq])
  refine aR 1 0 (.ip none u.enc.cells) rfl (by simp[ay.aP]) trivial rfl ?_ ?_;rotate_left;simp -dsimp only[simprocAttr,↓aa,aE]
  ·refine cg ?_;simp -dsimp only[simprocAttr,↓aa,aE]
   (refine I ?_;simp -dsimp only[ai,ne_eq,Nat.reduceEqDiff,reduceCtorEq])
   refine aj ?_;refine aH ?_;simp -dsimp only[simprocAttr,↓aa,aE,hk]
   (refine I ?_;simp -dsimp only[ai,ne_eq,Nat.reduceEqDiff,reduceCtorEq])
   refine de rfl ?_;refine aH ?_;simp -dsimp only[simprocAttr,↓aa,aE,hr,hp,hn,hw,DM]
   (refine I ?_;simp -dsimp only[ai,ne_eq,Nat.reduceEqDiff,reduceCtorEq])
   refine ak ?_;simp -dsimp only[simprocAttr,↓aa,aE,zr,Tryz.results72]
  exact da.mp rfl rfl
 ·refine zf true 0 Tryz.func72 Tryz.ntmps72 ?_;dsimp only[Tmp,TypeId,ax];refine aH ?_;simp -dsimp only[simprocAttr,↓aa,aE]
  (refine I ?_;simp -dsimp only[ai,ne_eq,Nat.reduceEqDiff,reduceCtorEq])
  refine aR 1 0 (.ip none u.enc.cells) rfl (by simp[ay.aP]) trivial rfl ?_ ?_;rotate_left;simp -dsimp only[simprocAttr,↓aa,aE]
  ·refine cg ?_;simp -dsimp only[simprocAttr,↓aa,aE]
   (refine I ?_;simp -dsimp only[ai,ne_eq,Nat.reduceEqDiff,reduceCtorEq])
   refine aj ?_;refine aH ?_;simp -dsimp only[simprocAttr,↓aa,aE,hk]
   (refine I ?_;simp -dsimp only[ai,ne_eq,Nat.reduceEqDiff,reduceCtorEq])
   refine cB rfl ?_;refine aH ?_;simp -dsimp only[simprocAttr,↓aa,aE,hk]
   (refine I ?_;simp -dsimp only[ai,ne_eq,Nat.reduceEqDiff,reduceCtorEq])
   refine de rfl ?_;refine aH ?_;simp -dsimp only[simprocAttr,↓aa,aE,hr,hp,hn,hw,DM]
   (refine I ?_;simp -dsimp only[ai,ne_eq,Nat.reduceEqDiff,reduceCtorEq])
   refine ak ?_;simp -dsimp only[simprocAttr,↓aa,aE,zr,Tryz.results72]
  exact da.mp rfl rfl
 ·have Sn:decide ((0:Int)<u.path.length)=true:=decide_eq_true (by have:=List.length_pos_iff.2 hp;omega);have gg:decide ((u.kids.length:Int)=(u.names.length:Int)+1)=true:=decide_eq_true (by omega);refine zf true 0 Tryz.func72 Tryz.ntmps72 ?_;dsimp only[Tmp,TypeId,ax];refine aH ?_;simp -dsimp only[simprocAttr,↓aa,aE]
  (refine I ?_;simp -dsimp only[ai,ne_eq,Nat.reduceEqDiff,reduceCtorEq])
  refine aR 1 0 (.ip none u.enc.cells) rfl (by simp[ay.aP]) trivial rfl ?_ ?_;rotate_left;simp -dsimp only[simprocAttr,↓aa,aE]
  ·refine cg ?_;simp -dsimp only[simprocAttr,↓aa,aE]
   (refine I ?_;simp -dsimp only[ai,ne_eq,Nat.reduceEqDiff,reduceCtorEq])
   refine aj ?_;refine aH ?_;simp -dsimp only[simprocAttr,↓aa,aE,hk]
   (refine I ?_;simp -dsimp only[ai,ne_eq,Nat.reduceEqDiff,reduceCtorEq])
   refine cB rfl ?_;refine aH ?_;simp -dsimp only[simprocAttr,↓aa,aE,hk]
   (refine I ?_;simp -dsimp only[ai,ne_eq,Nat.reduceEqDiff,reduceCtorEq])
   refine cB rfl ?_;refine aH ?_;simp -dsimp only[simprocAttr,↓aa,aE,hk]
   (refine I ?_;simp -dsimp only[ai,ne_eq,Nat.reduceEqDiff,reduceCtorEq])
   refine de rfl ?_;refine aH ?_;simp -dsimp only[simprocAttr,↓aa,aE,hr,hw,Sn,gg]
   repeat(refine⟨by omega,?_⟩)
   (refine I ?_;simp -dsimp only[ai,ne_eq,Nat.reduceEqDiff,reduceCtorEq])
   refine ak ?_;simp -dsimp only[simprocAttr,↓aa,aE,zr,Tryz.results72]
  exact da.mp rfl rfl
 have Sn:decide ((0:Int)<u.path.length)=true:=decide_eq_true (by have:=List.length_pos_iff.2 hp;omega);have gg:decide ((u.kids.length:Int)=(u.words.length:Int)+1)=true:=decide_eq_true (by omega);refine zf true 0 Tryz.func72 Tryz.ntmps72 ?_;dsimp only[Tmp,TypeId,ax];refine aH ?_;simp -dsimp only[simprocAttr,↓aa,aE]
 (refine I ?_;simp -dsimp only[ai,ne_eq,Nat.reduceEqDiff,reduceCtorEq])
 refine aR 1 0 (.ip none u.enc.cells) rfl (by simp[ay.aP]) trivial rfl ?_ ?_;rotate_left;simp -dsimp only[simprocAttr,↓aa,aE]
 ·refine cg ?_;simp -dsimp only[simprocAttr,↓aa,aE]
  (refine I ?_;simp -dsimp only[ai,ne_eq,Nat.reduceEqDiff,reduceCtorEq])
  refine aj ?_;refine aH ?_;simp -dsimp only[simprocAttr,↓aa,aE,hk]
  (refine I ?_;simp -dsimp only[ai,ne_eq,Nat.reduceEqDiff,reduceCtorEq])
  refine cB rfl ?_;refine aH ?_;simp -dsimp only[simprocAttr,↓aa,aE,hk]
  (refine I ?_;simp -dsimp only[ai,ne_eq,Nat.reduceEqDiff,reduceCtorEq])
  refine cB rfl ?_;refine aH ?_;simp -dsimp only[simprocAttr,↓aa,aE,hk]
  (refine I ?_;simp -dsimp only[ai,ne_eq,Nat.reduceEqDiff,reduceCtorEq])
  refine cB rfl ?_;refine aH ?_;simp -dsimp only[simprocAttr,↓aa,aE,hk]
  (refine I ?_;simp -dsimp only[ai,ne_eq,Nat.reduceEqDiff,reduceCtorEq])
  refine de rfl ?_;refine aH ?_;simp -dsimp only[simprocAttr,↓aa,aE,hr,hn,Sn,gg]
  repeat(refine⟨by omega,?_⟩)
  (refine I ?_;simp -dsimp only[ai,ne_eq,Nat.reduceEqDiff,reduceCtorEq])
  refine ak ?_;simp -dsimp only[simprocAttr,↓aa,aE,zr,Tryz.results72]
 exact da.mp rfl rfl
structure E2(t:bF)(u:bc):Prop where
 row:decide (u.row<0)=false
 path:u.path.any (fun x=>decide (x<0))=false
 words:u.words.any (fun x=>decide (x < -1073741824) ||decide (1073741823<x))=false
 names:∀s∈u.names,∃K,find t.cons s=some K∧∀s0 rest,u.names=s0::rest->∃K0,find t.cons s0=some K0∧K.data=K0.data
 Xs:u.names.Nodup
 Xt:u.words.Nodup
 short:u.names.length<=1000
 kids:∀(n:Nat) x,u.kids[n]?=some x->(n≠u.names.length∧0<=x)∨(n=u.names.length∧u.kind≠2∧0<=x)∨(n=u.names.length∧u.kind=2∧∃s0 rest K0,u.names=s0::rest∧find t.cons s0=some K0∧((u.names.length=(eF t.datas K0.data).cons.length∧x=-1)∨(u.names.length≠(eF t.datas K0.data).cons.length∧0<=x)))
theorem CZ{t:bF}{u:bc}(h:jJ t u):E2 t u:=by
 obtain⟨Az,lu,h⟩:=h;have s8:u.path.any (fun x=>decide (x<0))=false:=by
  rw[List.any_eq_false];intro x hx;have:=lu x hx;simp;omega
 rcases h with⟨hk,hr,hp,hn,hw,DM⟩|⟨hk,hr,hp,hn,hw,DM⟩|⟨hk,hr,hw,hp,hl,cA,vl,i,d,hd,hf,FH⟩|⟨hk,hr,hn,hp,hl,vl,UB,FH⟩
 ·exact⟨decide_eq_false (by omega),s8,by rw[hw];rfl,by rw[hn];simp,by rw[hn];simp,by rw[hw];simp,by rw[hn];simp,by rw[DM];simp⟩
 ·exact⟨decide_eq_false (by omega),s8,by rw[hw];rfl,by rw[hn];simp,by rw[hn];simp,by rw[hw];simp,by rw[hn];simp,by rw[DM];simp⟩
 ·refine⟨decide_eq_false (by omega),s8,by rw[hw];rfl,fun s hs=>?_,vl,by rw[hw];simp,by omega,fun n x hx=>?_⟩
  ·obtain⟨K,h1,h2⟩:=hf s hs;refine⟨K,h1,fun s0 rest e=>?_⟩;obtain⟨K0,h3,h4⟩:=hf s0 (by rw[e];simp);exact⟨K0,h3,by rw[h2,h4]⟩
  obtain⟨k1,k2⟩:=FH n x hx;by_cases nX:n=u.names.length
  ·refine .inr (.inr ⟨nX,hk,?_⟩);cases K8:u.names with
   | nil=>exact absurd K8 cA
   | cons s0 rest =>
    obtain⟨K0,h3,h4⟩:=hf s0 (by rw[K8];simp);have lq:eF t.datas K0.data=d:=by
     unfold eF;rw[h4,hd];rfl
    refine⟨s0,rest,K0,rfl,h3,?_⟩;rw[lq,<-K8];by_cases he:u.names.length=d.cons.length
    ·exact .inl ⟨he,k2.2 ⟨nX,he⟩⟩
    refine .inr ⟨he,?_⟩;have:x≠-1:=fun e=>he (k2.1 e).2;omega
  refine .inl ⟨nX,?_⟩;have:x≠-1:=fun e=>nX (k2.1 e).1;omega
 refine⟨decide_eq_false (by omega),s8,?_,by rw[hn];simp,by rw[hn];simp,vl,by rw[hn];simp,fun n x hx=>?_⟩
 ·rw[List.any_eq_false];intro x hx;have:=UB x hx;simp;omega
 have Mq:=FH x (List.mem_of_getElem? hx);by_cases nX:n=u.names.length
 ·exact .inr (.inl ⟨nX,by omega,Mq⟩)
 exact .inl ⟨nX,Mq⟩
theorem F2{t:bF}{u:bc}(ad:Addr)(h:jJ t u)(k:Nat)(vj:∀y∈u.kids,y<k):aV Tryz.prog 45 [lF t ad,u.enc,aI k] (aI 0):=by
 have Rt:=E8 h;have F:=CZ h;have fc:=F.row;have CD:=nM (fun x=>decide (x<0)) 71 [] rfl (fun _=>trivial) u.path (fun x _=>CV x);rw[F.path]at CD;have Mi:=nM (fun x=>decide (x < -1073741824) ||decide (1073741823<x)) 74 [] rfl (fun _=>trivial) u.words (fun x _=>CW x);rw[F.words]at Mi;have Us:=nN (fun _=>false) 76 [.ip none [lF t ad]] rfl (fun n=>by simp[aq,ae.upto,lF,fB]) u.names (fun s hs=>by
  obtain⟨K,hf,_⟩:=F.names s hs;exact CX t ad s none hf)
 have Ut:=nN (fun _=>false) 79 [.ip none [lF t ad],.ip none [.v (.int .i64 u.kind),.v (.int .i64 u.row),.aC 1 (u.path.map aI) .sh,.aC 1 (u.names.map nS) .sh,.aC 1 (u.words.map aI) .sh,.aC 1 (u.kids.map aI) .sh]] rfl (fun n=>by simp[aq,ae.upto,lF,fB,aL,pv]) u.names (fun s hs=>by
  obtain⟨K,hf,hh⟩:=F.names s hs;cases hn:u.names with
  | nil =>
   rw[hn]at hs;cases hs
  | cons s0 rest =>
   obtain⟨K0,h1,h2⟩:=hh s0 rest hn;exact CY t ad s s0 rest _ _ _ _ _ none none hf h1 h2 (fun n=>trivial))
 have lG:∀l:List ByteArray,l.any (fun _=>false)=false:=fun l=>by simp
 rw[lG]at Us Ut;have WX:=Bl u.names F.Xs;have WY:=Bk u.words F.Xt;have UD:=F.short;have Az:=h.1;simp only[lF]at Us Ut ⊢;refine zf true 0 Tryz.func45 Tryz.ntmps45 ?_;dsimp only[Tmp,TypeId,ax];refine aH ?_;simp -dsimp only[simprocAttr,↓aa,aE]
 (refine I ?_;simp -dsimp only[ai,ne_eq,Nat.reduceEqDiff,reduceCtorEq])
 refine aR 3 0 (.ip none [.im .str (t.cons.map (dG t.datas ad))]) rfl (by simp[ay.aP]) trivial rfl ?_ ?_;rotate_left;simp -dsimp only[simprocAttr,↓aa,aE]
 ·refine aR 4 1 (.ip none u.enc.cells) rfl (by simp[ay.aP]) trivial rfl ?_ ?_;rotate_left;simp -dsimp only[simprocAttr,↓aa,aE]
  ·refine aH ?_;simp -dsimp only[simprocAttr,↓aa,aE]
   (refine I ?_;simp -dsimp only[ai,ne_eq,Nat.reduceEqDiff,reduceCtorEq])
   refine aG (aj ?_);refine aH ?_;simp -dsimp only[simprocAttr,↓aa,aE];refine .inl ⟨_,Rt,by simp only[aq,ae.upto,zt,iF,fB],ah ?_⟩;simp -dsimp only[simprocAttr,↓aa,aE]
   (refine I ?_;simp -dsimp only[ai,ne_eq,Nat.reduceEqDiff,reduceCtorEq])
   apply aQ rfl<;>intro h
   ·cases h
   refine aH ?_;simp -dsimp only[simprocAttr,↓aa,aE,fc];refine .inl ⟨_,CD,by simp only[aq,ae.upto,zt,iF,fB],ah ?_⟩;simp -dsimp only[simprocAttr,↓aa,aE];refine .inl ⟨_,Mi,by simp only[aq,ae.upto,zt,iF,fB],ah ?_⟩;simp -dsimp only[simprocAttr,↓aa,aE]
   (refine I ?_;simp -dsimp only[ai,ne_eq,Nat.reduceEqDiff,reduceCtorEq])
   apply aQ rfl<;>intro h
   ·cases h
   refine aH ?_;simp -dsimp only[simprocAttr,↓aa,aE];refine .inl ⟨_,Us,by simp only[aq,ae.upto,zt,iF,fB],ah ?_⟩;simp -dsimp only[simprocAttr,↓aa,aE]
   (refine I ?_;simp -dsimp only[ai,ne_eq,Nat.reduceEqDiff,reduceCtorEq])
   apply aQ rfl<;>intro h
   ·cases h
   refine aH ?_;simp -dsimp only[simprocAttr,↓aa,aE];refine .inl ⟨_,WX,by simp only[aq,ae.upto,zt,iF,fB],ah ?_⟩;simp -dsimp only[simprocAttr,↓aa,aE];refine .inl ⟨_,WY,by simp only[aq,ae.upto,zt,iF,fB],ah ?_⟩;simp -dsimp only[simprocAttr,↓aa,aE]
   (refine I ?_;simp -dsimp only[ai,ne_eq,Nat.reduceEqDiff,reduceCtorEq])
   apply aQ rfl<;>intro h
   ·cases h
   refine aH ?_;simp -dsimp only[simprocAttr,↓aa,aE];refine .inl ⟨_,Ut,by simp only[aq,ae.upto,zt,iF,fB],ah ?_⟩;simp -dsimp only[simprocAttr,↓aa,aE]
   (refine I ?_;simp -dsimp only[ai,ne_eq,Nat.reduceEqDiff,reduceCtorEq])
   apply aQ rfl<;>intro h
   ·cases h
   (refine au ?_;simp -dsimp only[ai,ne_eq,Nat.reduceEqDiff,reduceCtorEq])
   refine cg ?_;simp -dsimp only[simprocAttr,↓aa,aE]
   (refine I ?_;simp -dsimp only[ai,ne_eq,Nat.reduceEqDiff,reduceCtorEq])
   refine aj (aO (ι:={n:Nat // n<=u.kids.length}) (fun n=>⟨103,[(2,aI k),(3,.ip none [.im .str (t.cons.map (dG t.datas ad))]),(4,.ip none [.v (.int .i64 u.kind),.v (.int .i64 u.row),.aC 1 (u.path.map aI) .sh,.aC 1 (u.names.map nS) .sh,.aC 1 (u.words.map aI) .sh,.aC 1 (u.kids.map aI) .sh]),(50,eI u.kids),(51,aI u.kids.length),(52,aI n.1)],[.gone,.gone]⟩) (fun n=>u.kids.length-n.1) ⟨0,by omega⟩ ?_ ?_)
   ·refine zq rfl ?_ ?_;simp -dsimp only[simprocAttr,↓aa,aE,zc];rfl
   rintro⟨n,hn⟩;refine aH ?_;simp -dsimp only[simprocAttr,↓aa,aE]
   (refine I ?_;simp -dsimp only[ai,ne_eq,Nat.reduceEqDiff,reduceCtorEq])
   apply gr rfl<;>intro h
   ·(refine au ?_;simp -dsimp only[ai,ne_eq,Nat.reduceEqDiff,reduceCtorEq])
    have aN:n<u.kids.length:=by simpa using h
    obtain⟨x,hx⟩:∃x,u.kids[n]?=some x:=⟨u.kids[n],by simp[aN]⟩
    have X6:=vj x (List.mem_of_getElem? hx);have DR:decide ((k:Int)<=x)=false:=decide_eq_false (by omega);have DL:u.kids.length<=1000:=Az;refine aG (aj ?_);refine aH ?_;simp -dsimp only[simprocAttr,↓aa,aE,hx]
    (refine I ?_;simp -dsimp only[ai,ne_eq,Nat.reduceEqDiff,reduceCtorEq])
    rcases F.kids n x hx with⟨nX,Mq⟩|⟨nX,FF,Mq⟩|⟨nX,FF,s0,rest,K0,K8,GD,kn⟩
    ·have K4:decide ((n:Int)=u.names.length)=false:=decide_eq_false (by omega);have yP:decide (x=-1)=false:=decide_eq_false (by omega);have tY:decide (x < -1)=false:=decide_eq_false (by omega);refine aH ?_;simp -dsimp only[simprocAttr,↓aa,aE,K4];refine⟨ob (by kernel_rfl),?_⟩
     (refine I ?_;simp -dsimp only[ai,ne_eq,Nat.reduceEqDiff,reduceCtorEq])
     refine aH ?_;simp -dsimp only[simprocAttr,↓aa,aE,yP,tY,DR];refine⟨Tryz.underlying4,?_⟩
     (refine I ?_;simp -dsimp only[ai,ne_eq,Nat.reduceEqDiff,reduceCtorEq])
     refine cB rfl ?_
     (refine au ?_;simp -dsimp only[ai,ne_eq,Nat.reduceEqDiff,reduceCtorEq])
     refine fq ?_;simp -dsimp only[simprocAttr,↓aa,aE]
     repeat(refine⟨by omega,?_⟩)
     (refine I ?_;simp -dsimp only[ai,ne_eq,Nat.reduceEqDiff,reduceCtorEq])
     refine⟨⟨n+1,aN⟩,by simp;omega,?_⟩;refine zq rfl ?_ ?_;simp -dsimp only[simprocAttr,↓aa,aE,zc]
     ·exact Sub.int (by simp)
     rfl
    ·have K4:decide ((n:Int)=u.names.length)=true:=decide_eq_true (by omega);have yC:decide (u.kind=2)=false:=decide_eq_false FF;have yP:decide (x=-1)=false:=decide_eq_false (by omega);have tY:decide (x < -1)=false:=decide_eq_false (by omega);refine aH ?_;simp -dsimp only[simprocAttr,↓aa,aE,K4,yC];refine⟨ob (by kernel_rfl),?_⟩
     (refine I ?_;simp -dsimp only[ai,ne_eq,Nat.reduceEqDiff,reduceCtorEq])
     refine aH ?_;simp -dsimp only[simprocAttr,↓aa,aE,yP,tY,DR];refine⟨Tryz.underlying4,?_⟩
     (refine I ?_;simp -dsimp only[ai,ne_eq,Nat.reduceEqDiff,reduceCtorEq])
     refine cB rfl ?_
     (refine au ?_;simp -dsimp only[ai,ne_eq,Nat.reduceEqDiff,reduceCtorEq])
     refine fq ?_;simp -dsimp only[simprocAttr,↓aa,aE]
     repeat(refine⟨by omega,?_⟩)
     (refine I ?_;simp -dsimp only[ai,ne_eq,Nat.reduceEqDiff,reduceCtorEq])
     refine⟨⟨n+1,aN⟩,by simp;omega,?_⟩;refine zq rfl ?_ ?_;simp -dsimp only[simprocAttr,↓aa,aE,zc]
     ·exact Sub.int (by simp)
     rfl
    have K4:decide ((n:Int)=u.names.length)=true:=decide_eq_true (by omega);have yC:decide (u.kind=2)=true:=decide_eq_true FF;have Vq:decide ((0:Int)<u.names.length)=true:=decide_eq_true (by rw[K8];simp);have sr:u.names[0]?=some s0:=by rw[K8];rfl
    rcases kn with⟨he,Ld⟩|⟨he,Mq⟩
    ·have TS:decide ((u.names.length:Int)=(eF t.datas K0.data).cons.length)=true:=decide_eq_true (by omega);have yP:decide (x=-1)=true:=decide_eq_true Ld;have tY:decide (x < -1)=false:=decide_eq_false (by omega);refine aH ?_;simp -dsimp only[simprocAttr,↓aa,aE,K4,yC,Vq,sr,jS,GD,Option.map_some,Option.getD_some,TS];refine⟨ob (by kernel_rfl),?_⟩
     (refine I ?_;simp -dsimp only[ai,ne_eq,Nat.reduceEqDiff,reduceCtorEq])
     refine aH ?_;simp -dsimp only[simprocAttr,↓aa,aE,yP,tY,DR];refine⟨Tryz.underlying4,?_⟩
     (refine I ?_;simp -dsimp only[ai,ne_eq,Nat.reduceEqDiff,reduceCtorEq])
     refine cB rfl ?_
     (refine au ?_;simp -dsimp only[ai,ne_eq,Nat.reduceEqDiff,reduceCtorEq])
     refine fq ?_;simp -dsimp only[simprocAttr,↓aa,aE]
     repeat(refine⟨by omega,?_⟩)
     (refine I ?_;simp -dsimp only[ai,ne_eq,Nat.reduceEqDiff,reduceCtorEq])
     refine⟨⟨n+1,aN⟩,by simp;omega,?_⟩;refine zq rfl ?_ ?_;simp -dsimp only[simprocAttr,↓aa,aE,zc]
     ·exact Sub.int (by simp)
     rfl
    have TS:decide ((u.names.length:Int)=(eF t.datas K0.data).cons.length)=false:=decide_eq_false (by omega);have yP:decide (x=-1)=false:=decide_eq_false (by omega);have tY:decide (x < -1)=false:=decide_eq_false (by omega);refine aH ?_;simp -dsimp only[simprocAttr,↓aa,aE,K4,yC,Vq,sr,jS,GD,Option.map_some,Option.getD_some,TS];refine⟨ob (by kernel_rfl),?_⟩
    (refine I ?_;simp -dsimp only[ai,ne_eq,Nat.reduceEqDiff,reduceCtorEq])
    refine aH ?_;simp -dsimp only[simprocAttr,↓aa,aE,yP,tY,DR];refine⟨Tryz.underlying4,?_⟩
    (refine I ?_;simp -dsimp only[ai,ne_eq,Nat.reduceEqDiff,reduceCtorEq])
    refine cB rfl ?_
    (refine au ?_;simp -dsimp only[ai,ne_eq,Nat.reduceEqDiff,reduceCtorEq])
    refine fq ?_;simp -dsimp only[simprocAttr,↓aa,aE]
    repeat(refine⟨by omega,?_⟩)
    (refine I ?_;simp -dsimp only[ai,ne_eq,Nat.reduceEqDiff,reduceCtorEq])
    refine⟨⟨n+1,aN⟩,by simp;omega,?_⟩;refine zq rfl ?_ ?_;simp -dsimp only[simprocAttr,↓aa,aE,zc]
    ·exact Sub.int (by simp)
    rfl
   refine aM ?_;simp -dsimp only[ai,ne_eq,Nat.reduceEqDiff,reduceCtorEq];refine aH ?_;simp -dsimp only[simprocAttr,↓aa,aE]
   (refine I ?_;simp -dsimp only[ai,ne_eq,Nat.reduceEqDiff,reduceCtorEq])
   refine ak ?_;simp -dsimp only[simprocAttr,↓aa,aE,zr,Tryz.results45]
  exact da.mp rfl rfl
 exact da.mp rfl rfl
theorem cD(t:bF)(ad:Addr):(lF t ad).cells=[lF t ad]:=rfl
theorem cY(t:bF)(ad:Addr):(lF t ad).flat:=trivial
theorem cE(t:bF)(ad:Addr):(lF t ad).share=lF t ad:=rfl
theorem bE(t:bF)(ad:Addr):(lF t ad).bp=lF t ad:=rfl
theorem xl(n:Nat)(t:bF)(ad:Addr):(lF t ad).upto n:=fB _ _ _ _
theorem B9{datas:List Data}{t:bF}{N:List bc}(hb:build datas=some t)(lq:t.datas=datas)(cA:N≠[])(hl:N.length<=4096)(hv:gX t N):aV Tryz.prog 18 [eD datas,eT N] (aI 0):=by
 have DJ:∀ad,aV Tryz.prog 14 [Rg datas ad] (.c5 [lF t ad,aI 0]):=fun ad=>by
  have:=wZ datas ad;rw[hb]at this;unfold lF;rw[lq];exact this
 have hp:=List.length_pos_iff.2 cA;have vf:decide ((4096:Int)<N.length)=false:=decide_eq_false (by omega);have n6:decide ((N.length:Int)=0)=false:=decide_eq_false (by omega);refine zf true 0 Tryz.func18 Tryz.ntmps18 ?_;dsimp only[Tmp,TypeId,ax];refine aH ?_;simp -dsimp only[simprocAttr,↓aa,aE,cE,cD,cY,bE]
 (refine I ?_;simp -dsimp only[ai,ne_eq,Nat.reduceEqDiff,reduceCtorEq])
 refine GQ 0 rfl (fun ad=>?_);simp -dsimp only[simprocAttr,↓aa,aE,cE,cD,cY,bE];refine aH ?_;simp -dsimp only[simprocAttr,↓aa,aE,cE,cD,cY,bE];refine .inr (.inr ⟨_,(DJ ad),ah ?_⟩);simp -dsimp only[simprocAttr,↓aa,aE,cE,cD,cY,bE]
 (refine I ?_;simp -dsimp only[ai,ne_eq,Nat.reduceEqDiff,reduceCtorEq])
 refine aG (aj ?_);refine aH ?_;simp -dsimp only[simprocAttr,↓aa,aE,cE,cD,cY,bE]
 (refine I ?_;simp -dsimp only[ai,ne_eq,Nat.reduceEqDiff,reduceCtorEq])
 apply aQ rfl<;>intro h
 ·cases h
 refine aH ?_;simp -dsimp only[simprocAttr,↓aa,aE,cE,cD,cY,bE,vf]
 (refine I ?_;simp -dsimp only[ai,ne_eq,Nat.reduceEqDiff,reduceCtorEq])
 apply aQ rfl<;>intro h
 ·cases h
 refine aH ?_;simp -dsimp only[simprocAttr,↓aa,aE,cE,cD,cY,bE,n6]
 (refine I ?_;simp -dsimp only[ai,ne_eq,Nat.reduceEqDiff,reduceCtorEq])
 apply aQ rfl<;>intro h
 ·cases h
 (refine au ?_;simp -dsimp only[ai,ne_eq,Nat.reduceEqDiff,reduceCtorEq])
 refine cg ?_;simp -dsimp only[simprocAttr,↓aa,aE,cE,cD,cY,bE]
 (refine I ?_;simp -dsimp only[ai,ne_eq,Nat.reduceEqDiff,reduceCtorEq])
 refine aj (aO (ι:={n:Nat // n<=N.length}) (fun n=>⟨42,[(5,lF t ad),(27,eT N),(28,aI N.length),(29,aI n.1)],[]⟩) (fun n=>N.length-n.1) ⟨0,by omega⟩ ?_ ?_)
 ·refine zq rfl ?_ ?_;simp -dsimp only[simprocAttr,↓aa,aE,cE,cD,cY,bE,zc];rfl
 rintro⟨n,hn⟩;refine aH ?_;simp -dsimp only[simprocAttr,↓aa,aE,cE,cD,cY,bE]
 (refine I ?_;simp -dsimp only[ai,ne_eq,Nat.reduceEqDiff,reduceCtorEq])
 apply gr rfl<;>intro h
 ·(refine au ?_;simp -dsimp only[ai,ne_eq,Nat.reduceEqDiff,reduceCtorEq])
  have aN:n<N.length:=by simpa using h
  obtain⟨u,hu⟩:∃u,N[n]?=some u:=⟨N[n],by simp[aN]⟩
  obtain⟨v1,v2,v3⟩:=hv n u hu;refine aG (aj ?_);refine aH ?_;simp -dsimp only[simprocAttr,↓aa,aE,cE,cD,cY,bE,hu]
  (refine I ?_;simp -dsimp only[ai,ne_eq,Nat.reduceEqDiff,reduceCtorEq])
  refine aR 8 0 (.ip none u.enc.cells) rfl (by simp[ay.aP]) trivial rfl ?_ ?_;rotate_left;simp -dsimp only[simprocAttr,↓aa,aE,cE,cD,cY,bE]
  ·refine aH ?_;simp -dsimp only[simprocAttr,↓aa,aE,cE,cD,cY,bE];refine .inl ⟨_,F2 ad v3 n v1,by simp only[aq,ae.upto,zt,iF,xl],ah ?_⟩;simp -dsimp only[simprocAttr,↓aa,aE,cE,cD,cY,bE]
   (refine I ?_;simp -dsimp only[ai,ne_eq,Nat.reduceEqDiff,reduceCtorEq])
   refine aH ?_;simp -dsimp only[simprocAttr,↓aa,aE,cE,cD,cY,bE]
   (refine I ?_;simp -dsimp only[ai,ne_eq,Nat.reduceEqDiff,reduceCtorEq])
   refine cB rfl ?_
   (refine au ?_;simp -dsimp only[ai,ne_eq,Nat.reduceEqDiff,reduceCtorEq])
   refine ba 0 [(5,lF t ad),(27,eT N),(28,aI N.length),(29,aI n)] (by omega) (by omega) [] ?_ ?_ ?_ ?_ ?_
   ·rfl
   ·simp
   ·simp -dsimp only[simprocAttr,↓aa,aE,cE,cD,cY,bE,dy,exists_eq_left',Option.some.injEq,sub_self,and_true]
   ·simp[ae.upto,aq,bc.an,xl]
   refine fq ?_;simp -dsimp only[simprocAttr,↓aa,aE,cE,cD,cY,bE]
   repeat(refine⟨by omega,?_⟩)
   (refine I ?_;simp -dsimp only[ai,ne_eq,Nat.reduceEqDiff,reduceCtorEq])
   refine⟨⟨n+1,aN⟩,by simp;omega,?_⟩;refine zq rfl ?_ ?_;simp -dsimp only[simprocAttr,↓aa,aE,cE,cD,cY,bE,zc]
   ·exact Sub.int (by simp)
   rfl
  exact da.mp rfl rfl
 refine aM ?_;simp -dsimp only[ai,ne_eq,Nat.reduceEqDiff,reduceCtorEq];refine aH ?_;simp -dsimp only[simprocAttr,↓aa,aE,cE,cD,cY,bE]
 (refine I ?_;simp -dsimp only[ai,ne_eq,Nat.reduceEqDiff,reduceCtorEq])
 refine ak ?_;simp -dsimp only[simprocAttr,↓aa,aE,cE,cD,cY,bE,zr,Tryz.results18]
end Go.Proofs.YtkkookchlddbkaaGreat.V
namespace Go.Proofs.YtkkookchlddbkaaGreat.V
def Edge(L:List bc)(i y:Int):Prop:=∃u,nodeAt L i=some u∧y∈u.kids∧0<=y∧y<i
theorem xH:∀{l:List Pat} {vs:List lE},(∀p∈l,p.free=true)->l.length=vs.length->eY l vs
 | [],[],_,_=>by simp[eY]
 | [],_::_,_,h=>by simp at h
 | _::_,[],_,h=>by simp at h
 | p::l,v::vs,h,hl=>by
  simp only[eY];refine⟨v,vs,rfl,?_,xH (fun q hq=>h q (by simp[hq])) (by simpa using hl)⟩;rw[gH,if_pos (h p (by simp))];trivial
theorem xm{c:Nat}{rows:List a8}:∀{l:List fa},(dM c rows l).length<l.length↔∃k∈l,rows.any (a8.has c fun p=>decide (p.name=k.name))=false
 | []=>by simp[dM]
 | k::l=>by
  have ih:=xm (c:=c) (rows:=rows) (l:=l);have hle:(dM c rows l).length<=l.length:=List.length_filter_le _ _;unfold dM at ih hle ⊢;rw[List.filter_cons];split
  ·rename_i h;rw[List.length_cons,List.length_cons,Nat.add_lt_add_iff_right,ih];constructor
   ·rintro⟨x,hx,q⟩;exact⟨x,by simp[hx],q⟩
   rintro⟨x,hx,q⟩;rcases List.mem_cons.1 hx with rfl|hx
   ·rw[h]at q;cases q
   exact⟨x,hx,q⟩
  rename_i h;rw[List.length_cons];constructor
  ·intro _;exact⟨k,by simp,by simpa using h⟩
  intro _;omega
theorem any_false{rows:List a8}{c:Nat}{f:Pat->Bool}(h:rows.any (a8.has c f)=false){r:a8}(hr:r∈rows){p:Pat}(hp:r.bP[c]?=some p)(cx:p.free=false):f p=false:=by
 have:=List.any_eq_false.1 h r hr;cases hf:f p with
 | false=>rfl
 | true=>exact absurd (yB.2 ⟨p,hp,cx,hf⟩) this
theorem Ar{rows:List (List Pat)}{vs:List lE}{z:Int}(h:dB (dS 0 rows) vs (some z)):∃k:Nat,z=k∧k<rows.length:=by
 obtain⟨a,x,b,e,h1,_,_⟩:=rk.1 h;have hx:(dS 0 rows)[a.length]?=some x:=by
  rw[e];simp
 rw[mO]at hx;cases UA:rows[a.length]? with
 | none =>
  rw[UA]at hx;cases hx
 | some r' =>
  rw[UA]at hx;simp only[Option.map_some,Option.some.injEq]at hx;subst hx;exact⟨a.length,by rw[<-h1];simp,(List.getElem?_eq_some_iff.1 UA).1⟩
def E7:List Pat->List Int->Pat->Option Pat
 | _,[],v=>some v
 | vs,k::r,_=>match vs[k.toNat]? with
  | none=>none
  | some v=>E7 v.args r v
theorem zU:∀(q:List Int) (vs:List Pat) (v0:Pat) (k:Int),q≠[]->E7 vs (q++[k]) v0=(E7 vs q v0).bind fun v=>v.args[k.toNat]?
 | [],_,_,_,h=>absurd rfl h
 | [a],vs,v0,k,_=>by
  simp only[List.singleton_append,E7];cases vs[a.toNat]? with
  | none=>rfl
  | some v =>
   simp only[Option.bind_some];cases v.args[k.toNat]? with
   | none=>rfl
   | some w=>rfl
 | a::b::q,vs,v0,k,_=>by
  rw[List.cons_append,E7,E7];cases vs[a.toNat]? with
  | none=>rfl
  | some v=>exact zU (b::q) v.args v k (by simp)
mutual
def Pat.known:Pat->Bool
 | .mk k _ _ l=>(decide (k=2) || decide (k=3))&&eG l
def eG:List Pat->Bool
 | []=>true
 | p::r=>p.known&&eG r
end
theorem Pat.vt(p:Pat):p.known=((decide (p.kind=2) ||decide (p.kind=3))&&eG p.args):=by
 cases p;rw[Pat.known];rfl
theorem nr:∀{l:List Pat},eG l=true↔∀p∈l,p.known=true
 | []=>by simp[eG]
 | p::r=>by simp[eG,nr (l:=r)]
mutual
def Pat.val:Pat->lE
 | .mk k s n l=>if k=2 then .int n else .gu s (Gt l)
def Gt:List Pat->List lE
 | []=>[]
 | p::r=>p.val::Gt r
end
theorem v7:∀l:List Pat,Gt l=l.map Pat.val
 | []=>rfl
 | p::r=>by rw[Gt,v7 r,List.map_cons]
theorem Pat.KM(p:Pat):p.val=if p.kind=2 then .int p.n else .gu p.name (p.args.map Pat.val):=by
 cases p;rw[Pat.val,v7];rfl
theorem CL{p:Pat}(h:p.known=true):p.free=false:=by
 rw[Pat.vt]at h;cases hf:p.free with
 | false=>rfl
 | true =>
  rcases(Pat.mF p).1 hf with e|e<;>simp[e]at h
def tm(j:Int)(ks:List Int):Option Int:=if j<0 then ks[ks.length-1]? else ks[j.toNat]?
def xY(N:List bc)(values:List Pat):Nat->Nat->Int->Prop
 | 0,_,_=>False
 | f+1,k,z=>∃u,N[k]?=some u∧((u.kind=0∧z=-1)∨(u.kind=1∧z=u.row) ∨
  ∃v,E7 values u.path Pat.any=some v∧∃y,0<=y∧xY N values f y.toNat z ∧
   ((u.kind=3∧v.kind=2∧tm (idx (fun w=>decide (v.n=w)) u.words) u.kids=some y)∨(u.kind=2∧v.kind=3∧tm (idx (fun s=>decide (v.name=s)) u.names) u.kids=some y)))
theorem xg{α β:Type}{R:α->β->Prop}:∀{l:List α} {m:List β} (n:Nat),jD R l m->jD R (l.take n) (m.take n)
 | _,_,0,_=>by simpa using jD.nil
 | _,_,n+1,.nil=>by simpa using jD.nil
 | _,_,n+1,.cons h k=>by simpa using jD.cons h (xg n k)
theorem xf{α β:Type}{R:α->β->Prop}:∀{l:List α} {m:List β} (n:Nat),jD R l m->jD R (l.drop n) (m.drop n)
 | _,_,0,h=>by simpa using h
 | _,_,n+1,.nil=>by simpa using jD.nil
 | _,_,n+1,.cons h k=>by simpa using xf n k
theorem oq{α β:Type}{R:α->β->Prop}:∀{l:List α} {m:List β} {n:Nat} {x:α},jD R l m->l[n]?=some x->∃y,m[n]?=some y∧R x y
 | _,_,_,_,.nil,h=>by simp at h
 | _,_,0,x,.cons h _,hx=>by
  simp only[List.getElem?_cons_zero,Option.some.injEq]at hx;subst hx;exact⟨_,rfl,h⟩
 | _,_,n+1,x,.cons _ k,hx=>by
  simp only[List.getElem?_cons_succ]at hx ⊢;exact oq k hx
theorem ot{α β:Type}{R:α->β->Prop}:∀{l:List α} {m:List β},l.length=m.length->(∀(n:Nat) x y,l[n]?=some x->m[n]?=some y->R x y)->jD R l m
 | [],[],_,_=>.nil
 | [],_::_,h,_=>by simp at h
 | _::_,[],h,_=>by simp at h
 | x::l,y::m,h,hR=>.cons (hR 0 x y rfl rfl) (ot (by simpa using h) fun n a b ha hb=>hR (n+1) a b (by simpa using ha) (by simpa using hb))
theorem DW{α:Type}{f:α->Bool}{l:List α}:(∃j:Nat,idx f l=j∧∃x,l[j]?=some x∧f x=true)∨(idx f l=-1∧∀x∈l,f x=false):=by
 unfold idx;cases h:l.findIdx? f with
 | none =>
  exact .inr ⟨rfl,List.findIdx?_eq_none_iff.1 h⟩
 | some j =>
  obtain⟨p,h1,h2,_⟩:=kW h;exact .inl ⟨j,rfl,p,h1,h2⟩
theorem xL{j:Nat}{ks:List Int}{o:Int}{y:Int}(h:ks[j]?=some y):tm (j:Int) (ks++[o])=some y:=by
 unfold tm;rw[if_neg (by omega),Int.toNat_natCast,List.getElem?_append_left (List.getElem?_eq_some_iff.1 h).1];exact h
theorem vI{ks:List Int}{o:Int}:tm (-1) (ks++[o])=some o:=by
 unfold tm;rw[if_pos (by omega)];simp
abbrev xX(values:List Pat)(paths:List (List Int))(vs:List Pat):Prop:=jD (fun q w=>E7 values q Pat.any=some w) paths vs
theorem nB{values:List Pat}{paths:List (List Int)}{vs:List Pat}(h:xX values paths vs){c many:Nat}{q:List Int}(hq:paths[c]?=some q)(cA:q≠[]){w:Pat}(hw:vs[c]?=some w){xs:List Pat}(CH:xs.length=many)(nY:∀k:Nat,k<many->w.args[k]?=xs[k]?) :
  xX values (bR paths c many) (vs.take c++(vs.drop (c+1)++xs)):=by
 have hb:bR paths c many=paths.take c++(paths.drop (c+1)++qE q many):=by
  unfold bR;rw[hq,List.append_assoc];rfl
 rw[hb];refine ju (xg c h) (ju (xf (c+1) h) ?_);refine ot (by rw[rZ,CH]) fun n x y hx hy=>?_;obtain⟨w',xA,wq⟩:=oq h hq;rw[hw]at xA;cases xA;have hn:n<many:=by
  have:=(List.getElem?_eq_some_iff.1 hx).1;rw[rZ]at this;exact this
 unfold qE at hx;rw[List.getElem?_map,List.getElem?_range hn]at hx;simp only[Option.map_some,Option.some.injEq]at hx;subst hx;rw[zU _ _ _ _ cA,wq,Option.bind_some,Int.toNat_natCast,nY n hn,hy]
theorem bt.rest{t:bF}{vs xs:List Pat}{tys nt:List Ty}{c:Nat}{ty:Ty}{w:Pat}(h:bt t vs tys)(hc:tys[c]?=some ty)(hw:vs[c]?=some w)(hx:bt t xs nt):bt t (vs.take c++(vs.drop (c+1)++xs)) (tys.take c++(tys.drop (c+1)++nt)):=by
 obtain⟨h1,_,h3⟩:=h.parts hc hw;exact h1.append (h3.append hx)
theorem qt{vs xs:List Pat}(c:Nat)(h:eG vs=true)(hx:eG xs=true):eG (vs.take c++(vs.drop (c+1)++xs))=true:=by
 rw[nr]at h hx ⊢;intro p hp;rcases List.mem_append.1 hp with hp|hp
 ·exact h p (List.mem_of_mem_take hp)
 rcases List.mem_append.1 hp with hp|hp
 ·exact h p (List.mem_of_mem_drop hp)
 exact hx p hp
def OQ:Option Int->Int
 | none=>-1
 | some z=>z
theorem D3{t:bF}{N:List bc}(values:List Pat):∀(fu:Nat) (rows:List a8) (paths:List (List Int)) (tys:List Ty) (i:Nat) (vs:List Pat) (z:Option Int),tU t rows paths tys->gS (bw t) fu rows paths N i->bt t vs tys->eG vs=true->xX values paths vs->dB rows (vs.map Pat.val) z->xY N values fu i (OQ z)
 | 0,_,_,_,_,_,_,_,h,_,_,_,_=>h.elim
 | fu+1,rows,paths,tys,i,vs,z,cX,h,eW,HR,oM,HL=>by
  have ih:=D3 (t:=t) (N:=N) values fu;have Mb:∀{rows:List a8} {paths:List (List Int)} {y:Int},gS (bw t) fu rows paths N y->gS (bw t) fu rows paths N (y.toNat:Int):=fun q=>by
   have:=q.lt;rw[Int.toNat_of_nonneg this.1];exact q
  unfold gS at h;rw[xY];split at h
  ·rw[lv]at h;simp only[dB]at HL;subst HL;exact⟨_,h,.inl ⟨rfl,rfl⟩⟩
  rename_i r0 rs;split at h
  ·rename_i hi;rw[lv]at h;have bq:∀p∈r0.bP,p.free=true:=fun p hp=>by
    have:=List.findIdx?_eq_none_iff.1 hi p hp;simpa using this
   have hm:eY r0.bP (vs.map Pat.val):=xH bq (by rw[List.length_map,eW.len,(cX.m.typed r0 (by simp)).len]);rcases HL with⟨_,e⟩|⟨e,_⟩
   ·subst e;exact⟨_,h,.inr (.inl ⟨rfl,rfl⟩)⟩
   exact absurd hm e
  rename_i c hi;obtain⟨p,hp,cx,_⟩:=kW hi;have cx:p.free=false:=by simpa using cx
  obtain⟨ty,hc,ha,hk⟩:=cX.column (r:=r0) (by simp) hp cx;have H3:=(cX.other hc ha).1;have aN:=(List.getElem?_eq_some_iff.1 hc).1;obtain⟨q,hq⟩:∃q,paths[c]?=some q:=⟨paths[c]'(by rw[cX.len];exact aN),by simp⟩
  have PW:=(cX.jz q (List.mem_of_getElem? hq)).1;obtain⟨w,hw⟩:∃w,vs[c]?=some w:=⟨vs[c]'(by rw[eW.len];exact aN),by simp⟩
  obtain⟨w',xA,wq⟩:=oq oM hq;rw[hw]at xA;cases xA;have Tm:w.known=true:=nr.1 HR w (List.mem_of_getElem? hw);have OJ:=CL Tm;obtain⟨t1,t2,t3⟩:=eW.parts hc hw;have P0:vs.map Pat.val=(vs.take c).map Pat.val++w.val::(vs.drop (c+1)).map Pat.val:=by
   conv=>lhs;rw[jZ hw]
   simp
  have Tj:((vs.take c).map Pat.val).length=c:=by
   rw[List.length_map,List.length_take,eW.len];omega
  have qo:c+1+((vs.drop (c+1)).map Pat.val).length=tys.length:=by
   rw[List.length_map,List.length_drop,eW.len];omega
  rw[P0]at HL;have L9:∀xs:List Pat,(vs.take c++(vs.drop (c+1)++xs)).map Pat.val=(vs.take c).map Pat.val++((vs.drop (c+1)).map Pat.val++xs.map Pat.val):=fun xs=>by simp
  rw[hp]at h;simp only at h;generalize hR:r0::rs=rows at *;rcases hk with⟨k2,e2⟩|⟨k3,j,F,d,K,e3,XW,hK,hd,lV⟩
  ·subst e2;rw[if_pos k2]at h;obtain⟨ks,o,h1,h2,h3⟩:=h;rw[lv,hq,Option.getD_some]at h1;have SF:w.kind=2:=by
    rcases t2.kind OJ with⟨k,_⟩|⟨_,_,_,_,e,_⟩
    ·exact k
    cases e
   have yO:w.val=.int w.n:=by rw[Pat.KM,if_pos SF]
   rw[yO]at HL;have SC:=eW.rest (xs:=[]) (nt:=[]) hc hw rfl;have HS:=qt c HR (xs:=[]) rfl;have Sm:=nB oM hq PW hw (many:=0) (xs:=[]) rfl (fun k hk=>by omega);refine⟨_,h1,.inr (.inr ⟨w,wq,?_⟩)⟩;rcases DW (f:=fun y=>decide (w.n=y)) (l:=dI c [] rows)with⟨n,hn,x,hx,Ld⟩|⟨hn,bq⟩
   ·have Ld:w.n=x:=of_decide_eq_true Ld;subst Ld;obtain⟨y,hy,r⟩:=oq h2 hx;refine⟨y,r.lt.1,ih _ _ _ _ _ _ (cX.word hc ha w.n).1 (Mb r) SC HS Sm ?_,.inl ⟨rfl,SF,?_⟩⟩
    ·rw[L9];exact(Ct cX.m hc Tj qo z).2 HL
    simp only;rw[hn];exact xL hy
   refine⟨o,h3.lt.1,ih _ _ _ _ _ _ H3 (Mb h3) SC HS Sm ?_,.inl ⟨rfl,SF,?_⟩⟩
   ·rw[L9];refine(sY cX.m hc Tj qo (fun r hr p' FN tM hm=>?_) z).2 HL;rw[gH,tM]at hm;have FF:p'.kind=2:=by
     rcases((cX.m.typed r hr).parts hc FN).2.1.kind tM with⟨k,_⟩|⟨_,_,_,_,e,_⟩
     ·exact k
     cases e
    simp only[Bool.false_eq_true,if_false,FF,if_true,lE.int.injEq]at hm;have:=bq p'.n (kF.2 (.inr ⟨r,hr,p',FN,tM,rfl⟩));exact(of_decide_eq_false this) hm
   simp only;rw[hn];exact vI
  subst e3;rw[if_neg (by omega),lV]at h;obtain⟨ks,o,h1,h2,h3⟩:=h;rw[lv,hq,Option.getD_some]at h1;obtain⟨V2,K',fA,Wk,La⟩:w.kind=3∧∃K',find t.cons w.name=some K'∧K'.data=j∧bt t w.args (F w.name):=by
   rcases t2.kind OJ with⟨_,e⟩|⟨k,_,_,K',e,a1,a2,a3⟩
   ·cases e
   cases e;exact⟨k,K',a1,a2,a3⟩
  have yO:w.val=.gu w.name (w.args.map Pat.val):=by rw[Pat.KM,if_neg (by omega)]
  rw[yO]at HL;have WM:eG w.args=true:=by
   rw[Pat.vt]at Tm;simp only[Bool.and_eq_true]at Tm;exact Tm.2
  refine⟨_,h1,.inr (.inr ⟨w,wq,?_⟩)⟩;rcases DW (f:=fun s=>decide (w.name=s)) (l:=(dM c rows d.cons).map fa.name)with⟨n,hn,s,hs,W6⟩|⟨hn,bq⟩
  ·rw[List.getElem?_map]at hs;cases hx:(dM c rows d.cons)[n]? with
   | none =>
    rw[hx]at hs;cases hs
   | some x =>
    rw[hx]at hs;simp only[Option.map_some,Option.some.injEq]at hs;have Xe:x.name=w.name:=by
     rw[hs];exact(of_decide_eq_true W6).symm
    obtain⟨yP,tY⟩:=List.mem_filter.1 (List.mem_of_getElem? hx);obtain⟨hF,_,K9,_⟩:=cX.gu hc hd yP tY;obtain⟨y,hy,r⟩:=oq h2 hx;rw[<-Xe]at La HL;have mT:w.args.length=x.args.length:=by rw[La.len,hF]
    refine⟨y,r.lt.1,ih _ _ _ _ _ _ K9 (Mb r) (eW.rest hc hw La) (qt c HR WM) (nB oM hq PW hw mT (fun k _=>rfl)) ?_,.inr ⟨rfl,V2,?_⟩⟩
    ·rw[L9,<-hF];exact(Fv cX.m hc Tj qo (by rw[List.length_map,La.len]) z).2 HL
    simp only;rw[hn];exact xL hy
  obtain⟨d',k,rz,hk,HS,_⟩:=cX.m.EU.back _ _ fA;rw[Wk,hd]at rz;cases rz;have lG:rows.any (a8.has c fun p=>decide (p.name=k.name))=false:=by
   cases BB:rows.any (a8.has c fun p=>decide (p.name=k.name))with
   | false=>rfl
   | true =>
    have:=bq k.name (List.mem_map.2 ⟨k,List.mem_filter.2 ⟨hk,BB⟩,rfl⟩);exact absurd HS.symm (of_decide_eq_false this)
  rw[if_pos (xm.2 ⟨k,hk,lG⟩)]at h3;refine⟨o,h3.lt.1,ih _ _ _ _ _ _ H3 (Mb h3) (eW.rest (xs:=[]) (nt:=[]) hc hw rfl) (qt c HR (xs:=[]) rfl) (nB oM hq PW hw (many:=0) (xs:=[]) rfl (fun k hk=>by omega)) ?_,.inr ⟨rfl,V2,?_⟩⟩
  ·rw[L9];refine(sY cX.m hc Tj qo (fun r hr p' FN tM hm=>?_) z).2 HL;have cA:=any_false lG hr FN tM;have wu:p'.kind=3:=by
    rcases((cX.m.typed r hr).parts hc FN).2.1.kind tM with⟨_,e⟩|⟨k3,_⟩
    ·cases e
    exact k3
   rw[gH,tM,if_neg (by simp),wu,if_neg (by decide)]at hm;obtain⟨_,e,_⟩:=hm;simp only[lE.gu.injEq]at e;exact(of_decide_eq_false cA) (by rw[<-e.1,HS])
  simp only;rw[hn];exact vI
end Go.Proofs.YtkkookchlddbkaaGreat.V
namespace Go.Proofs.YtkkookchlddbkaaGreat.V
open Go.Av
abbrev SY:List ae:=[.v (.int .i64 0),.v (.string ByteArray.empty),.v (.int .i64 0),.aC 4 [] .ex]
abbrev TA(v:Pat):List ae:=[.v (.int .i64 v.kind),.v (.string v.name),.v (.int .i64 v.n),.aC 4 (v.args.map Pat.enc) .sh]
theorem Lo(values:List Pat)(path:List Int)(v:Pat)(wq:E7 values path Pat.any=some v)(lu:∀x∈path,0<=x)(cA:path≠[]):aV Tryz.prog 19 [eR values,eI path] (.c5 [v.enc,.v (.bool true)]):=by
 refine zf true 0 Tryz.func19 Tryz.ntmps19 ?_;dsimp only[Tmp,TypeId,ax];refine aH ?_;simp -dsimp only[simprocAttr,↓aa,aE]
 (refine I ?_;simp -dsimp only[ai,ne_eq,Nat.reduceEqDiff,reduceCtorEq])
 refine aH ?_;simp -dsimp only[simprocAttr,↓aa,aE]
 (refine I ?_;simp -dsimp only[ai,ne_eq,Nat.reduceEqDiff,reduceCtorEq])
 refine bT 1 rfl (fun hlen=>?_);simp only[List.length_map]at hlen;refine cg ?_;simp -dsimp only[simprocAttr,↓aa,aE]
 (refine I ?_;simp -dsimp only[ai,ne_eq,Nat.reduceEqDiff,reduceCtorEq])
 refine aj (aO (ι:={q:Nat×List Pat×Pat // q.1<=path.length∧E7 q.2.1 (path.drop q.1) q.2.2=some v}) (fun q=>⟨28,[(0,eR q.1.2.1),(4,.mp 0 0),(6,.mp 1 0),(9,eI path),(10,aI path.length),(11,aI q.1.1)],[.cells SY,.cells (if q.1.1=0 then SY else TA q.1.2.2)]⟩) (fun q=>path.length-q.1.1) ⟨(0,values,Pat.any),by omega,by simpa using wq⟩ ?_ ?_)
 ·refine zq rfl ?_ ?_;simp -dsimp only[simprocAttr,↓aa,aE,zc];rfl
 rintro⟨⟨k,vs,w⟩,hk,hw⟩;simp only at hk hw;refine aH ?_;simp -dsimp only[simprocAttr,↓aa,aE]
 (refine I ?_;simp -dsimp only[ai,ne_eq,Nat.reduceEqDiff,reduceCtorEq])
 apply gr rfl<;>intro h
 ·(refine au ?_;simp -dsimp only[ai,ne_eq,Nat.reduceEqDiff,reduceCtorEq])
  have aN:k<path.length:=by simpa using h
  obtain⟨y,hy⟩:∃y,path[k]?=some y:=⟨path[k],by simp[aN]⟩
  have Xf:=lu y (List.mem_of_getElem? hy);obtain⟨yn,rfl⟩:∃n:Nat,y=n:=⟨y.toNat,by omega⟩
  have gy:path.drop k=(yn:Int)::path.drop (k+1):=by
   obtain⟨hc,e⟩:=List.getElem?_eq_some_iff.1 hy;rw[List.drop_eq_getElem_cons hc,e]
  rw[gy,E7,Int.toNat_natCast]at hw;obtain⟨p,hp⟩:∃p,vs[yn]?=some p:=by
   cases hq:vs[yn]? with
   | none =>
    rw[hq]at hw;cases hw
   | some p=>exact⟨p,rfl⟩
  rw[hp]at hw;have Xg:=(List.getElem?_eq_some_iff.1 hp).1;have ql:decide ((vs.length:Int)<=yn)=false:=decide_eq_false (by omega);by_cases DK:k=0
  ·subst DK;simp only[if_true];refine aG (aj ?_);refine aH ?_;simp -dsimp only[simprocAttr,↓aa,aE,hy]
   (refine I ?_;simp -dsimp only[ai,ne_eq,Nat.reduceEqDiff,reduceCtorEq])
   refine cg ?_;simp -dsimp only[simprocAttr,↓aa,aE,ql]
   (refine I ?_;simp -dsimp only[ai,ne_eq,Nat.reduceEqDiff,reduceCtorEq])
   refine cB rfl ?_
   (refine au ?_;simp -dsimp only[ai,ne_eq,Nat.reduceEqDiff,reduceCtorEq])
   refine aH ?_;simp -dsimp only[simprocAttr,↓aa,aE,hp]
   (refine I ?_;simp -dsimp only[ai,ne_eq,Nat.reduceEqDiff,reduceCtorEq])
   refine fq ?_;simp -dsimp only[simprocAttr,↓aa,aE]
   (refine I ?_;simp -dsimp only[ai,ne_eq,Nat.reduceEqDiff,reduceCtorEq])
   refine fq ?_;simp -dsimp only[simprocAttr,↓aa,aE]
   repeat(refine⟨by omega,?_⟩)
   (refine I ?_;simp -dsimp only[ai,ne_eq,Nat.reduceEqDiff,reduceCtorEq])
   refine⟨⟨(1,p.args,p),aN,hw⟩,by simp;omega,?_⟩;refine zq rfl ?_ ?_;simp -dsimp only[simprocAttr,↓aa,aE,zc];rfl
  rw[if_neg DK];refine aG (aj ?_);refine aH ?_;simp -dsimp only[simprocAttr,↓aa,aE,hy]
  (refine I ?_;simp -dsimp only[ai,ne_eq,Nat.reduceEqDiff,reduceCtorEq])
  refine cg ?_;simp -dsimp only[simprocAttr,↓aa,aE,ql]
  (refine I ?_;simp -dsimp only[ai,ne_eq,Nat.reduceEqDiff,reduceCtorEq])
  refine cB rfl ?_
  (refine au ?_;simp -dsimp only[ai,ne_eq,Nat.reduceEqDiff,reduceCtorEq])
  refine aH ?_;simp -dsimp only[simprocAttr,↓aa,aE,hp]
  (refine I ?_;simp -dsimp only[ai,ne_eq,Nat.reduceEqDiff,reduceCtorEq])
  refine fq ?_;simp -dsimp only[simprocAttr,↓aa,aE]
  (refine I ?_;simp -dsimp only[ai,ne_eq,Nat.reduceEqDiff,reduceCtorEq])
  refine fq ?_;simp -dsimp only[simprocAttr,↓aa,aE]
  repeat(refine⟨by omega,?_⟩)
  (refine I ?_;simp -dsimp only[ai,ne_eq,Nat.reduceEqDiff,reduceCtorEq])
  refine⟨⟨(k+1,p.args,p),aN,hw⟩,by simp;omega,?_⟩;refine zq rfl ?_ ?_;simp -dsimp only[simprocAttr,↓aa,aE,zc]
  ·exact Sub.int (by simp)
  rfl
 refine aM ?_;simp -dsimp only[ai,ne_eq,Nat.reduceEqDiff,reduceCtorEq];have gg:k=path.length:=by simp at h;omega
 subst gg;rw[List.drop_length,E7]at hw;simp only[Option.some.injEq]at hw;subst hw;rw[if_neg (by have:=List.length_pos_iff.2 cA;omega)];refine aH ?_;simp -dsimp only[simprocAttr,↓aa,aE]
 (refine I ?_;simp -dsimp only[ai,ne_eq,Nat.reduceEqDiff,reduceCtorEq])
 refine ak ?_;simp -dsimp only[simprocAttr,↓aa,aE,zr,Tryz.results19];simp[aq,ae.upto,Pat.aF]
theorem CN(n:Nat)(ih:∀l:List Pat,bX l<n->aV Tryz.prog 10 [eR l] (.v (.bool (eG l))))(l:List Pat)(hl:bX l<=n):aV Tryz.prog 10 [eR l] (.v (.bool (eG l))):=by
 have nY:∀p∈l,bX p.args<n:=fun p hp=>by
  have h1:=iZ hp;rw[Pat.fX]at h1;omega
 have DL:eG l=l.all Pat.known:=by
  rw[Bool.eq_iff_iff,nr,List.all_eq_true]
 rw[DL];refine zf true 0 Tryz.func10 Tryz.ntmps10 ?_;dsimp only[Tmp,TypeId,ax];refine aH ?_;simp -dsimp only[simprocAttr,↓aa,aE]
 (refine I ?_;simp -dsimp only[ai,ne_eq,Nat.reduceEqDiff,reduceCtorEq])
 refine bT 0 rfl (fun hlen=>?_);simp only[List.length_map]at hlen;refine cg ?_;simp -dsimp only[simprocAttr,↓aa,aE]
 (refine I ?_;simp -dsimp only[ai,ne_eq,Nat.reduceEqDiff,reduceCtorEq])
 refine aj (aO (ι:={k:Nat // k<=l.length∧(l.take k).all Pat.known=true}) (fun k=>⟨26,[(5,eR l),(6,aI l.length),(7,aI k.1)],[]⟩) (fun k=>l.length-k.1) ⟨0,by omega,by simp⟩ ?_ ?_)
 ·refine zq rfl ?_ ?_;simp -dsimp only[simprocAttr,↓aa,aE,zc];rfl
 rintro⟨k,hk,bq⟩;refine aH ?_;simp -dsimp only[simprocAttr,↓aa,aE]
 (refine I ?_;simp -dsimp only[ai,ne_eq,Nat.reduceEqDiff,reduceCtorEq])
 apply gr rfl<;>intro h
 ·(refine au ?_;simp -dsimp only[ai,ne_eq,Nat.reduceEqDiff,reduceCtorEq])
  have aN:k<l.length:=by simpa using h
  obtain⟨p,hp⟩:∃p,l[k]?=some p:=⟨l[k],by simp[aN]⟩
  have hs:=nY p (List.mem_of_getElem? hp);have CE:=p.vt;have HJ:p.known=false->l.all Pat.known=false:=fun e=>by
   rw[List.all_eq_false];exact⟨p,List.mem_of_getElem? hp,by rw[e];simp⟩
  refine aG (aj ?_);refine aH ?_;simp -dsimp only[simprocAttr,↓aa,aE,hp]
  (refine I ?_;simp -dsimp only[ai,ne_eq,Nat.reduceEqDiff,reduceCtorEq])
  refine aR 4 0 (.ip none p.enc.cells) rfl (by simp[ay.aP]) trivial rfl ?_ ?_;rotate_left;simp -dsimp only[simprocAttr,↓aa,aE]
  ·by_cases S4:p.kind=2∨p.kind=3
   ·have hb:((!decide (p.kind=2))=false∧True)∨((!decide (p.kind=2))=true∧(!decide (p.kind=3))=false):=by
     rcases S4 with e|e<;>simp[e]
    have Sl:p.known=eG p.args:=by
     rw[CE];rcases S4 with e|e<;>simp[e]
    rcases hb with⟨hb,sa⟩|⟨hb,sa⟩
    all_goals
     refine aH ?_;simp -dsimp only[simprocAttr,↓aa,aE,hb,sa];refine .inl ⟨_,ih p.args hs,by simp only[aq,ae.upto,zt,iF],ah ?_⟩;simp -dsimp only[simprocAttr,↓aa,aE]
     (refine I ?_;simp -dsimp only[ai,ne_eq,Nat.reduceEqDiff,reduceCtorEq])
     apply aQ rfl<;>intro h
     ·have PI:eG p.args=false:=by simpa using h
      refine aH ?_;simp -dsimp only[simprocAttr,↓aa,aE]
      (refine I ?_;simp -dsimp only[ai,ne_eq,Nat.reduceEqDiff,reduceCtorEq])
      refine ak ?_;simp -dsimp only[simprocAttr,↓aa,aE,zr,Tryz.results10];rw[HJ (Sl.trans PI)]
     have PI:eG p.args=true:=by simpa using h
     (refine au ?_;simp -dsimp only[ai,ne_eq,Nat.reduceEqDiff,reduceCtorEq])
     refine ba 0 [(5,eR l),(6,aI l.length),(7,aI k)] (by omega) (by omega) [] ?_ ?_ ?_ ?_ ?_
     ·rfl
     ·simp
     ·simp -dsimp only[simprocAttr,↓aa,aE,dy,exists_eq_left',Option.some.injEq,sub_self,and_true]
     ·simp[ae.upto,aq,Pat.an]
     refine fq ?_;simp -dsimp only[simprocAttr,↓aa,aE]
     repeat(refine⟨by omega,?_⟩)
     (refine I ?_;simp -dsimp only[ai,ne_eq,Nat.reduceEqDiff,reduceCtorEq])
     refine⟨⟨k+1,aN,by rw[bN hp,List.all_append,bq];simp[Sl.trans PI]⟩,by simp;omega,?_⟩;refine zq rfl ?_ ?_;simp -dsimp only[simprocAttr,↓aa,aE,zc]
     ·exact Sub.int (by simp)
     rfl
   have hb:(!decide (p.kind=2))=true:=by
    simp;exact fun e=>S4 (.inl e)
   have sa:(!decide (p.kind=3))=true:=by
    simp;exact fun e=>S4 (.inr e)
   have WZ:p.known=false:=by
    rw[CE];simp only[Bool.not_eq_true',decide_eq_false_iff_not]at hb sa;simp[hb,sa]
   refine aH ?_;simp -dsimp only[simprocAttr,↓aa,aE,hb,sa]
   (refine I ?_;simp -dsimp only[ai,ne_eq,Nat.reduceEqDiff,reduceCtorEq])
   refine de rfl ?_;refine aH ?_;simp -dsimp only[simprocAttr,↓aa,aE]
   (refine I ?_;simp -dsimp only[ai,ne_eq,Nat.reduceEqDiff,reduceCtorEq])
   refine ak ?_;simp -dsimp only[simprocAttr,↓aa,aE,zr,Tryz.results10];rw[HJ WZ]
  exact da.mp rfl (by rw[Pat.al];rfl)
 refine aM ?_;simp -dsimp only[ai,ne_eq,Nat.reduceEqDiff,reduceCtorEq];have gg:k=l.length:=by simp at h;omega
 subst gg;rw[List.take_length]at bq;refine aH ?_;simp -dsimp only[simprocAttr,↓aa,aE]
 (refine I ?_;simp -dsimp only[ai,ne_eq,Nat.reduceEqDiff,reduceCtorEq])
 refine ak ?_;simp -dsimp only[simprocAttr,↓aa,aE,zr,Tryz.results10];rw[bq]
theorem CM(l:List Pat):aV Tryz.prog 10 [eR l] (.v (.bool (eG l))):=by
 suffices H:∀n,∀l:List Pat,bX l<n->aV Tryz.prog 10 [eR l] (.v (.bool (eG l))) from H _ l (Nat.lt_succ_self _);intro n;induction n with
 | zero=>exact fun l h=>by omega
 | succ n ih=>exact fun l h=>CN (bX l) (fun m hm=>ih m (by omega)) l (Nat.le_refl _)
theorem vO{datas:List Data}{t:bF}{N:List bc}(hb:build datas=some t)(lq:t.datas=datas)(cA:N≠[])(hl:N.length<=4096)(hv:gX t N)(values:List Pat){f:Nat}{z:Int}(Sv:xY N values f (N.length-1) z):aV Tryz.prog 8 [eD datas,eT N,eR values] (.c5 [aI z,aI 0]):=by
 have oJ:=B9 hb lq cA hl hv;have hp:=List.length_pos_iff.2 cA;have nk:((N.length-1:Nat):Int)=(N.length:Int)-1:=by omega
 refine zf true 0 Tryz.func8 Tryz.ntmps8 ?_;dsimp only[Tmp,TypeId,ax];refine aH ?_;simp -dsimp only[simprocAttr,↓aa,aE]
 (refine I ?_;simp -dsimp only[ai,ne_eq,Nat.reduceEqDiff,reduceCtorEq])
 refine cg ?_;simp -dsimp only[simprocAttr,↓aa,aE];refine .inl ⟨_,oJ,by simp only[aq,ae.upto,zt,iF],ah ?_⟩;simp -dsimp only[simprocAttr,↓aa,aE]
 (refine I ?_;simp -dsimp only[ai,ne_eq,Nat.reduceEqDiff,reduceCtorEq])
 refine aH ?_;simp -dsimp only[simprocAttr,↓aa,aE]
 (refine I ?_;simp -dsimp only[ai,ne_eq,Nat.reduceEqDiff,reduceCtorEq])
 apply aQ rfl<;>intro h
 ·cases h
 (refine au ?_;simp -dsimp only[ai,ne_eq,Nat.reduceEqDiff,reduceCtorEq])
 refine aH ?_;simp -dsimp only[simprocAttr,↓aa,aE]
 repeat(refine⟨by omega,?_⟩)
 (refine I ?_;simp -dsimp only[ai,ne_eq,Nat.reduceEqDiff,reduceCtorEq])
 refine aj (aO (ι:={q:Nat×Nat // xY N values q.1 q.2 z}) (fun q=>⟨76,[(1,eT N),(2,eR values),(9,aI q.1.2)],[]⟩) (fun q=>q.1.1) ⟨(f,N.length-1),Sv⟩ ?_ ?_)
 ·refine zq rfl ?_ ?_;simp -dsimp only[simprocAttr,↓aa,aE,zc]
  ·exact Sub.int (by omega)
  rfl
 rintro⟨⟨f1,k⟩,hR⟩;cases f1 with
 | zero=>exact hR.elim
 | succ f1 =>
  rw[xY]at hR;obtain⟨u,hu,hR⟩:=hR;obtain⟨_,oM,Az,lu,HM⟩:=hv k u hu;simp only;refine aj ?_;refine aH ?_;simp -dsimp only[simprocAttr,↓aa,aE,hu]
  (refine I ?_;simp -dsimp only[ai,ne_eq,Nat.reduceEqDiff,reduceCtorEq])
  refine aR 10 0 (.ip none u.enc.cells) rfl (by simp[ay.aP]) trivial rfl ?_ ?_;rotate_left;simp -dsimp only[simprocAttr,↓aa,aE]
  ·refine cg ?_;simp -dsimp only[simprocAttr,↓aa,aE]
   (refine I ?_;simp -dsimp only[ai,ne_eq,Nat.reduceEqDiff,reduceCtorEq])
   rcases hR with⟨hk,hz⟩|⟨hk,hz⟩|⟨v,wq,y,Xf,bS,kn⟩
   ·subst hz;refine aj ?_;refine aH ?_;simp -dsimp only[simprocAttr,↓aa,aE,hk]
    (refine I ?_;simp -dsimp only[ai,ne_eq,Nat.reduceEqDiff,reduceCtorEq])
    refine de rfl ?_;refine aH ?_;simp -dsimp only[simprocAttr,↓aa,aE]
    (refine I ?_;simp -dsimp only[ai,ne_eq,Nat.reduceEqDiff,reduceCtorEq])
    refine ak ?_;simp -dsimp only[simprocAttr,↓aa,aE,zr,Tryz.results8];simp[aq,ae.upto]
   ·subst hz;refine aj ?_;refine aH ?_;simp -dsimp only[simprocAttr,↓aa,aE,hk]
    (refine I ?_;simp -dsimp only[ai,ne_eq,Nat.reduceEqDiff,reduceCtorEq])
    refine cB rfl ?_;refine aH ?_;simp -dsimp only[simprocAttr,↓aa,aE,hk]
    (refine I ?_;simp -dsimp only[ai,ne_eq,Nat.reduceEqDiff,reduceCtorEq])
    refine de rfl ?_;refine aH ?_;simp -dsimp only[simprocAttr,↓aa,aE]
    (refine I ?_;simp -dsimp only[ai,ne_eq,Nat.reduceEqDiff,reduceCtorEq])
    refine ak ?_;simp -dsimp only[simprocAttr,↓aa,aE,zr,Tryz.results8];simp[aq,ae.upto]
   have Xa:u.path≠[]∧u.kids.length<=1000∧decide (u.kind=0)=false∧decide (u.kind=1)=false:=by
    have WK:u.kind=2∨u.kind=3:=by
     rcases kn with⟨e,_⟩|⟨e,_⟩
     ·exact .inr e
     exact .inl e
    refine⟨?_,Az,decide_eq_false (by omega),decide_eq_false (by omega)⟩;rcases HM with⟨e,_⟩|⟨e,_⟩|⟨e,_,_,q,_⟩|⟨e,_,_,q,_⟩
    ·omega
    ·omega
    ·exact q
    exact q
   obtain⟨Uw,_,DK,L4⟩:=Xa;have ON:decide (y<0)=false:=decide_eq_false (by omega);obtain⟨j,xx,hj⟩:∃j,tm j u.kids=some y∧((u.kind=3∧v.kind=2∧j=idx (fun w=>decide (v.n=w)) u.words)∨(u.kind=2∧v.kind=3∧j=idx (fun s=>decide (v.name=s)) u.names)):=by
    rcases kn with⟨a,b,c⟩|⟨a,b,c⟩
    ·exact⟨_,c,.inl ⟨a,b,rfl⟩⟩
    exact⟨_,c,.inr ⟨a,b,rfl⟩⟩
   refine aj ?_;refine aH ?_;simp -dsimp only[simprocAttr,↓aa,aE,DK]
   (refine I ?_;simp -dsimp only[ai,ne_eq,Nat.reduceEqDiff,reduceCtorEq])
   apply aQ rfl<;>intro h
   ·cases h
   refine aH ?_;simp -dsimp only[simprocAttr,↓aa,aE,L4]
   (refine I ?_;simp -dsimp only[ai,ne_eq,Nat.reduceEqDiff,reduceCtorEq])
   apply aQ rfl<;>intro h
   ·cases h
   (refine au ?_;simp -dsimp only[ai,ne_eq,Nat.reduceEqDiff,reduceCtorEq])
   refine aH ?_;simp -dsimp only[simprocAttr,↓aa,aE];refine .inl ⟨_,Lo values u.path v wq lu Uw,by simp only[aq,ae.upto,zt,iF],ah ?_⟩;simp -dsimp only[simprocAttr,↓aa,aE]
   (refine I ?_;simp -dsimp only[ai,ne_eq,Nat.reduceEqDiff,reduceCtorEq])
   refine aR 11 1 (.ip none v.enc.cells) rfl (by simp[ay.aP]) trivial rfl ?_ ?_;rotate_left;simp -dsimp only[simprocAttr,↓aa,aE]
   ·refine cg ?_;simp -dsimp only[simprocAttr,↓aa,aE]
    (refine I ?_;simp -dsimp only[ai,ne_eq,Nat.reduceEqDiff,reduceCtorEq])
    apply aQ rfl<;>intro h
    ·cases h
    (refine au ?_;simp -dsimp only[ai,ne_eq,Nat.reduceEqDiff,reduceCtorEq])
    refine aH ?_;simp -dsimp only[simprocAttr,↓aa,aE]
    (refine I ?_;simp -dsimp only[ai,ne_eq,Nat.reduceEqDiff,reduceCtorEq])
    refine cg ?_;simp -dsimp only[simprocAttr,↓aa,aE]
    (refine I ?_;simp -dsimp only[ai,ne_eq,Nat.reduceEqDiff,reduceCtorEq])
    refine jj (⟨76,[(1,eT N),(2,eR values),(10,.ip none [.v (.int .i64 u.kind),.v (.int .i64 u.row),.aC 1 (u.path.map aI) .sh,.aC 1 (u.names.map nS) .sh,.aC 1 (u.words.map aI) .sh,.aC 1 (u.kids.map aI) .sh]),(13,aI j)],[.gone,.gone]⟩) ?_ ?_
    ·rcases hj with⟨wu,Mo,lC⟩|⟨FF,UO,lC⟩
     ·have TZ:decide (u.kind=3)=true:=decide_eq_true wu;apply aQ rfl<;>intro h
      ·refine cg ?_;simp -dsimp only[simprocAttr,↓aa,aE,Mo]
       (refine I ?_;simp -dsimp only[ai,ne_eq,Nat.reduceEqDiff,reduceCtorEq])
       refine cB rfl ?_
       (refine au ?_;simp -dsimp only[ai,ne_eq,Nat.reduceEqDiff,reduceCtorEq])
       refine fq ?_;simp -dsimp only[simprocAttr,↓aa,aE];refine .inl ⟨_,s9 u.words v.n,by simp only[aq,ae.upto,zt,iF],ah ?_⟩;simp -dsimp only[simprocAttr,↓aa,aE];refine I ?_;show bn _ _;refine zq rfl ?_ ?_;simp -dsimp only[simprocAttr,↓aa,aE,zc]
       ·rw[lC];exact Sub.refl _
       rfl
      rw[TZ]at h;cases h
     have TZ:decide (u.kind=3)=false:=decide_eq_false (by omega);apply aQ rfl<;>intro h
     ·rw[TZ]at h;cases h
     refine cg ?_;simp -dsimp only[simprocAttr,↓aa,aE,UO]
     (refine I ?_;simp -dsimp only[ai,ne_eq,Nat.reduceEqDiff,reduceCtorEq])
     refine cB rfl ?_
     (refine au ?_;simp -dsimp only[ai,ne_eq,Nat.reduceEqDiff,reduceCtorEq])
     refine fq ?_;simp -dsimp only[simprocAttr,↓aa,aE];refine .inl ⟨_,tc u.names v.name,by simp only[aq,ae.upto,zt,iF],ah ?_⟩;simp -dsimp only[simprocAttr,↓aa,aE];refine I ?_;show bn _ _;refine zq rfl ?_ ?_;simp -dsimp only[simprocAttr,↓aa,aE,zc]
     ·rw[lC];exact Sub.refl _
     rfl
    unfold tm at xx;by_cases Td:j<0
    ·rw[if_pos Td]at xx;have T2:decide (j<0)=true:=decide_eq_true Td;have DL:=(List.getElem?_eq_some_iff.1 xx).1;have FI:((u.kids.length:Int)-1).toNat=u.kids.length-1:=by omega
     refine cg ?_;simp -dsimp only[simprocAttr,↓aa,aE,T2]
     (refine I ?_;simp -dsimp only[ai,ne_eq,Nat.reduceEqDiff,reduceCtorEq])
     refine de rfl ?_;refine fq ?_;simp -dsimp only[simprocAttr,↓aa,aE]
     repeat(refine⟨by omega,?_⟩)
     (refine I ?_;simp -dsimp only[ai,ne_eq,Nat.reduceEqDiff,reduceCtorEq])
     refine aH ?_;simp -dsimp only[simprocAttr,↓aa,aE,FI,xx]
     repeat(refine⟨by omega,?_⟩)
     (refine I ?_;simp -dsimp only[ai,ne_eq,Nat.reduceEqDiff,reduceCtorEq])
     refine ba 0 [(1,eT N),(2,eR values),(9,aI y)] (by omega) (by omega) [] ?_ ?_ ?_ ?_ ?_
     ·rfl
     ·simp
     ·simp -dsimp only[simprocAttr,↓aa,aE,dy,exists_eq_left',Option.some.injEq,sub_self,and_true]
     ·simp[ae.upto,aq,bc.an,Pat.an]
     refine aH ?_;simp -dsimp only[simprocAttr,↓aa,aE,ON]
     (refine I ?_;simp -dsimp only[ai,ne_eq,Nat.reduceEqDiff,reduceCtorEq])
     refine cB rfl ?_
     (refine au ?_;simp -dsimp only[ai,ne_eq,Nat.reduceEqDiff,reduceCtorEq])
     refine⟨⟨(f1,y.toNat),bS⟩,by simp,?_⟩;refine zq rfl ?_ ?_;simp -dsimp only[simprocAttr,↓aa,aE,zc]
     ·exact Sub.int (by simp;omega)
     rfl
    rw[if_neg Td]at xx;have T2:decide (j<0)=false:=decide_eq_false Td;refine cg ?_;simp -dsimp only[simprocAttr,↓aa,aE,T2]
    (refine I ?_;simp -dsimp only[ai,ne_eq,Nat.reduceEqDiff,reduceCtorEq])
    refine cB rfl ?_
    (refine au ?_;simp -dsimp only[ai,ne_eq,Nat.reduceEqDiff,reduceCtorEq])
    refine aH ?_;simp -dsimp only[simprocAttr,↓aa,aE,xx]
    repeat(refine⟨by omega,?_⟩)
    (refine I ?_;simp -dsimp only[ai,ne_eq,Nat.reduceEqDiff,reduceCtorEq])
    refine ba 0 [(1,eT N),(2,eR values),(9,aI y)] (by omega) (by omega) [] ?_ ?_ ?_ ?_ ?_
    ·rfl
    ·simp
    ·simp -dsimp only[simprocAttr,↓aa,aE,dy,exists_eq_left',Option.some.injEq,sub_self,and_true]
    ·simp[ae.upto,aq,bc.an,Pat.an]
    refine aH ?_;simp -dsimp only[simprocAttr,↓aa,aE,ON]
    (refine I ?_;simp -dsimp only[ai,ne_eq,Nat.reduceEqDiff,reduceCtorEq])
    refine cB rfl ?_
    (refine au ?_;simp -dsimp only[ai,ne_eq,Nat.reduceEqDiff,reduceCtorEq])
    refine⟨⟨(f1,y.toNat),bS⟩,by simp,?_⟩;refine zq rfl ?_ ?_;simp -dsimp only[simprocAttr,↓aa,aE,zc]
    ·exact Sub.int (by simp;omega)
    rfl
   exact da.mp rfl (by rw[Pat.al];rfl)
  exact da.mp rfl rfl
end Go.Proofs.YtkkookchlddbkaaGreat.V
namespace Go.Proofs.YtkkookchlddbkaaGreat.V
theorem y6(values:List Pat):xX values (fS values.length) values:=by
 refine ot (by rw[l6]) fun n x y hx hy=>?_;have hn:n<values.length:=(List.getElem?_eq_some_iff.1 hy).1;unfold fS at hx;rw[List.getElem?_map,List.getElem?_range hn]at hx;simp only[Option.map_some,Option.some.injEq]at hx;subst hx;simp only[E7,Int.toNat_natCast,hy]
theorem Gd{datas:List Data}{rows:List (List Pat)}{values:List Pat}{t:bF}{tys:List Ty}(hb:build datas=some t)(hc:(b6 datas rows).2=0)(eo:gV t rows tys)(hl:(rows.headD []).length=tys.length)(hv:bt t values tys)(hk:eG values=true){o:Option Int}(ho:dB (dS 0 rows) (values.map Pat.val) o) :
  xY (b6 datas rows).1 values 1000 ((b6 datas rows).1.length-1) (OQ o):=by
 obtain⟨t',sa,lq,oJ,Mm,vZ,hh,yz,bq,rD,cA,hlen,P5,hr⟩:=ra hc;rw[hb]at sa;cases sa;have hp:=List.length_pos_iff.2 cA;have hle:vZ.length=tys.length:=by omega
 rw[hle]at hr;rw[show((b6 datas rows).1.length:Int)-1=(((b6 datas rows).1.length-1:Nat):Int) by omega]at hr;refine D3 values 1000 _ _ tys _ values o (sK eo (by omega) (lK hb)) hr hv hk ?_ ho;rw[<-hv.len];exact y6 values
end Go.Proofs.YtkkookchlddbkaaGreat.V
namespace Go.Proofs.YtkkookchlddbkaaGreat.V
open Go.Av
mutual
theorem FV{t:bF}(hT:nK t):∀(p:Pat) (ty:Ty),p.known=true->fC t p ty->Ob t p.val ty
 | .mk k s n l,ty,hk,h=>by
  rw[Pat.known,Bool.and_eq_true,Bool.or_eq_true,decide_eq_true_eq,decide_eq_true_eq]at hk;rw[fC]at h;rw[Pat.val];rcases hk with⟨hk|hk,hl⟩
  ·rw[if_neg (by omega),if_pos hk]at h;subst h;rw[if_pos hk];exact .int n
  rw[if_neg (by omega),if_neg (by omega)]at h;obtain⟨_,i,f,K,rfl,hf,Wm,sc⟩:=h;obtain⟨d,c,hd,hc,On,_⟩:=hT.back s K hf;rw[if_neg (by omega),<-On];refine .gu (Wm ▸ hd) hc ?_;rw[On];exact qq hT l (f s) hl sc
theorem qq{t:bF}(hT:nK t):∀(l:List Pat) (tys:List Ty),eG l=true->bt t l tys->kH t (Gt l) tys
 | [],tys,_,h=>by
  rw[bt]at h;subst h;exact .nil
 | p::r,tys,hk,h=>by
  rw[eG,Bool.and_eq_true]at hk;rw[bt]at h;obtain⟨ty,vZ,rfl,h1,h2⟩:=h;rw[Gt];exact .cons (FV hT p ty hk.1 h1) (qq hT r vZ hk.2 h2)
end
structure Tx(datas:List Data)(rows:List (List Pat))(values:List Pat)(t:bF)(z:Int):Prop where
 run:xY (b6 datas rows).1 values 1000 ((b6 datas rows).1.length-1) z
 row:0<=z∧z<rows.length
theorem N7{datas:List Data}{rows:List (List Pat)}{values:List Pat}(cA:rows≠[])(wP:check datas (rows++[values])=0)(hk:eG values=true) :
  (fW datas rows (rows.headD []).length).2=0∧((b6 datas rows).2=0->(fW datas rows (rows.headD []).length).1=[]->values≠[]->∃t z,build datas=some t∧Tx datas rows values t z):=by
 obtain⟨t,hb,lq,bq,yz,tys,eW,eo⟩:=ll wP;have lR:((rows++[values]).headD []).length=(rows.headD []).length:=by
  cases rows with
  | nil=>exact absurd rfl cA
  | cons r rs=>rfl
 rw[lR]at eW bq yz;have hv:bt t values tys:=eo.typed values (by simp);have nY:rows.Sublist (rows++[values]):=List.sublist_append_left _ _;have Mn:gV t rows tys:=eo.sub nY;have UJ:small datas rows=true:=IJ (lM wP) (fun r hr=>(sJ.1 (lM wP)).1.1 r (nY.subset hr)) (nA nY) nY.length_le;have hc:=Hb hb UJ Mn.typed Mn.ok;obtain⟨a1,a2,_⟩:=AU hb Mn hc (by omega) (fun r hr=>by rw[eW];exact bq r (nY.subset hr));rw[eW]at a1 a2;refine⟨a1,fun h2 hm UP=>?_⟩;obtain⟨o,ho⟩:=u7 (dS 0 rows) (values.map Pat.val);have hr:=Gd hb h2 Mn eW.symm hv hk ho;have Ud:kH t (values.map Pat.val) tys:=by
  rw[<-v7];exact qq eo.EU values tys hk hv
 cases o with
 | none =>
  exfalso;have W9:tys≠[]:=fun e=>by
   have:=hv.len;rw[e]at this;exact UP (List.length_eq_zero_iff.1 this)
  refine absurd hm (a2.2 ⟨⟨_,Ud,fun r hr WU=>?_⟩,W9⟩);obtain⟨i,hi⟩:=List.mem_iff_getElem?.1 hr;have hx:(dS 0 rows)[i]?=some ⟨((0+i:Nat):Int),r⟩:=by rw[mO,hi];rfl
  exact rj.1 ho _ (List.mem_of_getElem? hx) WU
 | some z =>
  obtain⟨k,rfl,DL⟩:=Ar ho;exact⟨t,k,hb,hr,by omega,by omega⟩
def vY(datas:List Data)(rows:List (List Pat))(values:List Pat):Bool:=eG values&&(decide (0<(rows.length:Int))&&(decide ((rows.length:Int)<64)&&decide (check datas (rows++[values])=0)))
theorem Dk(datas:List Data)(rows:List (List Pat))(values:List Pat):aV Tryz.prog 5 [eD datas,kV rows,eR values] (.v (.bool (vY datas rows values))):=by
 have hk:=CM values;have wP:aV Tryz.prog 11 [.aC 3 (datas.map Data.enc) .sh,.aC 1 ((rows++[values]).map eR) .sh] (aI (check datas (rows++[values]))):=pW datas (rows++[values]);have Rr:(rows++[values]).map eR=rows.map eR++[.aC 4 (values.map Pat.enc) .sh]:=by simp
 rw[Rr]at wP;have UN:aq 0 [.aC 3 (datas.map Data.enc) .sh,.aC 1 (rows.map eR++[.aC 4 (values.map Pat.enc) .sh]) .sh]:=by
  rw[<-Rr];simp[aq,ae.upto,b8,Data.an,-List.map_append]
 have PZ:(rows.map eR).map ae.share=rows.map eR:=by
  rw[List.map_map];rfl
 obtain⟨R,hR⟩:∃R,R=vY datas rows values:=⟨_,rfl⟩
 rw[<-hR];unfold vY at hR;refine zf true 0 Tryz.func5 Tryz.ntmps5 ?_;dsimp only[Tmp,TypeId,ax];refine aH ?_;simp -dsimp only[simprocAttr,↓aa,aE];refine av ?_;refine bT 1 rfl (fun hlen=>?_);simp only[List.length_map]at hlen;cases HR:eG values with
 | false =>
  rw[HR,Bool.false_and]at hR;rw[HR]at hk;refine aH ?_;simp -dsimp only[simprocAttr,↓aa,aE];refine .inl ⟨_,hk,by simp only[aq,ae.upto,zt,iF],ah ?_⟩;simp -dsimp only[simprocAttr,↓aa,aE];refine av ?_;refine ak ?_;simp -dsimp only[simprocAttr,↓aa,aE,zr,Tryz.results5,hR]
 | true =>
  rw[HR,Bool.true_and]at hR;rw[HR]at hk;cases h0:decide (0<(rows.length:Int))with
  | false =>
   rw[h0,Bool.false_and]at hR;refine aH ?_;simp -dsimp only[simprocAttr,↓aa,aE];refine .inl ⟨_,hk,by simp only[aq,ae.upto,zt,iF],ah ?_⟩;simp -dsimp only[simprocAttr,↓aa,aE,h0];refine av ?_;refine ak ?_;simp -dsimp only[simprocAttr,↓aa,aE,zr,Tryz.results5,hR]
  | true =>
   rw[h0,Bool.true_and]at hR;cases h1:decide ((rows.length:Int)<64)with
   | false =>
    rw[h1,Bool.false_and]at hR;refine aH ?_;simp -dsimp only[simprocAttr,↓aa,aE];refine .inl ⟨_,hk,by simp only[aq,ae.upto,zt,iF],ah ?_⟩;simp -dsimp only[simprocAttr,↓aa,aE,h0,h1];refine av ?_;refine ak ?_;simp -dsimp only[simprocAttr,↓aa,aE,zr,Tryz.results5,hR]
   | true =>
    rw[h1,Bool.true_and]at hR;have rq:rows.length<64:=by have:=of_decide_eq_true h1;omega
    obtain⟨cv,GC⟩:∃cv,cv=check datas (rows++[values]):=⟨_,rfl⟩
    rw[<-GC]at wP hR;refine aH ?_;simp -dsimp only[simprocAttr,↓aa,aE];refine .inl ⟨_,hk,by simp only[aq,ae.upto,zt,iF],ah ?_⟩;simp -dsimp only[simprocAttr,↓aa,aE,h0,h1,PZ]
    repeat(refine⟨by omega,?_⟩)
    refine .inl ⟨_,wP,UN,ah ?_⟩;simp -dsimp only[simprocAttr,↓aa,aE];refine av ?_;refine ak ?_;simp -dsimp only[simprocAttr,↓aa,aE,zr,Tryz.results5,hR]
theorem sM(datas:List Data)(hF:E1 datas)(rows:List (List Pat))(values:List Pat):aV Tryz.prog 3 [eD datas,kV rows,eR values] (.v (.bool true)):=by
 have hw:=wN;have eW:=Dk datas rows values;cases ht:vY datas rows values with
 | false =>
  rw[ht]at eW;refine zf true 0 Tryz.func3 Tryz.ntmps3 ?_;dsimp only[Tmp,TypeId,ax];refine aH ?_;simp -dsimp only[simprocAttr,↓aa,aE];refine av ?_;refine cg ?_;simp -dsimp only[simprocAttr,↓aa,aE];refine .inl ⟨_,hw,by simp only[aq,ae.upto,zt,iF],ah ?_⟩;simp -dsimp only[simprocAttr,↓aa,aE];refine av ?_;apply aQ rfl<;>intro h
  ·cases h
  refine eH ?_;refine cg ?_;simp -dsimp only[simprocAttr,↓aa,aE];refine .inl ⟨_,eW,by simp only[aq,ae.upto,zt,iF],ah ?_⟩;simp -dsimp only[simprocAttr,↓aa,aE];refine av ?_;refine de rfl ?_;refine aH ?_;simp -dsimp only[simprocAttr,↓aa,aE];refine av ?_;refine ak ?_;simp -dsimp only[simprocAttr,↓aa,aE,zr,Tryz.results3]
 | true =>
  rw[ht]at eW;unfold vY at ht;simp only[Bool.and_eq_true,decide_eq_true_eq]at ht;obtain⟨hk,h0,rq,wP⟩:=ht;have cA:rows≠[]:=fun e=>by rw[e]at h0;simp at h0
  obtain⟨m1,m2⟩:=N7 cA wP hk;have Um:=xV hF rows (rows.headD []).length;have RH:=yk datas rows;have Vw:=ra (datas:=datas) (rows:=rows);have WC:=AB rows (by omega);have wV:=fun(t:bF) (z:Int) (hb:build datas=some t) (lq:t.datas=datas) (a:(b6 datas rows).1≠[]) (b:(b6 datas rows).1.length<=4096) (c:gX t (b6 datas rows).1) (d:xY (b6 datas rows).1 values 1000 ((b6 datas rows).1.length-1) z)=>vO hb lq a b c values d;have L6:(b6 datas rows).2=0->(fW datas rows (rows.headD []).length).1=[]->values≠[]->∃z:Int,(0<=z∧z<rows.length)∧aV Tryz.prog 8 [eD datas,eT (b6 datas rows).1,eR values] (.c5 [aI z,aI 0]):=fun h1 h2 h3=>by
   obtain⟨t,z,hb,hT⟩:=m2 h1 h2 h3;obtain⟨t',sa,lq,_,_,_,_,_,_,_,Mc,Ot,wW,_⟩:=Vw h1;rw[hb]at sa;cases sa;exact⟨z,hT.row,wV t z hb lq Mc Ot wW hT.run⟩
  clear m2 Vw wV;obtain⟨⟨l,e⟩,hq⟩:∃q,q=fW datas rows (rows.headD []).length:=⟨_,rfl⟩
  obtain⟨⟨T,e2⟩,BB⟩:∃q,q=b6 datas rows:=⟨_,rfl⟩
  rw[<-hq]at Um m1 L6;rw[<-BB]at RH L6;simp only at Um m1 L6 RH;subst m1;refine zf true 0 Tryz.func3 Tryz.ntmps3 ?_;dsimp only[Tmp,TypeId,ax];refine aH ?_;simp -dsimp only[simprocAttr,↓aa,aE];refine av ?_;refine cg ?_;simp -dsimp only[simprocAttr,↓aa,aE];refine .inl ⟨_,hw,by simp only[aq,ae.upto,zt,iF],ah ?_⟩;simp -dsimp only[simprocAttr,↓aa,aE];refine av ?_;apply aQ rfl<;>intro h
  ·cases h
  refine eH ?_;refine cg ?_;simp -dsimp only[simprocAttr,↓aa,aE];refine .inl ⟨_,eW,by simp only[aq,ae.upto,zt,iF],ah ?_⟩;simp -dsimp only[simprocAttr,↓aa,aE];refine av ?_;apply aQ rfl<;>intro h
  ·cases h
  refine eH ?_;refine aH ?_;simp -dsimp only[simprocAttr,↓aa,aE,WC];refine .inl ⟨_,Um,by simp only[aq,ae.upto,zt,iF],ah ?_⟩;simp -dsimp only[simprocAttr,↓aa,aE];refine av ?_;refine aH ?_;simp -dsimp only[simprocAttr,↓aa,aE];refine .inl ⟨_,RH,by simp only[aq,ae.upto,zt,iF],ah ?_⟩;simp -dsimp only[simprocAttr,↓aa,aE];refine av ?_;by_cases h2:e2=0
  ·subst h2;by_cases hl:l=[]
   ·subst hl;by_cases hv:values=[]
    ·subst hv;refine cg ?_;simp -dsimp only[simprocAttr,↓aa,aE];refine av ?_;refine de rfl ?_;refine aH ?_;simp -dsimp only[simprocAttr,↓aa,aE];refine av ?_;refine ak ?_;simp -dsimp only[simprocAttr,↓aa,aE,zr,Tryz.results3]
    have dv:decide ((values.length:Int)=0)=false:=decide_eq_false (by have:=List.length_pos_iff.2 hv;omega);obtain⟨z,⟨z1,z2⟩,hr⟩:=L6 rfl rfl hv;have d1:decide ((0:Int)<=z)=true:=decide_eq_true z1;have d2:decide (z<(rows.length:Int))=true:=decide_eq_true z2;refine cg ?_;simp -dsimp only[simprocAttr,↓aa,aE,dv];refine av ?_;apply aQ rfl<;>intro h
    ·cases h
    refine eH ?_;refine aH ?_;simp -dsimp only[simprocAttr,↓aa,aE];refine .inl ⟨_,hr,by simp only[aq,ae.upto,zt,iF],ah ?_⟩;simp -dsimp only[simprocAttr,↓aa,aE];refine av ?_;refine aH ?_;simp -dsimp only[simprocAttr,↓aa,aE,d1,d2];refine av ?_;refine ak ?_;simp -dsimp only[simprocAttr,↓aa,aE,zr,Tryz.results3]
   have dl:decide ((0:Int)<(l.length:Int))=true:=decide_eq_true (by have:=List.length_pos_iff.2 hl;omega);refine cg ?_;simp -dsimp only[simprocAttr,↓aa,aE,dl];refine av ?_;refine de rfl ?_;refine aH ?_;simp -dsimp only[simprocAttr,↓aa,aE];refine av ?_;refine ak ?_;simp -dsimp only[simprocAttr,↓aa,aE,zr,Tryz.results3]
  have d2:decide (e2=0)=false:=decide_eq_false h2;refine cg ?_;simp -dsimp only[simprocAttr,↓aa,aE,d2];refine av ?_;refine de rfl ?_;refine aH ?_;simp -dsimp only[simprocAttr,↓aa,aE];refine av ?_;refine ak ?_;simp -dsimp only[simprocAttr,↓aa,aE,zr,Tryz.results3]
end Go.Proofs.YtkkookchlddbkaaGreat.V
