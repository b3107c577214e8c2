/-
  Texts bound together by a program of mine: YtjdnhamngpafmaaGreatT44, YtjdnhamngpafmaaGreatT45, YtjdnhamngpafmaaGreatT46, YtjdnhamngpafmaaGreatT54, YtjdnhamngpafmaaGreatPl, YtjdnhamngpafmaaGreatPdb, YtjdnhamngpafmaaGreatPdc, YtjdnhamngpafmaaGreatPdd, YtjdnhamngpafmaaGreatPua, YtjdnhamngpafmaaGreatPub, YtjdnhamngpafmaaGreatPuq, YtjdnhamngpafmaaGreatPur, YtjdnhamngpafmaaGreatPux, YtjdnhamngpafmaaGreatPus, YtjdnhamngpafmaaGreatPut, YtjdnhamngpafmaaGreatPzx, YtjdnhamngpafmaaGreatPzv, YtjdnhamngpafmaaGreatPzy, YtjdnhamngpafmaaGreatPde, YtjdnhamngpafmaaGreatT59, YtjdnhamngpafmaaGreatPda, YtjdnhamngpafmaaGreatPdf, YtjdnhamngpafmaaGreatPdg, YtjdnhamngpafmaaGreatT183, YtjdnhamngpafmaaGreatT184, YtjdnhamngpafmaaGreatT185, YtjdnhamngpafmaaGreatT121, YtjdnhamngpafmaaGreatT186, YtjdnhamngpafmaaGreatT187, YtjdnhamngpafmaaGreatPzz, YtjdnhamngpafmaaGreatT188, YtjdnhamngpafmaaGreatPy, YtjdnhamngpafmaaGreatPz, YtjdnhamngpafmaaGreatPwa, YtjdnhamngpafmaaGreatPuu, YtjdnhamngpafmaaGreatPuv, YtjdnhamngpafmaaGreatPwb, YtjdnhamngpafmaaGreatT150, YtjdnhamngpafmaaGreatT151, YtjdnhamngpafmaaGreatT152, YtjdnhamngpafmaaGreatPzza, YtjdnhamngpafmaaGreatT182, YtjdnhamngpafmaaGreatT122, YtjdnhamngpafmaaGreatPud, YtjdnhamngpafmaaGreatT38, YtjdnhamngpafmaaGreatT53, YtjdnhamngpafmaaGreatPdh, YtjdnhamngpafmaaGreatT101, YtjdnhamngpafmaaGreatT102, YtjdnhamngpafmaaGreatT103.
-/
import Derived.Test.YtjdnhamngpafmaaGreatE4
import Derived.Sort.Grow
import Derived.Test.YtjdnhamngpafmaaGreatChecked
import Derived.KernelRfl
import Derived.Shelf.Slices.In.SortNone
import Derived.Shelf.Sort.Plain
set_option linter.all false
set_option maxRecDepth 100000
set_option maxHeartbeats 4000000

namespace Go.Proofs.YtjdnhamngpafmaaGreat
open Go.Av
def ib(f:Func):So:=⟨cL f,3,0,[.gone,.cells [.aA 1 [] .ex],.cells ((cL f).seen.map eB),.cells [aI 0,aI 0]]⟩
theorem mX(f:Func):SO (ib f) where
 up:=by
  intro o ho;simp only[ib,List.mem_cons,List.not_mem_nil,or_false]at ho;rcases ho with rfl|rfl|rfl|rfl
  ·trivial
  ·exact⟨⟨trivial,trivial⟩,trivial⟩
  ·exact eI _ _
  exact⟨trivial,trivial,trivial⟩
 out:=rfl
 outs:=fun h=>absurd rfl h
 seen:=rfl
 ZV:=⟨[],rfl⟩
 ZU:=by simp[ib]
theorem sK(f:Func)(hg:tK f) :
  bd Tryz.prog 75 [.gone,.cells [.aA 1 [] .ex]] [f.enc,.fn (.func 76) [] [.mp 1 0]] (fun r O'=>r=.cw []∧O'=(kU f 100000 (ib f)).O):=by
 have WS:=hg.few;have hl:0<f.blocks.length:=by
  cases hb:f.blocks with
  | nil=>exact absurd hb hg.ne
  | cons=>simp
 obtain⟨N,hN⟩:∃N,N=f.blocks.length:=⟨_,rfl⟩
 obtain⟨F,hF⟩:∃F,F=kU f 100000 (ib f):=⟨_,rfl⟩
 rw[<-hF];have gi:[ak.gone,ak.cells [ae.aA 1 [] .ex]].length<=F.O.length:=by
  have key:∀(n:Nat) (X:So),SO X->SO (kU f n X):=fun n=>by
   induction n with
   | zero=>exact fun X h=>h
   | succ n ih =>
    intro X h;simp only[kU];split
    ·exact h
    exact ih _ h.step
  have:=I (key 100000 _ (mX f)).out;rw[<-hF]at this;simp only[List.length_cons,List.length_nil];omega
 refine dj hT true (F.O.length) Tryz.func75 rfl (by kernel_rfl) (by simp[Tryz.ntmps75]) (by assumption) ?_;show bX Tryz.prog _ _ _ ⟨81,_,_⟩;dsimp only[Tmp,TypeId,slotsOf];refine ay (ai ?_);refine aC 2 2 (.ip none [aI f.name,aw f.blocks]) rfl (by simp[ak.aD]) trivial rfl ?_ ?_;rotate_left;simp -dsimp only[simprocAttr,↓aa,zp]
 ·refine bp 2 [(1,.fn (.func 76) [] [.mp 1 0]),(2,.ip none [aI f.name,aw f.blocks])] (by simp) (by omega) [.gone,.cells [.aA 1 [] .ex]] ?_ ?_ ?_ ?_ ?_
  ·rfl
  ·simp[ak.upto,av,ae.upto,ax,Block.ag]
  ·simp[eQ,St.get,bw,a8,Go.Av.look,Sub.refl]
  ·simp[ak.upto,av,ae.upto,ax,Block.ag]
  refine aQ ?_;simp -dsimp only[simprocAttr,↓aa,zp,sr,<-hN];refine⟨by omega,by omega,?_⟩;refine ai ?_;refine ay ?_;have rO:bh ((List.replicate N false).map eB) 0 [.v (.bool true)]=(cL f).seen.map eB:=by
   rw[cA _ (by simp;omega)];simp only[cL,<-hN,List.map_set];rfl
  refine⟨by omega,by simp;omega,?_⟩;rw[rO];refine ai ?_;refine aH (pC ⟨false,false⟩ hT 1 rfl rfl rfl (by simp) ?_);simp -dsimp only[simprocAttr,↓aa,zp];refine Jb hT rfl rfl (by simp) rfl rfl rfl (by simp) rfl (by intro p hp;simp at hp;subst hp;trivial) rfl rfl (by intro x hx;simp at hx;subst hx;rfl) (by simp) (by simp) ?_;simp -dsimp only[simprocAttr,↓aa,zp];refine ai ?_;have S8:=mZ hg;refine ah (aL (ι:={X:So // SO X∧vU f X.S∧∃n,K0 X.S<n∧F=kU f n X}) (fun X=>⟨81,[(1,.fn (.func 76) [] [.mp 1 0]),(2,.ip none [aI f.name,aw f.blocks]),(4,.ms 2 0 N N),(5,.os X.1.sid X.1.S.st.length 2)],X.1.O⟩) (fun X=>K0 X.1.S) ⟨ib f,mX f,S8.1,100000,S8.2,hF⟩ ?_ ?_)
  ·refine zq rfl ?_ ?_;simp -dsimp only[simprocAttr,↓aa,zp,zc]
   all_goals first|rfl|exact Sub.refl _
  rintro⟨X,hX,hS,n,hn,Xt⟩;have Q3:=hX.step (f:=f);obtain⟨⟨seen,st,out⟩,sid,oid,O⟩:=X;obtain⟨h1,h2,h3,h4,⟨o9,h5⟩,h6⟩:=id hX;simp only at h1 h2 h3 h4 h5 h6 hn;cases st with
  | nil =>
   refine bV (ai ?_);refine cv rfl ?_;refine aK ?_;simp -dsimp only[bI,ne_eq,Nat.reduceEqDiff,reduceCtorEq];have Yc:F.O=O:=by
    rw[Xt];cases n with
    | zero=>rfl
    | succ n=>rfl
   skip
   simp -dsimp only[simprocAttr,↓aa,zp,zr,Tryz.results75];rw[Yc];exact⟨by simp,by rw[List.take_of_length_le (Nat.le_refl _)];exact h1,trivial,List.take_of_length_le (Nat.le_refl _)⟩
  | cons p r =>
   obtain⟨b,e⟩:=p;have cc:=oY hg hS (by simp);obtain⟨n,rfl⟩:∃n',n=n'+1:=⟨n-1,by omega⟩
   have F4:F=kU f n (j' f ⟨⟨seen,(b,e)::r,out⟩,sid,oid,O⟩):=Xt;have hSs:=BI f ⟨⟨seen,(b,e)::r,out⟩,sid,oid,O⟩;have hp:=hS.blk (b,e) (by simp);simp only at hp;have Zw:r.length<=128:=by
    have a1:=hS.few;have a2:seen.countP id<=seen.length:=List.countP_le_length;have a3:=hS.len;simp only[List.length_cons]at a1 a3;omega
   have OC:((r.length+1:Nat):Int)-1=(r.length:Nat):=by omega
   obtain⟨B,hB⟩:∃B,B=aF f b:=⟨_,rfl⟩
   have WD:=dP hp.1 hp.2.1;rw[<-hB]at WD;have rq:ir f b=B.term.to:=by rw[hB];rfl
   have Ev:(lI ((b,e)::r)++o9)[r.length*2]?=some (aI b):=by
    rw[lI,List.append_assoc,List.getElem?_append_right (by rw[gY];omega),gY,Nat.sub_self];rfl
   have FT:(lI ((b,e)::r)++o9)[r.length*2+1]?=some (aI e):=by
    rw[lI,List.append_assoc,List.getElem?_append_right (by rw[gY];omega),gY,show r.length*2+1-r.length*2=1 by omega];rfl
   obtain⟨cs,fA⟩:∃cs,cs=lI ((b,e)::r)++o9:=⟨_,rfl⟩
   rw[<-fA]at Ev FT h5;refine bV (ai ?_);apply aN rfl<;>intro h
   ·refine cj ?_;refine ah ?_;refine aQ ?_;simp -dsimp only[simprocAttr,↓aa,zp,OC]
    repeat(refine⟨by omega,?_⟩)
    refine ai ?_;refine aQ ?_;simp -dsimp only[simprocAttr,↓aa,zp,h5,Ev,WD]
    repeat(refine⟨by omega,?_⟩)
    refine⟨ob (by kernel_rfl),?_⟩;refine ai ?_;by_cases he:e=(ir f b).length
    ·have j5:decide (e=(B.term.to.length:Int))=true:=decide_eq_true (by rw[he,rq]);have xw:dW f ⟨seen,(b,e)::r,out⟩=⟨seen,r,out++[b]⟩:=by simp only[dW];rw[if_pos he]
     have OE:j' f ⟨⟨seen,(b,e)::r,out⟩,sid,oid,O⟩=⟨⟨seen,r,out++[b]⟩,sid,O.length,oT O oid out b⟩:=by simp only[j'];rw[if_pos he,xw]
     rw[OE]at Q3 F4;simp only[xw]at cc;have zH:bd Tryz.prog 76 O [aI b,.mp 1 0] (fun r' O'=>r'=.cw []∧O'=oT O oid out b):=by
      unfold oT;by_cases ho:out=[]
      ·rw[if_pos ho];exact Gg h1 (by rw[h2,ho];rfl) b
      rw[if_neg ho];obtain⟨k1,k2,k3⟩:=h3 ho;have a1:=hS.few;have a2:seen.countP id<=seen.length:=List.countP_le_length;have a3:=hS.len;simp only at a1 a3;exact I6 h1 (by rw[h2,Jx,if_neg ho]) k1 (by omega) (by omega) b
     refine c7 ?_;simp -dsimp only[simprocAttr,↓aa,zp,h5,FT,j5];refine ai ?_;refine cB rfl ?_;refine aQ ?_;simp -dsimp only[simprocAttr,↓aa,zp,h5,Ev];refine .inr (.inl ⟨_,_,zH,.inl (ao (zj ?_))⟩);refine ai ?_;refine aQ ?_;simp -dsimp only[simprocAttr,↓aa,zp,OC]
     repeat(refine⟨by omega,?_⟩)
     refine ai ?_;refine aK ?_;simp -dsimp only[bI,ne_eq,Nat.reduceEqDiff,reduceCtorEq];refine⟨⟨_,Q3,cc.1,n,?_,F4⟩,?_,?_⟩
     ·have:=cc.2;simp only at this hn ⊢;omega
     ·exact cc.2
     refine zq rfl ?_ ?_;simp -dsimp only[simprocAttr,↓aa,zp,zc]
     all_goals rfl
    have j5:decide (e=(B.term.to.length:Int))=false:=decide_eq_false (by rw[<-rq];exact he);obtain⟨x,hx,F',nS,vR⟩:=hg.next ⟨hp.1,hp.2.1⟩ hp.2.2.1 (by omega)
    rw[rq]at hx;refine c7 ?_;simp -dsimp only[simprocAttr,↓aa,zp,h5,FT,j5];refine ai ?_;refine cv rfl ?_;refine cj ?_;refine aQ ?_;simp -dsimp only[simprocAttr,↓aa,zp,h5,FT,hx]
    repeat(refine⟨by omega,?_⟩)
    refine ai ?_;obtain⟨j,hj⟩:∃j:Nat,cW f b e=(j:Int):=⟨(cW f b e).toNat,by omega⟩
    have Vx:j<seen.length:=by
     have a3:=hS.len;simp only at a3;omega
    rw[hj]at F' nS vR;obtain⟨sv,Ts⟩:∃sv,seen[j]?=some sv:=⟨seen[j],List.getElem?_eq_getElem Vx⟩
    have Tt:(seen.map eB)[j]?=some (.v (.bool sv)):=by rw[List.getElem?_map,Ts];rfl
    have gg:(r.length+1)*2<=cs.length:=by
     rw[fA,List.length_append,gY];simp
    obtain⟨N',LV⟩:∃N',N'=cs.set (r.length*2+1) (aI (e+1)):=⟨_,rfl⟩
    have rO:bh cs (r.length*2+1) [.v (.int .i64 (e+1))]=N':=by rw[cA _ (by omega),LV]
    have YG:(r.length+1)*2<=N'.length:=by rw[LV,List.length_set];exact gg
    obtain⟨O1,dH⟩:∃O1,O1=O.set sid (.cells N'):=⟨_,rfl⟩
    have g5:O1[sid]?=some (.cells N'):=by rw[dH];exact nF h5
    have g4:O1[2]?=some (.cells (seen.map eB)):=by rw[dH];exact br h4 (by omega)
    have Sf:qt O sid=cs:=by simp only[qt,h5]
    have X1:(ir f b).length<=257:=hg.to _ (iu hp.1 hp.2.1);refine aQ ?_;simp -dsimp only[simprocAttr,↓aa,zp,h5,FT]
    repeat(refine⟨by omega,?_⟩)
    refine ai ?_;rw[rO,<-dH];cases sv with
    | true =>
     have xw:dW f ⟨seen,(b,e)::r,out⟩=⟨seen,(b,e+1)::r,out⟩:=by simp only[dW];rw[if_neg he,hj,Int.toNat_natCast,Ts,if_pos (show(some true).getD false=true from rfl)]
     have OE:j' f ⟨⟨seen,(b,e)::r,out⟩,sid,oid,O⟩=⟨⟨seen,(b,e+1)::r,out⟩,sid,oid,O1⟩:=by simp only[j'];rw[if_neg he,xw,Sf,hj,Int.toNat_natCast,Ts,if_pos (show(some true).getD false=true from rfl),<-LV,dH]
     rw[OE]at Q3 F4;simp only[xw]at cc;refine aQ ?_;simp -dsimp only[simprocAttr,↓aa,zp,g4,F',Int.toNat_natCast,Tt,Nat.mul_one]
     repeat(refine⟨by omega,?_⟩)
     refine ai ?_;refine cv rfl ?_;refine Z0 ?_;refine⟨⟨_,Q3,cc.1,n,?_,F4⟩,?_,?_⟩
     ·have:=cc.2;simp only at this hn ⊢;omega
     ·exact cc.2
     refine zq rfl ?_ ?_;simp -dsimp only[simprocAttr,↓aa,zp,zc]
     all_goals rfl
    | false =>
     have xw:dW f ⟨seen,(b,e)::r,out⟩=⟨seen.set j true,((j:Int),0)::(b,e+1)::r,out⟩:=by simp only[dW];rw[if_neg he,hj,Int.toNat_natCast,Ts,if_neg (by simp)]
     obtain⟨O2,tu⟩:∃O2,O2=O1.set 2 (.cells ((seen.set j true).map eB)):=⟨_,rfl⟩
     have k5:O2[sid]?=some (.cells N'):=by rw[tu];exact br g5 (by omega)
     have OE:j' f ⟨⟨seen,(b,e)::r,out⟩,sid,oid,O⟩=⟨⟨seen.set j true,((j:Int),0)::(b,e+1)::r,out⟩,O2.length,oid,O2.set sid .gone++[ak.cells (N'.take ((r.length+1)*2)++[aI j,aI 0])]⟩:=by
      simp only[j'];rw[if_neg he,xw,Sf,hj,Int.toNat_natCast,Ts,if_neg (by simp),<-LV,<-dH,<-tu]
     rw[OE]at Q3 F4;simp only[xw]at cc;have Tp:bh (seen.map eB) j [.v (.bool true)]=(seen.set j true).map eB:=by
      rw[cA _ (by simpa using Vx),List.map_set];rfl
     refine aQ ?_;simp -dsimp only[simprocAttr,↓aa,zp,g4,F',Int.toNat_natCast,Tt,Nat.mul_one]
     repeat(refine⟨by omega,?_⟩)
     refine ai ?_;refine cB rfl ?_;refine aQ ?_;simp -dsimp only[simprocAttr,↓aa,zp,g4,F',Int.toNat_natCast,Nat.mul_one]
     repeat(refine⟨by omega,?_⟩)
     refine ai ?_;rw[Tp,<-tu];refine jX ?_;simp -dsimp only[simprocAttr,↓aa,zp,k5,F']
     repeat(refine⟨by omega,?_⟩)
     refine Wo ?_;refine⟨⟨_,Q3,cc.1,n,?_,F4⟩,?_,?_⟩
     ·have:=cc.2;simp only at this hn ⊢;omega
     ·exact cc.2
     refine zq rfl ?_ ?_;simp -dsimp only[simprocAttr,↓aa,zp,zc]
     all_goals rfl
   exact af h (by omega)
 exact bM.mp rfl rfl
def zK(l:List Int)(i:Nat)(m:List Int):Prop:=m.length=l.length∧∀k,k<l.length->m[k]?=if k<i∨l.length<=k+i then l[l.length-1-k]? else l[k]?
theorem DN(l:List Int):zK l 0 l:=⟨rfl,fun k hk=>by rw[if_neg (by omega)]⟩
theorem DM{l m:List Int}{i:Nat}(h:zK l i m)(hi:2*i+1<l.length){a b:Int}(ha:m[i]?=some a)(hb:m[l.length-1-i]?=some b):zK l (i+1) ((m.set i b).set (l.length-1-i) a):=by
 obtain⟨h1,h2⟩:=h;refine⟨by simpa using h1,fun k hk=>?_⟩;have e1:=h2 i (by omega);have e2:=h2 (l.length-1-i) (by omega);rw[if_neg (by omega)]at e1 e2;rw[List.getElem?_set,List.getElem?_set];simp only[List.length_set];by_cases q1:l.length-1-i=k
 ·rw[if_pos q1,if_pos (by omega),if_pos (by omega),<-ha,e1];congr 1;omega
 rw[if_neg q1];by_cases q2:i=k
 ·rw[if_pos q2,if_pos (by omega),if_pos (by omega),<-hb,e2,q2]
 rw[if_neg q2,h2 k hk];by_cases q3:k<i∨l.length<=k+i
 ·rw[if_pos q3,if_pos (by omega)]
 rw[if_neg q3,if_neg (by omega)]
theorem DL{l m:List Int}{i:Nat}(h:zK l i m)(hi:l.length<=2*i+1):m=l.reverse:=by
 obtain⟨h1,h2⟩:=h;apply List.ext_getElem?;intro k;by_cases hk:k<l.length
 ·rw[h2 k hk,List.getElem?_reverse hk];split
  ·rfl
  congr 1;omega
 rw[List.getElem?_eq_none (by omega),List.getElem?_eq_none (by simp;omega)]
theorem qY{O:List ak}(bB:∀o∈O,o.upto O.length){oid:Nat}{l:List Int}(ho:O[oid]?=some (.cells (l.map aI)))(IJ:l.length<=1000) :
  bd Tryz.prog 77 O [.os oid l.length 1] (fun r O'=>r=.cw []∧O'=O.set oid (.cells (l.reverse.map aI))):=by
 have F5:=I ho;have eF:O.set oid (.cells (l.map aI))=O:=l8 ho;have YU:∀x,(O.set oid x)[oid]?=some x:=fun x=>List.getElem?_set_self F5;have eo:∀m:List Int,(O.set oid (.cells (m.map aI))).take O.length=O.set oid (.cells (m.map aI)):=fun m=>ct;have fb:∀m:List Int,∀o∈O.set oid (.cells (m.map aI)),o.upto O.length:=fun m=>bt bB (ax _ _);refine zf true O.length Tryz.func77 Tryz.ntmps77 ?_;dsimp only[Tmp,TypeId,slotsOf];refine ay ?_
 repeat(refine⟨by omega,?_⟩)
 refine ai ?_;refine ah (aL (ι:={x:Nat×List Int // x.1<=l.length∧zK l x.1 x.2}) (fun x=>⟨28,[(0,.os oid l.length 1),(2,aI x.1.1),(3,aI ((l.length:Int)-1-x.1.1))],O.set oid (.cells (x.1.2.map aI))⟩) (fun x=>l.length-x.1.1) ⟨(0,l),by simp,DN l⟩ ?_ ?_)
 ·refine zq rfl ?_ ?_;simp -dsimp only[simprocAttr,↓aa,zp,zc];exact eF.symm
 rintro⟨⟨i,m⟩,hi,hr⟩;simp only at hi hr;have Ot:=hr.1;refine bV (ai ?_);apply aN rfl<;>intro h
 ·refine cj ?_;have bf:2*i+1<l.length:=by
   have:=of_decide_eq_true h;omega
  obtain⟨j,hj⟩:∃j,j=l.length-1-i:=⟨_,rfl⟩
  have Um:(l.length:Int)-1-i=(j:Nat):=by omega
  obtain⟨a,ha⟩:∃a,m[i]?=some a:=⟨m[i]'(by omega),List.getElem?_eq_getElem _⟩
  obtain⟨b,hb⟩:∃b,m[j]?=some b:=⟨m[j]'(by omega),List.getElem?_eq_getElem _⟩
  have Ow:=DM hr bf ha (by rw[<-hj];exact hb);rw[<-hj]at Ow;have Zh:(m.map aI)[i]?=some (aI a):=by rw[List.getElem?_map,ha];rfl
  have Zi:(m.map aI)[j]?=some (aI b):=by rw[List.getElem?_map,hb];rfl
  have uU:bh (m.map aI) i [.v (.int .i64 b)]=(m.set i b).map aI:=by
   rw[cA _ (by simp;omega),List.map_set]
  have Zt:bh ((m.set i b).map aI) j [.v (.int .i64 a)]=((m.set i b).set j a).map aI:=by
   rw[cA _ (by simp;omega)];simp only[List.map_set]
  refine aH (ah ?_);refine jX ?_;simp -dsimp only[simprocAttr,↓aa,zp,YU,Um,Zh,Zi,Int.toNat_natCast,Nat.mul_one,uU,Zt,List.set_set,List.length_set];refine⟨by omega,by omega,by omega,by omega,by omega,by omega,?_⟩;refine⟨b7 [oid] O.length [.pure,.pure,.pure,.pure,.pure,.pure,.pure,.rd 0,.pure,.pure,.pure,.rd 0,.pure,.wr 1 [0],.pure,.wr 1 [0]] (by simp) (by simp;omega) rfl rfl (by kernel_rfl),a6 ?_⟩;simp -dsimp only[bI,ne_eq,Nat.reduceEqDiff,reduceCtorEq];refine cM ?_
  repeat(refine⟨by omega,?_⟩)
  refine eZ ?_;refine⟨⟨(i+1,_),by simp only;omega,Ow⟩,by simp;omega,?_⟩;refine zq rfl ?_ ?_;simp -dsimp only[simprocAttr,↓aa,zp,zc]
  ·exact⟨Sub.int (by simp),Sub.int (by omega)⟩
  rfl
 refine aK ?_;simp -dsimp only[bI,ne_eq,Nat.reduceEqDiff,reduceCtorEq];have pq:l.length<=2*i+1:=by
  have:=of_decide_eq_false h;omega
 rw[DL hr pq]
 skip
 simp -dsimp only[simprocAttr,↓aa,zp,zr,Tryz.results77,eo,List.length_set];exact⟨fb _,trivial⟩
def bO(f:Func):List Int:=(gE f).reverse
def yS(f:Func):ae:=if aZ f=0 then .cw [aJ (bO f),aI 0]else .cw [aJ [],aI (aZ f)]
theorem JS{f:Func}:∀(n:Nat) (S:Sr),(S.st=[]->S.out≠[])->(gI f n S).st=[]->(gI f n S).out≠[]
 | 0,S,h,he=>h he
 | n+1,S,h,he=>by
  simp only[gI]at he ⊢;cases fo:S.st with
  | nil =>
   rw[fo]at he;simp only[List.isEmpty_nil,if_true]at he ⊢;exact h fo
  | cons p r =>
   rw[fo]at he;simp only[List.isEmpty_cons,Bool.false_eq_true,if_false]at he ⊢;refine JS n _ (fun q=>?_) he;obtain⟨b,e⟩:=p;simp only[dW,fo]at q ⊢;split
   ·simp
   rename_i cq;rw[if_neg cq]at q;split at q<;>simp at q
theorem vD{f:Func}:∀(n:Nat) (X:So),SO X->SO (kU f n X)
 | 0,X,h=>h
 | n+1,X,h=>by
  simp only[kU];split
  ·exact h
  exact vD n _ h.step
theorem ln{f:Func}(hg:tK f):gE f≠[]∧(gE f).length<=128∧∀b∈gE f,0<=b∧b<f.blocks.length:=by
 have h0:=mZ hg;have h1:=rb hg 100000 _ h0.1 h0.2;have h2:=JS 100000 (cL f) (fun q=>by simp[cL]at q) h1.2;have a1:=h1.1.few;have a2:(gI f 100000 (cL f)).seen.countP id<=(gI f 100000 (cL f)).seen.length:=List.countP_le_length;have a3:=h1.1.len;have a4:=hg.few;exact⟨h2,by unfold gE;omega,h1.1.outs⟩
theorem nE(l:List Int):(l.map aI).map ae.bg=an (l.map aI):=by
 induction l with
 | nil=>rfl
 | cons a r ih =>
  simp only[List.map_cons,an,List.flatMap_cons]at ih ⊢;rw[ih];rfl
theorem vi(f:Func)(bo:f.fit):bA Tryz.prog 52 [f.enc] (yS f):=by
 have rn:=iJ f bo;unfold yS;by_cases hc:aZ f=0
 ·rw[if_pos hc];rw[hc]at rn;have hg:=(cS bo hc).gr;have xw:=sK f hg;obtain⟨f1,f2,_⟩:=ln hg;have R1:(kU f 100000 (ib f)).S=gI f 100000 (cL f):=zb f 100000 (ib f);have hX:=vD (f:=f) 100000 _ (mX f);obtain⟨X,U3⟩:∃X,X=kU f 100000 (ib f):=⟨_,rfl⟩
  rw[<-U3]at xw hX R1;have ik:X.S.out=gE f:=by rw[R1];rfl
  unfold bO;obtain⟨l,hl⟩:∃l,l=gE f:=⟨_,rfl⟩
  rw[<-hl]at f1 f2 ik ⊢;have h1:=hX.out;rw[ik,Jx,if_neg f1]at h1;obtain⟨h2,h3,h4⟩:=hX.outs (by rw[ik];exact f1);rw[ik]at h2;have bB:=hX.up;obtain⟨S,sid,oid,O⟩:=X;simp only at h1 h2 h3 h4 bB xw;have Qd:=qY bB h2 (by omega);have FM:(O.set oid (.cells (l.reverse.map aI)))[1]?=some (.cells [.os oid l.length 1]):=br h1 (by omega);have Ir:(O.set oid (.cells (l.reverse.map aI)))[oid]?=some (.cells (l.reverse.map aI)):=nF h2;refine zf true 0 Tryz.func52 Tryz.ntmps52 ?_;dsimp only[Tmp,TypeId,slotsOf];refine ay (ai ?_);refine aC 1 0 (.ip none [aI f.name,aw f.blocks]) rfl (by simp[ak.aD]) trivial rfl ?_ ?_;rotate_left;simp -dsimp only[simprocAttr,↓aa,zp]
  ·refine bV ?_;refine zi rn ?_;refine ai ?_;refine ay (ai ?_);refine cv rfl ?_;refine cj ?_;refine ay (ai ?_);refine ay ?_;refine .inr (.inl ⟨_,_,xw,.inl (ao (zj ?_))⟩);refine ai ?_;refine aQ ?_;simp -dsimp only[simprocAttr,↓aa,zp,h1];refine .inr (.inl ⟨_,_,Qd,.inl (ao (zj ?_))⟩);refine ai ?_;refine aQ ?_;simp -dsimp only[simprocAttr,↓aa,zp,FM];refine ai ?_;refine aC 2 oid (o:=.cells (l.reverse.map aI)) (aJ l.reverse) Ir (by simp[ak.aD]) trivial rfl (bM.os (cs:=l.reverse.map aI) Ir ?_ ?_ ?_) ?_
   ·intro x hx;obtain⟨c,_,rfl⟩:=List.mem_map.1 hx;rfl
   ·simp
   ·rw[List.drop_zero,List.take_of_length_le (by simp)];exact nE _
   simp -dsimp only[simprocAttr,↓aa,zp];refine aq ?_;simp -dsimp only[simprocAttr,↓aa,zp,zr,Tryz.results52];exact⟨⟨ax _ _,trivial⟩,trivial,trivial⟩
  exact bM.mp rfl rfl
 rw[if_neg hc];obtain⟨e,he⟩:∃e,e=aZ f:=⟨_,rfl⟩
 rw[<-he]at hc rn ⊢;have j5:decide (e=0)=false:=decide_eq_false hc;refine zf true 0 Tryz.func52 Tryz.ntmps52 ?_;dsimp only[Tmp,TypeId,slotsOf];refine ay (ai ?_);refine aC 1 0 (.ip none [aI f.name,aw f.blocks]) rfl (by simp[ak.aD]) trivial rfl ?_ ?_;rotate_left;simp -dsimp only[simprocAttr,↓aa,zp]
 ·refine bV ?_;refine zi rn ?_;refine ai ?_;refine aQ ?_;simp -dsimp only[simprocAttr,↓aa,zp,j5];refine ai ?_;refine cB rfl ?_;refine ay (ai ?_);refine aq ?_;simp -dsimp only[simprocAttr,↓aa,zp,zr,Tryz.results52];simp[av,ae.upto]
 exact bM.mp rfl rfl
def PB(l:List Int)(n:Int):Bool:=l.any fun x=>decide (x=n)
theorem Ay{l:List Int}{n:Int}:PB l n=true↔n∈l:=by
 simp[PB]
def K7(f:Func)(a b:Int):Prop:=∃x∈ir f a,x.block=b
def N7(f:Func):List (Int×Int)->Prop
 | []=>True
 | [p]=>p.1=0
 | p::q::r=>K7 f q.1 p.1∧p.1≠0∧N7 f (q::r)
theorem N7.tail{f:Func}{p:Int×Int}{r:List (Int×Int)}(h:N7 f (p::r)):N7 f r:=by
 cases r with
 | nil=>trivial
 | cons q r=>exact h.2.2
theorem N7.head{f:Func}{b e e':Int}{r:List (Int×Int)}(h:N7 f ((b,e)::r)):N7 f ((b,e')::r):=by
 cases r with
 | nil=>exact h
 | cons q r=>exact h
structure Jn(f:Func)(S:Sr):Prop where
 st:N7 f S.st
 out:∀i v,S.out[i]?=some v->(v≠0∧∃a,K7 f a v∧((∃j,i<j∧S.out[j]?=some a)∨∃e,(a,e)∈S.st))∨(v=0∧S.st=[]∧i+1=S.out.length)
theorem Jn.step{f:Func}(hg:tK f){S:Sr}(hS:vU f S)(h:Jn f S):Jn f (dW f S):=by
 obtain⟨seen,st,out⟩:=S;obtain⟨h1,h2⟩:=h;simp only at h1 h2;cases st with
 | nil=>exact⟨h1,h2⟩
 | cons p r =>
  obtain⟨b,e⟩:=p;have hp:=hS.blk (b,e) (by simp);simp only at hp;have hold:∀i v,out[i]?=some v->v≠0∧∃a,K7 f a v∧((∃j,i<j∧out[j]?=some a)∨∃e',(a,e')∈(b,e)::r):=fun i v hi=>by
   rcases h2 i v hi with q|⟨_,q,_⟩
   ·exact q
   cases q
  simp only[dW];split
  ·refine⟨h1.tail,fun i v hi=>?_⟩;simp only at hi ⊢;by_cases bf:i<out.length
   ·rw[List.getElem?_append_left bf]at hi;obtain⟨q0,a,q1,q2⟩:=hold i v hi;refine .inl ⟨q0,a,q1,?_⟩;rcases q2 with⟨j,q2,q3⟩|⟨e',q2⟩
    ·exact .inl ⟨j,q2,by rw[List.getElem?_append_left (I q3)];exact q3⟩
    rcases List.mem_cons.1 q2 with q|q
    ·simp only[Prod.mk.injEq]at q;exact .inl ⟨out.length,bf,by rw[q.1];simp⟩
    exact .inr ⟨e',q⟩
   have gP:=I hi;simp only[List.length_append,List.length_cons,List.length_nil]at gP;have:i=out.length:=by omega
   subst this;simp at hi;subst hi;cases r with
   | nil=>exact .inr ⟨h1,rfl,by simp⟩
   | cons q r=>exact .inl ⟨h1.2.1,q.1,h1.1,.inr ⟨q.2,by simp⟩⟩
  rename_i he;obtain⟨x,hx,F',nS,vR⟩:=hg.next ⟨hp.1,hp.2.1⟩ hp.2.2.1 (by omega)
  split
  ·refine⟨h1.head,fun i v hi=>.inl ?_⟩;obtain⟨q0,a,q1,q2⟩:=hold i v hi;refine⟨q0,a,q1,?_⟩;rcases q2 with q2|⟨e',q2⟩
   ·exact .inl q2
   rcases List.mem_cons.1 q2 with q|q
   ·simp only[Prod.mk.injEq]at q;exact .inr ⟨e+1,by simp[q.1]⟩
   exact .inr ⟨e',by simp[q]⟩
  refine⟨⟨⟨x,List.mem_of_getElem? hx,F'⟩,by simp only;omega,h1.head⟩,fun i v hi=>.inl ?_⟩;obtain⟨q0,a,q1,q2⟩:=hold i v hi;refine⟨q0,a,q1,?_⟩;rcases q2 with q2|⟨e',q2⟩
  ·exact .inl q2
  rcases List.mem_cons.1 q2 with q|q
  ·simp only[Prod.mk.injEq]at q;exact .inr ⟨e+1,by simp[q.1]⟩
  exact .inr ⟨e',by simp[q]⟩
theorem Jn.run{f:Func}(hg:tK f):∀(n:Nat) (S:Sr),vU f S->Jn f S->Jn f (gI f n S)
 | 0,S,_,h=>h
 | n+1,S,hS,h=>by
  simp only[gI];cases fo:S.st with
  | nil=>simpa[fo]using h
  | cons p r =>
   simp only[List.isEmpty_cons,Bool.false_eq_true,if_false];exact Jn.run hg n _ (oY hg hS (by rw[fo];simp)).1 (h.step hg hS)
theorem Jn.start(f:Func):Jn f (cL f):=⟨rfl,fun i v h=>by simp[cL]at h⟩
theorem rW{f:Func}(hg:tK f){n:Nat}{v:Int}(h:(bO f)[n]?=some v):(n=0∧v=0)∨∃a,K7 f a v∧a∈(bO f).take n:=by
 have h0:=mZ hg;have h1:=rb hg 100000 _ h0.1 h0.2;have hJ:=Jn.run hg 100000 _ h0.1 (Jn.start f);have hn:=I h;unfold bO gE at *;generalize gI f 100000 (cL f)=S at *;have hl:n<S.out.length:=by simpa using hn
 rw[List.getElem?_reverse hl]at h;rcases hJ.out _ _ h with⟨_,a,q1,q2⟩|⟨q1,_,q3⟩
 ·rcases q2 with⟨j,q3,q4⟩|⟨e,q3⟩
  ·refine .inr ⟨a,q1,?_⟩;have hj:=I q4;have:(S.out.reverse)[S.out.length-1-j]?=some a:=by
    rw[List.getElem?_reverse (by omega),<-q4];congr 1;omega
   exact List.mem_of_getElem? (i:=S.out.length-1-j) (by rw[List.getElem?_take,if_pos (by omega)];exact this)
  rw[h1.2]at q3;cases q3
 exact .inl ⟨by omega,q1⟩
theorem DD{k:Nat}{ls:List (List Int)}{e:Edge}{j:Nat}{a:Int}(h:a∈ls[j]?.getD []):a∈(nk k ls e)[j]?.getD []:=by
 unfold nk;by_cases q:e.block.toNat=j
 ·subst q;by_cases hl:e.block.toNat<ls.length
  ·rw[List.getElem?_set_self hl];simp[h]
  rw[List.getElem?_eq_none (by omega)]at h;simp at h
 rw[List.getElem?_set_ne q];exact h
theorem p9{k:Nat}{j:Nat}{a:Int}:∀{es:List Edge} {ls:List (List Int)},a∈ls[j]?.getD []->a∈(nj k ls es)[j]?.getD []
 | [],_,h=>h
 | e::r,ls,h=>p9 (es:=r) (DD h)
theorem vp{j:Nat}{a:Int}:∀{bs:List Block} {k:Nat} {ls:List (List Int)},a∈ls[j]?.getD []->a∈(oe k ls bs)[j]?.getD []
 | [],_,_,h=>h
 | b::r,k,ls,h=>vp (bs:=r) (p9 h)
theorem xO{k:Nat}:∀{es:List Edge} {ls:List (List Int)} {x:Edge},x∈es->x.block.toNat<ls.length->(k:Int)∈(nj k ls es)[x.block.toNat]?.getD []
 | [],_,_,h,_=>by cases h
 | e::r,ls,x,h,hl=>by
  show(k:Int)∈(nj k (nk k ls e) r)[x.block.toNat]?.getD [];rcases List.mem_cons.1 h with q|q
  ·subst q;apply p9;unfold nk;rw[List.getElem?_set_self hl];simp
  exact xO q (by rw[xP];exact hl)
theorem xR:∀{bs:List Block} {k i:Nat} {ls:List (List Int)} {b:Block} {x:Edge},bs[i]?=some b->x∈b.term.to->x.block.toNat<ls.length->((k+i:Nat):Int)∈(oe k ls bs)[x.block.toNat]?.getD []
 | [],_,_,_,_,_,h,_,_=>by simp at h
 | c::r,k,i,ls,b,x,h,hx,hl=>by
  cases i with
  | zero =>
   simp only[List.getElem?_cons_zero,Option.some.injEq]at h;subst h;exact vp (bs:=r) (xO hx hl)
  | succ i =>
   have:=xR (bs:=r) (k:=k+1) (i:=i) (ls:=nj k ls c.term.to) (by simpa using h) hx (by rw[r6];exact hl);rw[show k+(i+1)=k+1+i by omega];exact this
theorem FC{f:Func}{a v:Int}(ha:0<=a∧a<f.blocks.length)(hv:0<=v∧v<f.blocks.length)(h:K7 f a v):a∈(fU f)[v.toNat]?.getD []:=by
 obtain⟨x,hx,XL⟩:=h;have hb:=dP ha.1 ha.2;have:=xR (bs:=f.blocks) (k:=0) (ls:=List.replicate f.blocks.length []) hb hx (by rw[XL,List.length_replicate];omega);rw[XL,Nat.zero_add,Int.toNat_of_nonneg ha.1]at this;exact this
theorem Bh{f:Func}(hg:tK f){n:Nat}{v:Int}(h:(bO f)[n]?=some v):((decide ((n:Int)=0)&&decide (v=0)) ||((fU f)[v.toNat]?.getD []).any (PB ((bO f).take n)))=true:=by
 have hb:=(ln hg).2.2;have fL:∀x∈bO f,0<=x∧x<f.blocks.length:=fun x hx=>hb x (by simpa[bO]using hx);rcases rW hg h with⟨q1,q2⟩|⟨a,q1,q2⟩
 ·simp[q1,q2]
 have ha:=fL a (List.mem_of_mem_take q2);have hv:=fL v (List.mem_of_getElem? h);simp only[Bool.or_eq_true,List.any_eq_true];exact .inr ⟨a,FC ha hv q1,Ay.2 q2⟩
structure Nd(f:Func)(S:Sr):Prop where
 nd:(S.out++S.st.map (·.1)).Nodup
 seen:∀v,v∈S.out++S.st.map (·.1)↔(0<=v∧S.seen[v.toNat]?.getD false=true)
 outs:∀v∈S.out,∀x∈ir f v,S.seen[x.block.toNat]?.getD false=true
 st:∀p∈S.st,∀(j:Nat) x,(j:Int)<p.2->(ir f p.1)[j]?=some x->S.seen[x.block.toNat]?.getD false=true
theorem lB{l:List Bool}{k j:Nat}(h:l[j]?.getD false=true):(l.set k true)[j]?.getD false=true:=by
 have hj:j<l.length:=by
  refine Classical.byContradiction fun q=>?_;rw[List.getElem?_eq_none (by omega)]at h;cases h
 by_cases e:k=j
 ·subst e;rw[List.getElem?_set_self hj];rfl
 rw[List.getElem?_set_ne e];exact h
theorem Nd.step{f:Func}(hg:tK f){S:Sr}(hS:vU f S)(h:Nd f S):Nd f (dW f S):=by
 obtain⟨seen,st,out⟩:=S;obtain⟨h1,h2,h3,h4⟩:=h;simp only at h1 h2 h3 h4;cases st with
 | nil=>exact⟨h1,h2,h3,h4⟩
 | cons p r =>
  obtain⟨b,e⟩:=p;have hp:=hS.blk (b,e) (by simp);simp only at hp;have hlen:=hS.len;simp only at hlen;simp only[dW];split
  ·rename_i he;refine⟨?_,fun v=>?_,fun v hv x hx=>?_,fun q hq=>h4 q (by simp[hq])⟩
   ·simp only[List.append_assoc,List.cons_append,List.nil_append];simpa using h1
   ·rw[<-h2 v];simp only[List.append_assoc,List.cons_append,List.nil_append,List.map_cons]
   simp only at hv ⊢;rcases List.mem_append.1 hv with q|q
   ·exact h3 v q x hx
   rw[List.mem_singleton.1 q]at hx;obtain⟨j,hj⟩:=List.getElem?_of_mem hx;have:=I hj;exact h4 (b,e) (by simp) j x (by simp only;omega) hj
  rename_i he;obtain⟨x,hx,F',nS,vR⟩:=hg.next ⟨hp.1,hp.2.1⟩ hp.2.2.1 (by omega)
  split
  ·rename_i hs;refine⟨by simpa using h1,fun v=>by simpa using h2 v,h3,fun q hq j y hj hy=>?_⟩;simp only at hq ⊢;rcases List.mem_cons.1 hq with q'|q'
   ·subst q';simp only at hj hy;by_cases gh:(j:Int)<e
    ·exact h4 (b,e) (by simp) j y gh hy
    have:j=e.toNat:=by omega
    subst this;rw[hx]at hy;simp only[Option.some.injEq]at hy;subst hy;rw[F'];exact hs
   exact h4 q (by simp[q']) j y hj hy
  rename_i hs;have IN:cW f b e ∉ out++(b::r.map (·.1)):=fun hm=>by
   have:=(h2 (cW f b e)).1 (by simpa using hm);exact hs this.2
  have hk:(cW f b e).toNat<seen.length:=by omega
  refine⟨?_,fun v=>?_,fun v hv y hy=>lB (h3 v hv y hy),fun q hq j y hj hy=>?_⟩
  ·simp only[List.map_cons]at h1 ⊢;rw[List.nodup_append]at h1 ⊢;simp only[List.mem_append,not_or]at IN;refine⟨h1.1,List.nodup_cons.2 ⟨IN.2,h1.2.1⟩,fun a ha c hc=>?_⟩;rcases List.mem_cons.1 hc with q|q
   ·subst q;exact fun e=>IN.1 (e ▸ ha)
   exact h1.2.2 a ha c q
  ·simp only[List.map_cons];have Ir:=h2 v;simp only[List.map_cons]at Ir;by_cases e1:v=cW f b e
   ·subst e1;rw[List.getElem?_set_self hk];simp;omega
   have:v∈out++cW f b e::b::r.map (·.1)↔v∈out++(b::r.map (·.1)):=by
    simp only[List.mem_append,List.mem_cons,e1,false_or]
   rw[this,Ir];by_cases h0:0<=v
   ·rw[List.getElem?_set_ne (by omega)]
   simp[h0]
  simp only at hq ⊢;rcases List.mem_cons.1 hq with q'|q'
  ·subst q';simp only at hj;omega
  rcases List.mem_cons.1 q' with q'|q'
  ·subst q';simp only at hj hy;by_cases gh:(j:Int)<e
   ·exact lB (h4 (b,e) (by simp) j y gh hy)
   have:j=e.toNat:=by omega
   subst this;rw[hx]at hy;simp only[Option.some.injEq]at hy;subst hy;rw[F',List.getElem?_set_self hk];rfl
  exact lB (h4 q (by simp[q']) j y hj hy)
theorem Nd.run{f:Func}(hg:tK f):∀(n:Nat) (S:Sr),vU f S->Nd f S->Nd f (gI f n S)
 | 0,S,_,h=>h
 | n+1,S,hS,h=>by
  simp only[gI];cases fo:S.st with
  | nil=>simpa[fo]using h
  | cons p r =>
   simp only[List.isEmpty_cons,Bool.false_eq_true,if_false];exact Nd.run hg n _ (oY hg hS (by rw[fo];simp)).1 (h.step hg hS)
theorem Nd.start{f:Func}(hg:tK f):Nd f (cL f):=by
 have hl:=List.length_pos_iff.2 hg.ne;refine⟨by simp[cL],fun v=>?_,fun v hv=>by simp[cL]at hv,fun p hp j x hj=>?_⟩
 ·simp only[cL,List.nil_append,List.map_cons,List.map_nil,List.mem_singleton];constructor
  ·intro e;subst e;refine⟨by omega,?_⟩;rw[Int.toNat_zero,List.getElem?_set_self (by simpa using hl)];rfl
  rintro⟨h0,h⟩;refine Classical.byContradiction fun q=>?_;rw[List.getElem?_set_ne (by omega),List.getElem?_replicate]at h;split at h<;>simp at h
 simp only[cL,List.mem_singleton]at hp;subst hp;simp only at hj;omega
theorem fp{l:List Int}{n:Int}:(0<=j7 l n↔n∈l)∧(0<=j7 l n->l[(j7 l n).toNat]?=some n):=by
 unfold j7;have hm:l.findIdx (· == n)<l.length↔n∈l:=by
  rw[List.findIdx_lt_length];simp
 by_cases h:l.findIdx (· == n)<l.length
 ·rw[if_pos h];refine⟨⟨fun _=>hm.1 h,fun _=>by omega⟩,fun _=>?_⟩;have:=List.findIdx_getElem (w:=h);simp only[beq_iff_eq]at this;rw[Int.toNat_natCast,List.getElem?_eq_getElem h,this]
 rw[if_neg h];exact⟨⟨fun q=>absurd q (by omega),fun q=>absurd (hm.2 q) h⟩,fun q=>absurd q (by omega)⟩
def jG(f:Func)(k:Int):Int:=j7 (bO f) k
structure nr(f:Func):Prop where
 inj:∀a b,0<=jG f a->jG f a=jG f b->a=b
 zero:jG f 0=0
 at_:∀(i:Nat) v,(bO f)[i]?=some v->jG f v=i
 get:∀v,0<=jG f v->(bO f)[(jG f v).toNat]?=some v
 low:∀v,-1<=jG f v∧jG f v<(bO f).length
 fwd:∀v,1<=jG f v->∃a,K7 f a v∧0<=jG f a∧jG f a<jG f v
 next:∀a b,0<=jG f a->K7 f a b->0<=jG f b
 range:∀v,0<=jG f v->0<=v∧v<f.blocks.length
 few:(bO f).length<=128
 pos:0<(bO f).length
theorem kP{f:Func}(hg:tK f):nr f:=by
 obtain⟨g1,g2,g3⟩:=ln hg;have h0:=mZ hg;have h1:=rb hg 100000 _ h0.1 h0.2;have hN:=Nd.run hg 100000 _ h0.1 (Nd.start hg);have tz:(bO f).Nodup:=by
  have:=hN.nd;rw[h1.2]at this;simp only[List.map_nil,List.append_nil]at this;unfold bO List.Nodup;rw[List.pairwise_reverse];exact List.Pairwise.imp (fun h=>Ne.symm h) this
 have fL:∀v,v∈bO f↔v∈gE f:=fun v=>by simp[bO]
 have cq:0<(bO f).length:=by
  have:bO f≠[]:=by simpa[bO]using g1
  exact List.length_pos_iff.2 this
 have eJ:∀v,0<=jG f v->(bO f)[(jG f v).toNat]?=some v:=fun v hv=>fp.2 hv;have Az:∀(i:Nat) v,(bO f)[i]?=some v->jG f v=i:=fun i v hi=>by
  have hm:v∈bO f:=List.mem_of_getElem? hi;have h2:=eJ v (fp.1.2 hm);have h3:0<=jG f v:=fp.1.2 hm;have:=(List.getElem?_inj (I h2) tz).1 (h2.trans hi.symm);omega
 have yF:∀v,-1<=jG f v∧jG f v<(bO f).length:=fun v=>by
  unfold jG j7;split
  ·omega
  omega
 refine⟨fun a b ha e=>?_,?_,Az,eJ,yF,fun v hv=>?_,fun a b ha e=>?_,fun v hv=>?_,by simpa[bO]using g2,cq⟩
 ·have h2:=eJ a ha;have h3:=eJ b (by omega);rw[e,h3]at h2;simpa using h2.symm
 ·have:(bO f)[0]?=some (bO f)[0]:=List.getElem?_eq_getElem cq;rcases rW hg this with⟨_,q⟩|⟨a,_,q⟩
  ·have:=Az 0 _ this;rw[q]at this;simpa using this
  simp at q
 ·have h2:=eJ v (by omega);rcases rW hg h2 with⟨q,_⟩|⟨a,q1,q2⟩
  ·omega
  obtain⟨j,hj⟩:=List.getElem?_of_mem q2;rw[List.getElem?_take]at hj;split at hj
  ·have:=Az j a hj;exact⟨a,q1,by omega,by omega⟩
  cases hj
 ·have hm:a∈gE f:=(fL a).1 (fp.1.1 ha);obtain⟨x,hx,F'⟩:=e;have:=hN.outs a hm x hx;rw[F']at this;have hb:0<=b:=by
   have XD:=g3 a hm;have:=hg.gG _ (iu XD.1 XD.2) x hx;omega
  have h3:=(hN.seen b).2 ⟨hb,this⟩;rw[h1.2]at h3;simp only[List.map_nil,List.append_nil]at h3;exact fp.1.2 ((fL b).2 h3)
 exact g3 v ((fL v).1 (fp.1.1 hv))
def Ee(l:List Int)(k:Int):Int:=l[k.toNat]?.getD (-1)

end Go.Proofs.YtjdnhamngpafmaaGreat
namespace Go.Proofs.YtjdnhamngpafmaaGreat
open Go.Av Go.Sort
def oq(l:List Int):List Int:=l.mergeSort fun x y=>decide (x<=y)
theorem kV(l:List Int):(oq l).Perm l:=List.mergeSort_perm _ _
theorem ra(l:List Int):(oq l).Pairwise (fun x y=>x<=y):=by
 have h:=List.pairwise_mergeSort (le:=fun x y:Int=>decide (x<=y)) (fun a b c h1 h2=>by simp only[decide_eq_true_eq]at h1 h2 ⊢;omega) (fun a b=>by simp only[Bool.or_eq_true,decide_eq_true_eq];omega) l;exact h.imp fun q=>by simpa using q
def wT(P:Program)(f:FuncId):Prop:=∀(blk off cap:Nat) (zs:List Int) (w:World),Go.Sort.Holds (Value.int .i64) w blk off zs.toArray->blk<w.heap.size->zs.length<4611686018427387904 ->
 Calls P f #[.slice (some ⟨blk,off,none⟩) zs.length cap] w fun e w' =>
  e=.returned (.tuple #[])∧∃n os,w'=grow (putRow (Value.int .i64) (Sort.ahead w n) blk off (zs.mergeSort fun x y=>decide (x<=y)).toArray) os
theorem BJ{P:Program}{f:FuncId}(FW:Go.Av.Enters P f)(hc:wT P f){O:List ak}{id:Nat}{zs:List Int}(ho:O[id]?=some (.cells (zs.map aI)))(hl:zs.length<=1000) :
  bd P f O [.os id zs.length 1] (fun r O'=>r=.cw []∧O'=O.set id (.cells ((oq zs).map aI))):=by
 refine⟨FW,fun g vs hg Ex KV=>?_⟩;subst Ex;obtain⟨h1,h2⟩:=KV;simp only[List.length_singleton]at h1;have Mo:vs[0]?=some (vs[0]'(by omega)):=Array.getElem?_eq_getElem _;obtain⟨l,o,cap,he,iC,Zj,cP,hb,cy,AW⟩:=(h2 0 _ _ rfl Mo).rX;have KV:vs = #[.slice (some ⟨l.block,0,none⟩) zs.length cap]:=by
  apply Array.ext
  ·simpa using h1
  intro i PW KQ;have:i=0:=by omega
  subst this;exact AW
 subst KV;obtain⟨arr,t,ix,da,hlen,fA,nQ,F1⟩:=hg.row ho he;rw[List.length_map]at hlen;have eS:∀(j:Nat) x,zs[j]?=some x->arr[j]?=some (.int .i64 x)∧gK (.int .i64 x):=fun j x hj=>by
  have FY:=I hj;have P0:arr[j]?=some (arr[j]'(by omega)):=Array.getElem?_eq_getElem _;obtain⟨e,hf⟩:=(fA j (aI x) _ (by simp[hj]) P0).bZ;exact⟨by rw[P0,e],hf⟩
 have hH:Go.Sort.Holds (Value.int .i64) g.w l.block 0 zs.toArray:=fun j hj=>by
  have iB:j<zs.length:=by simpa using hj
  refine⟨?_,by simp[World.frozen?,da]⟩;rw[show g.w.cell? ⟨l.block,0+j,none⟩=arr[0+j]? from Go.Av.cell_of_row da (0+j),Nat.zero_add,(eS j _ (List.getElem?_eq_getElem iB)).1];simp[iB]
 refine(hc l.block 0 cap zs g.w hH (aU da) (by omega)).mono ?_;rintro e w' ⟨rfl,n,os,wE⟩;have Zv:(zs.mergeSort fun x y=>decide (x<=y))=oq zs:=rfl;rw[Zv]at wE;have hp:=kV zs;obtain⟨ss,Tm⟩:∃ss,ss=oq zs:=⟨_,rfl⟩
 rw[<-Tm]at wE hp ⊢;have ng:=hp.length_eq;have Va:=aU da;have eF:∀k,k<g.w.heap.size->w'.heap[k]?=(g.w.heap.modify l.block (onCells (putCells (Value.int .i64) 0 ss.toArray)))[k]?:=fun k hk=>by
  subst wE;simp only[grow,putRow,mapBlock,Sort.ahead];rw[Array.getElem?_append_left (by simpa using hk)]
 have Ti:w'.heap[l.block]?=some (.cells (putCells (Value.int .i64) 0 ss.toArray arr) t (0,0)):=by
  rw[eF _ Va,Array.getElem?_modify,if_pos rfl,da];rfl
 have S9:∀k,k<g.w.heap.size->k≠l.block->w'.heap[k]?=g.w.heap[k]?:=fun k hk cq=>by
  rw[eF k hk,Array.getElem?_modify,if_neg (fun q=>cq q.symm)]
 have jn:∀(j:Nat) x,ss[j]?=some x->(putCells (Value.int .i64) 0 ss.toArray arr)[j]?=some (.int .i64 x):=fun j x hj=>by
  have FY:=I hj;have P0:arr[j]?=some (arr[j]'(by omega)):=Array.getElem?_eq_getElem _;simp only[putCells,Array.getElem?_mapIdx,P0,Option.map_some,Nat.zero_add,Nat.zero_le,true_and,Nat.sub_zero,List.size_toArray];rw[if_pos FY];simp[hj]
 have dZ:kC g id (.cells (zs.map aI)) (some l) (.cells (ss.map aI)) w' :=
  {obj:=ho
   os:=by rw[wE];rfl
   tape:=by rw[wE];rfl
   output:=by rw[wE];rfl
   size:=by rw[wE];simp[grow,putRow,mapBlock,Sort.ahead]
   block:=fun k hk cq=>S9 k hk fun e=>cq l he trivial e.symm
   cell:=fun b off x hx hb=>by
    by_cases e:b=l.block
    ·have:=hb l he trivial e.symm;omega
    rw[ji (S9 b (oF hx) e)];exact hx
   place:=fun l1 h1 _=>by
    simp only[Option.some.injEq]at h1;subst h1;exact .inr ⟨l,he,trivial,rfl,Nat.le_refl _⟩
   spare:=fun m h=>by cases h
   plain:=fun _=>⟨by simp[ak.aD],he⟩
   gone:=by simp }
 refine⟨g.bu id (some l) (.cells (ss.map aI)) w',.tuple #[],.cw [],rfl,rfl,Le.bu hg dZ,Good.bu hg dZ ?_ ?_,.cw rfl (by simp),rfl,rfl⟩
 ·refine⟨l,_,t,rfl,ix,Ti,by simp[putCells,ng];omega,fun j c u hj hu=>?_,fun c hc=>?_,by simpa[putCells]using F1⟩
  ·rw[List.getElem?_map]at hj;obtain⟨x,hx,rfl⟩:=Option.map_eq_some_iff.1 hj;rw[jn j x hx]at hu;simp only[Option.some.injEq]at hu;subst hu;have hm:x∈zs:=hp.subset (List.mem_of_getElem? hx);obtain⟨i,hi⟩:=List.getElem?_of_mem hm;exact .v (eS i x hi).2
  obtain⟨x,_,rfl⟩:=List.mem_map.1 hc;trivial
 intro l1 h1 _;simp only[Option.some.injEq]at h1;subst h1;rw[wE];simp[grow,putRow,mapBlock,Sort.ahead];omega
end Go.Proofs.YtjdnhamngpafmaaGreat
namespace Go.Proofs.YtjdnhamngpafmaaGreat
open Go.Av
def dh(f:Func):List Int:=oq (bO f)
theorem dE{f:Func}{k:Int}:k∈dh f↔0<=jG f k:=by
 unfold dh jG;rw[(kV _).mem_iff];exact fp.1.symm
theorem Bq(f:Func):(dh f).length=(bO f).length:=(kV _).length_eq
end Go.Proofs.YtjdnhamngpafmaaGreat
namespace Go.Av
theorem tQ{P:Program}{kb:Nat}{c:Code}{Q:dt->St->Prop}{n:Nat}{bn:List (Nat×ae)}{A:Nat}{C:Nat->List ae}{N M:Nat}(pos:Nat->Nat)
  (df:∀i,∀d∈C i,d.scalar) (hl:∀i,(C i).length=M) (F:Nat->List ak->Prop)
  (hF:∀i O,i<N->O[A]?=some (.cells (C i))->F i O->(C (i+1)=C i∧F (i+1) O) ∨
   ∃id o x y,id≠A∧O[id]?=some o∧¬o.aD∧o.live∧(C i)[pos i]?=some x∧(C (i+1))=(C i).set (pos i) y∧bM O id x y∧F (i+1) ((O.set id .gone).set A (.cells (C (i+1))))) :
  ∀(m i:Nat) (O:List ak),i+m=N->O[A]?=some (.cells (C i))->F i O->(∀O',O'.length=O.length->O'[A]?=some (.cells (C N))->F N O'->bX P kb c Q ⟨n,bn,O'⟩)->bX P kb c Q ⟨n,bn,O⟩
 | 0,i,O,hi,hA,hf,h=>by
  have:i=N:=by omega
  subst this;exact h O rfl hA hf
 | m+1,i,O,hi,hA,hf,h=>by
  rcases hF i O (by omega) hA hf with⟨e,ff⟩|⟨id,o,x,y,h1,h2,h3,h4,h5,h6,h7,ff⟩
  ·exact tQ pos df hl F hF m (i+1) O (by omega) (by rw[e];exact hA) ff h
  have LL:=I hA;refine gS id h2 h3 h4 bn (fun s z hz=>⟨z,hz,.refl z⟩) A (Ne.symm h1) (C i) (C (i+1)) hA (by rw[hl,hl]) (df (i+1)) (fun j a b ha hb=>?_) (tQ pos df hl F hF m (i+1) _ (by omega) (by rw[List.getElem?_set_self (by rw[List.length_set];exact LL)]) ff fun O' Py=>h O' (by rw[Py,List.length_set,List.length_set]));rw[h6,List.getElem?_set]at hb;split at hb
  ·rename_i e;rw[<-e,h5]at ha;rw[if_pos (I h5)]at hb;simp only[Option.some.injEq]at ha hb;subst ha;subst hb;exact h7
  rw[ha]at hb;simp only[Option.some.injEq]at hb;subst hb;exact .refl _
end Go.Av
namespace Go.Proofs.YtjdnhamngpafmaaGreat
open Go.Av
def iq(A:List Int)(e:Edge):Edge:=⟨Ee A e.block,e.args⟩
def tl(A:List Int)(b:Block):Block:=⟨b.params,b.ins,⟨b.term.kind,b.term.arg,b.term.n,b.term.cases,b.term.to.map (iq A)⟩⟩
def pg(f:Func):List Int:=(List.range f.blocks.length).map fun(k:Nat)=>j7 (dh f) (k:Int)
def bH(f:Func):Func:=⟨f.name,(dh f).map fun k=>tl (pg f) (aF f k)⟩
theorem p'{f:Func}(hw:nr f):(dh f).Nodup:=by
 refine(kV _).nodup_iff.2 ?_;unfold List.Nodup;rw[List.pairwise_iff_getElem];intro i j hi hj rK e;have h1:=hw.at_ i _ (List.getElem?_eq_getElem hi);have h2:=hw.at_ j _ (List.getElem?_eq_getElem hj);rw[e,h2]at h1;omega
theorem mz(a b:List Edge):gy (a++b)=gy a++gy b:=by simp[gy]
def mP(A:List Int)(es:List Edge)(n:Nat):List Edge:=(es.take n).map (iq A)++es.drop n
theorem Gp(A:List Int)(es:List Edge):mP A es 0=es:=by simp[mP]
theorem Jc(A:List Int){es:List Edge}{n:Nat}(h:es.length<=n):mP A es n=es.map (iq A):=by
 unfold mP;rw[List.take_of_length_le h,List.drop_of_length_le h,List.append_nil]
theorem Bc(A:List Int)(es:List Edge)(n:Nat):(mP A es n).length=es.length:=by
 unfold mP;rw[List.length_append,List.length_map,List.length_take,List.length_drop];omega
theorem Po{es:List Edge}{n:Nat}{e:Edge}(h:es[n]?=some e):(gy es)[n*2]?=some (aI e.block)∧(gy es)[n*2+1]?=some (aJ e.args):=by
 have hl:=I h;have e1:es=es.take n++e::es.drop (n+1):=by
  rw[<-bK h,List.take_append_drop]
 have hlen:(gy (es.take n)).length=n*2:=by rw[mA,List.length_take];omega
 have e2:gy es=gy (es.take n)++(aI e.block::aJ e.args::gy (es.drop (n+1))):=by
  conv=>lhs;rw[e1]
  rw[mz];rfl
 rw[e2];refine⟨?_,?_⟩
 ·rw[List.getElem?_append_right (by omega),hlen,Nat.sub_self];rfl
 rw[List.getElem?_append_right (by omega),hlen,show n*2+1-n*2=1 by omega];rfl
theorem Mx(A:List Int){es:List Edge}{n:Nat}{e:Edge}(h:es[n]?=some e):(mP A es n)[n]?=some e:=by
 have hl:=I h;unfold mP;rw[List.getElem?_append_right (by rw[List.length_map,List.length_take];omega),List.length_map,List.length_take,show n-min n es.length=0 by omega,List.getElem?_drop,Nat.add_zero,h]
theorem Gn(A:List Int){es:List Edge}{n:Nat}{e:Edge}(h:es[n]?=some e):bh (gy (mP A es n)) (n*2) [.v (.int .i64 (Ee A e.block))]=gy (mP A es (n+1)):=by
 have hl:=I h;have hlen:(gy ((es.take n).map (iq A))).length=n*2:=by rw[mA,List.length_map,List.length_take];omega
 have h1:gy (mP A es n)=gy ((es.take n).map (iq A))++(aI e.block::aJ e.args::gy (es.drop (n+1))):=by
  unfold mP;rw[mz,bK h];rfl
 have h2:gy (mP A es (n+1))=gy ((es.take n).map (iq A))++(aI (Ee A e.block)::aJ e.args::gy (es.drop (n+1))):=by
  unfold mP;rw[mz,List.take_add_one,h,List.map_append,mz,List.append_assoc];rfl
 rw[cA _ (by rw[mA,Bc];omega),h1,h2,List.set_append_right _ _ (by omega),hlen,Nat.sub_self,List.set_cons_zero]
def tk(ids:List Nat)(l:List Int):List Nat:=l.map fun k=>ids[k.toNat]?.getD 0
def ny(f:Func)(A:List Int)(l:List Int):List Block:=l.map fun k=>tl A (aF f k)
structure Hm(f:Func)(A:List Int)(ids:List Nat)(dO X:Nat)(l:List Int)(oid:Nat)(O:List ak):Prop where
 up:∀o∈O,o.upto O.length
 r1:O[1]?=some (.cells [aI 0,.aA 7 [] .ex])
 x5:5<=X
 xb:dO≠X
 bl:5<=dO∧O[dO]?=some (.cells (fh ids f.blocks))
 li:ids.length=f.blocks.length
 own:∀(j id:Nat) (b:Block),ids[j]?=some id->f.blocks[j]?=some b->b.term.to≠[]->5<=id∧id≠dO∧id≠X∧(l≠[]->id≠oid)∧O[id]?=some (.cells (gy (if(j:Int)∈l then b.term.to.map (iq A)else b.term.to)))
 inj:∀(i j id:Nat) (b c:Block),ids[i]?=some id->ids[j]?=some id->f.blocks[i]?=some b->f.blocks[j]?=some c->b.term.to≠[]->c.term.to≠[]->i=j
 out:O[X]?=some (.cells [aI f.name,je oid (ny f A l)])
 aA:l≠[]->5<=oid∧oid≠X∧oid≠dO∧O[oid]?=some (.cells (fh (tk ids l) (ny f A l)))
theorem iU(A:List Int)(b:Block):(tl A b).term.to=b.term.to.map (iq A):=rfl
theorem Jw(A:List Int)(id:Nat)(b:Block):pZ id (b.term.to.map (iq A))=pZ id b.term.to:=by
 unfold pZ;by_cases h:b.term.to=[]
 ·rw[if_pos h,if_pos (by rw[h];rfl)]
 rw[if_neg h,if_neg (by simpa using h),List.length_map]
theorem Hm.snoc{f:Func}{A:List Int}{ids:List Nat}{dO X:Nat}{l:List Int}{oid:Nat}{O O1:List ak}(h:Hm f A ids dO X l oid O){k:Nat}{b:Block}{id:Nat}(hb:f.blocks[k]?=some b)(fK:ids[k]?=some id)(hk:(k:Int) ∉ l)
  (hlen:O1.length=O.length) (bB:∀o∈O1,o.upto O.length) (eF:∀j,(b.term.to≠[]->j≠id)->(l≠[]->j≠oid)->O1[j]?=O[j]?) (uQ:b.term.to≠[]->O1[id]?=some (.cells (gy (b.term.to.map (iq A))))) {cs ar:List ae}
  (fA:cs=fh (tk ids (l++[(k:Int)])) (ny f A (l++[(k:Int)]))) (R3:ar=[aI f.name,.os O.length (l.length+1) 7]):Hm f A ids dO X (l++[(k:Int)]) O.length ((O1++[ak.cells cs]).set X (.cells ar)):=by
 have U4:=I h.out;have pN:=I h.bl.2;have ix:l≠[]->oid≠X∧oid≠dO∧5<=oid:=fun q=>by obtain⟨a,b,c,_⟩:=h.aA q;exact⟨b,c,a⟩
 have xq:∀(j id:Nat) (c:Block),ids[j]?=some id->f.blocks[j]?=some c->c.term.to≠[]->id<O.length:=fun j id c h1 h2 h3=>I (h.own j id c h1 h2 h3).2.2.2.2;have pr:∀j,j<O.length->j≠X->(b.term.to≠[]->j≠id)->(l≠[]->j≠oid)->((O1++[ak.cells cs]).set X (.cells ar))[j]?=O[j]?:=fun j hj Y6 h1 h2=>by
  rw[List.getElem?_set_ne (Ne.symm Y6),List.getElem?_append_left (by omega),eF j h1 h2]
 have SE:=h.own k id b fK hb;subst fA;subst R3;exact {
  up:=by
   intro o ho;rw[List.length_set,List.length_append,List.length_singleton,hlen];rcases List.mem_or_eq_of_mem_set ho with q|q
   ·rcases List.mem_append.1 q with q|q
    ·exact ak.b8 (by omega) (bB o q)
    rw[List.mem_singleton]at q;subst q;refine wY fun j lE c h1 h2 h3=>?_;unfold tk at h1;unfold ny at h2;rw[List.getElem?_map,Option.map_eq_some_iff]at h1 h2;obtain⟨k1,e1,e2⟩:=h1;obtain⟨k2,e3,e4⟩:=h2;rw[e1]at e3;simp only[Option.some.injEq]at e3;subst e3;subst e4;rw[iU]at h3;have rq:(aF f k1).term.to≠[]:=fun q=>h3 (by rw[q];rfl);have EA:k1.toNat<f.blocks.length:=by
     refine Classical.byContradiction fun q=>rq ?_;unfold aF;rw[List.getElem?_eq_none (by omega)];rfl
    have FQ:f.blocks[k1.toNat]?=some (aF f k1):=by
     unfold aF;rw[List.getElem?_eq_getElem EA];rfl
    have SF:ids[k1.toNat]?=some lE:=by
     rw[List.getElem?_eq_getElem (by rw[h.li];exact EA)]at e2 ⊢;exact congrArg some e2
    have:=xq _ _ _ SF FQ rq;omega
   subst q;exact⟨trivial,show _<_ by omega,trivial⟩
  r1:=by
   rw[pr 1 (I h.r1) (by have:=h.x5;omega) (fun q=>by have:=(SE q).1;omega) (fun q=>by have:=(ix q).2.2;omega)];exact h.r1
  x5:=h.x5
  xb:=h.xb
  bl:=by
   refine⟨h.bl.1,?_⟩;rw[pr dO pN h.xb (fun q=>Ne.symm (SE q).2.1) (fun q=>Ne.symm (ix q).2.1)];exact h.bl.2
  li:=h.li
  own:=fun j lE c h1 h2 h3=>by
   obtain⟨o1,o2,o3,o4,o5⟩:=h.own j lE c h1 h2 h3;have BZ:=I o5;refine⟨o1,o2,o3,fun _=>by omega,?_⟩;rw[List.getElem?_set_ne (Ne.symm o3),List.getElem?_append_left (by omega)];by_cases e:j=k
   ·subst e;rw[fK]at h1;rw[hb]at h2;simp only[Option.some.injEq]at h1 h2;subst h1;subst h2;rw[if_pos (by simp)];exact uQ h3
   rw[eF lE (fun q e2=>by
    subst e2;exact e (h.inj j k lE c b h1 fK h2 hb h3 q)) o4,o5]
   have Y7:((j:Int)∈l++[(k:Int)])=((j:Int)∈l):=by
    apply propext;rw[List.mem_append,List.mem_singleton];exact⟨fun q=>q.resolve_right (by omega),.inl⟩
   simp only[Y7]
  inj:=h.inj
  out:=by
   rw[List.getElem?_set_self (by rw[List.length_append];omega)];have:je O.length (ny f A (l++[(k:Int)]))=.os O.length (l.length+1) 7:=by
    unfold je ny;rw[if_neg (by simp),List.length_map,List.length_append];rfl
   rw[this]
  aA:=fun _=>by
   have h5:=h.x5;refine⟨by omega,by omega,by omega,?_⟩;rw[List.getElem?_set_ne (by omega),List.getElem?_append_right (by omega),hlen,Nat.sub_self];rfl }
theorem Lh(A:List Int)(id:Nat)(b:Block):tq id (tl A b)=tq id b:=by
 unfold tq;rw[iU,Jw];rfl
theorem Eh:∀{ids:List Nat} {bs:List Block} {k id:Nat} {b:Block},ids[k]?=some id->bs[k]?=some b->((fh ids bs).drop (k*7)).take 7=tq id b
 | i::ids,c::bs,0,id,b,h1,h2=>by
  simp only[List.getElem?_cons_zero,Option.some.injEq]at h1 h2;subst h1;subst h2;rfl
 | i::ids,c::bs,k+1,id,b,h1,h2=>by
  have ih:=Eh (ids:=ids) (bs:=bs) (k:=k) (by simpa using h1) (by simpa using h2);have e:fh (i::ids) (c::bs)=tq i c++fh ids bs:=rfl;have hl:(tq i c).length=7:=rfl;rw[e,List.drop_append,List.drop_of_length_le (by rw[hl];omega),hl,List.nil_append,show(k+1)*7-7=k*7 by omega];exact ih
 | [],_,k,id,b,h1,_=>by simp at h1
 | i::ids,[],k,id,b,_,h2=>by simp at h2
theorem qT{f:Func}{A:List Int}{ids:List Nat}{l:List Int}{k id:Nat}{b:Block}(h1:ids[k]?=some id)(h2:f.blocks[k]?=some b) :
  fh (tk ids (l++[(k:Int)])) (ny f A (l++[(k:Int)]))=fh (tk ids l) (ny f A l)++tq id b:=by
 have hb:aF f (k:Int)=b:=by
  unfold aF;rw[Int.toNat_natCast,h2];rfl
 unfold tk ny;rw[List.map_append,List.map_append];simp only[List.map_cons,List.map_nil,Int.toNat_natCast,h1,Option.getD_some,hb];rw[ry (by simp),Lh]
theorem yX(ids:List Nat)(l:List Int):(tk ids l).length=l.length:=List.length_map ..
theorem km(f:Func)(A:List Int)(l:List Int):(ny f A l).length=l.length:=List.length_map ..
theorem Hm.start{f:Func}(A:List Int){ids:List Nat}{dO:Nat}{O:List ak}(bB:∀o∈O,o.upto O.length)(h1:O[1]?=some (.cells [aI 0,.aA 7 [] .ex]))(hb:5<=dO∧O[dO]?=some (.cells (fh ids f.blocks)))(hc:UD 5 ids f.blocks O)
  (cq:∀(j id:Nat) (b:Block),ids[j]?=some id->f.blocks[j]?=some b->b.term.to≠[]->id≠dO):Hm f A ids dO O.length [] 0 (O++[ak.cells [aI f.name,.aA 7 [] .ex]]) where
 up:=fun o ho=>by
  rw[List.length_append,List.length_singleton];rcases List.mem_append.1 ho with q|q
  ·exact ak.b8 (by omega) (bB o q)
  rw[List.mem_singleton]at q;subst q;exact⟨trivial,⟨trivial,trivial⟩,trivial⟩
 r1:=cm h1
 x5:=by
  have:=I hb.2;omega
 xb:=by
  have:=I hb.2;omega
 bl:=⟨hb.1,cm hb.2⟩
 li:=hc.li
 own:=fun j id b q1 q2 q3=>by
  obtain⟨o1,o2⟩:=hc.own j id b q1 q2 q3;have:=I o2;refine⟨o1,cq j id b q1 q2 q3,by omega,fun q=>absurd rfl q,?_⟩;rw[if_neg (by simp)];exact cm o2
 inj:=hc.inj
 out:=kT _ _
 aA:=fun q=>absurd rfl q
def nv:Nat->List Nat->List Block->List ae
 | 0,ids,bs=>fh ids bs
 | i+1,_::ids,b::bs=>b.enc.cells++nv i ids bs
 | _+1,_,_=>[]
theorem ve:∀(i:Nat) {ids:List Nat} {bs:List Block},ids.length=bs.length->(nv i ids bs).length=bs.length*7
 | 0,ids,bs,h=>lQ h
 | i+1,_::ids,b::bs,h=>by
  have hb:b.enc.cells.length=7:=rfl;rw[nv,List.length_append,ve i (by simpa using h),hb,List.length_cons];omega
 | i+1,[],[],_=>rfl
 | i+1,[],b::bs,h=>by simp at h
 | i+1,x::ids,[],h=>by simp at h
theorem Cl(id:Nat)(b:Block):∀d∈tq id b,d.scalar:=fun d hd=>by
 simp only[tq,List.mem_cons,List.not_mem_nil,or_false]at hd;rcases hd with rfl|rfl|rfl|rfl|rfl|rfl|rfl
 ·trivial
 ·trivial
 ·trivial
 ·trivial
 ·trivial
 ·trivial
 unfold pZ;split<;>trivial
theorem sG:∀(i:Nat) (ids:List Nat) (bs:List Block),∀d∈nv i ids bs,d.scalar
 | 0,ids,bs=>fun d hd=>by
  unfold nv fh at hd;obtain⟨l,hl,hd⟩:=List.mem_flatten.1 hd;obtain⟨j,hj⟩:=List.mem_iff_getElem?.1 hl;rw[List.getElem?_zipWith]at hj;cases h1:ids[j]? with
  | none=>rw[h1]at hj;cases hj
  | some id =>
   cases h2:bs[j]? with
   | none=>rw[h1,h2]at hj;cases hj
   | some b =>
    rw[h1,h2]at hj;simp only[Option.some.injEq]at hj;subst hj;exact Cl id b d hd
 | i+1,x::ids,b::bs=>fun d hd=>by
  rw[nv]at hd;rcases List.mem_append.1 hd with q|q
  ·simp only[Block.enc,ae.cells,List.mem_cons,List.not_mem_nil,or_false]at q;rcases q with rfl|rfl|rfl|rfl|rfl|rfl|rfl<;>trivial
  exact sG i ids bs d q
 | i+1,[],[]=>fun d hd=>by cases hd
 | i+1,[],b::bs=>fun d hd=>by cases hd
 | i+1,x::ids,[]=>fun d hd=>by cases hd
theorem EX:∀(i:Nat) {ids:List Nat} {bs:List Block} {id:Nat} {b:Block},ids[i]?=some id->bs[i]?=some b ->
  (nv i ids bs)[i*7+6]?=some (pZ id b.term.to)∧nv (i+1) ids bs=(nv i ids bs).set (i*7+6) (aG b.term.to)
 | 0,x::ids,c::bs,id,b,h1,h2=>by
  simp only[List.getElem?_cons_zero,Option.some.injEq]at h1 h2;subst h1;subst h2;exact⟨rfl,rfl⟩
 | i+1,x::ids,c::bs,id,b,h1,h2=>by
  obtain⟨i1,i2⟩:=EX i (ids:=ids) (bs:=bs) (id:=id) (b:=b) (by simpa using h1) (by simpa using h2);have hb:c.enc.cells.length=7:=rfl;have e:nv (i+1) (x::ids) (c::bs)=c.enc.cells++nv i ids bs:=rfl;have e2:nv (i+1+1) (x::ids) (c::bs)=c.enc.cells++nv (i+1) ids bs:=rfl;rw[e,e2,i2];refine⟨?_,?_⟩
  ·rw[List.getElem?_append_right (by omega),hb,show(i+1)*7+6-7=i*7+6 by omega];exact i1
  rw[List.set_append_right _ _ (by omega),hb,show(i+1)*7+6-7=i*7+6 by omega]
 | 0,[],_,id,b,h1,_=>by simp at h1
 | 0,_::_,[],id,b,_,h2=>by simp at h2
 | i+1,[],_,id,b,h1,_=>by simp at h1
 | i+1,_::_,[],id,b,_,h2=>by simp at h2
theorem vd:∀{ids:List Nat} {bs:List Block},ids.length=bs.length->nv bs.length ids bs=an (bs.map Block.enc)
 | [],[],_=>rfl
 | x::ids,b::bs,h=>by
  have e:an ((b::bs).map Block.enc)=b.enc.cells++an (bs.map Block.enc):=rfl;rw[e,<-vd (ids:=ids) (by simpa using h)];rfl
 | [],b::bs,h=>by simp at h
 | x::ids,[],h=>by simp at h
theorem mn(bs:List Block):(an (bs.map Block.enc)).map ae.bg=an (bs.map Block.enc):=by
 induction bs with
 | nil=>rfl
 | cons b r ih =>
  have e:an ((b::r).map Block.enc)=b.enc.cells++an (r.map Block.enc):=rfl;rw[e,List.map_append,ih];rfl
theorem Cd{P:Program}{kb:Nat}{c:Code}{Q:dt->St->Prop}{n:Nat}{bn:List (Nat×ae)}{O:List ak}{ids:List Nat}{bs:List Block}{X oid:Nat}{name:Int}
  (hl:ids.length=bs.length) (hX:oid≠X) (ik:O[X]?=some (.cells [aI name,.os oid bs.length 7])) (VC:O[oid]?=some (.cells (fh ids bs)))
  (nT:∀(j id:Nat) (b:Block),ids[j]?=some id->bs[j]?=some b->b.term.to≠[]->id≠oid∧id≠X∧O[id]?=some (.cells (gy b.term.to)))
  (Vt:∀(i j id:Nat) (b d:Block),ids[i]?=some id->ids[j]?=some id->bs[i]?=some b->bs[j]?=some d->b.term.to≠[]->d.term.to≠[]->i=j)
  (h:∀O',O'.length=O.length->O'[X]?=some (.cells [aI name,aw bs])->bX P kb c Q ⟨n,bn,O'⟩):bX P kb c Q ⟨n,bn,O⟩:=by
 refine tQ (A:=oid) (C:=fun i=>nv i ids bs) (N:=bs.length) (M:=bs.length*7) (fun i=>i*7+6) (fun i=>sG i ids bs) (fun i=>ve i hl)
  (fun i O=>O[X]?=some (.cells [aI name,.os oid bs.length 7])∧∀(j id:Nat) (b:Block),i<=j->ids[j]?=some id->bs[j]?=some b->b.term.to≠[]->id≠oid∧id≠X∧O[id]?=some (.cells (gy b.term.to)))
  (fun i O hi hA hf=>?_) bs.length 0 O (by omega) VC ⟨ik,fun j id b _=>nT j id b⟩ (fun O1 dH hA hf=>?_)
 ·have fK:ids[i]?=some (ids[i]'(by omega)):=List.getElem?_eq_getElem _;have hb:bs[i]?=some (bs[i]'hi):=List.getElem?_eq_getElem _;generalize ids[i]'(by omega)=id at fK;generalize bs[i]'hi=b at hb;obtain⟨m1,m2⟩:=EX i fK hb;by_cases ht:b.term.to=[]
  ·refine .inl ⟨?_,hf.1,fun j id b rK=>hf.2 j id b (by omega)⟩;have he:aG b.term.to=pZ id b.term.to:=by
    rw[ht];rfl
   show nv (i+1) ids bs=nv i ids bs;rw[m2,he];apply List.ext_getElem?;intro j;rw[List.getElem?_set];split
   ·rename_i e;rw[<-e,if_pos (I m1),m1]
   rfl
  obtain⟨o1,o2,o3⟩:=hf.2 i id b (Nat.le_refl _) fK hb ht;refine .inr ⟨id,.cells (gy b.term.to),.os id b.term.to.length 2,aG b.term.to,o1,o3,by simp[ak.aD],trivial,?_,m2,bM.os (cs:=gy b.term.to) o3 (fun x hx=>by obtain⟨e,_,rfl⟩:=List.mem_map.1 hx;rfl) (by simp) (by rw[List.drop_zero,List.take_of_length_le (by rw[mA];omega)];exact FB _),?_,fun j lE b' rK h1 h2 h3=>?_⟩
  ·show(nv i ids bs)[i*7+6]?=_;rw[m1];exact congrArg some (if_neg ht)
  ·rw[List.getElem?_set_ne (fun e=>hX e),List.getElem?_set_ne (fun e=>o2 e)];exact hf.1
  obtain⟨p1,p2,p3⟩:=hf.2 j lE b' (by omega) h1 h2 h3;refine⟨p1,p2,?_⟩;rw[List.getElem?_set_ne (fun e=>p1 e.symm),List.getElem?_set_ne (fun e=>?_)]
  ·exact p3
  subst e;have:=Vt i j id b b' fK h1 hb h2 ht h3;omega
 rw[vd hl]at hA;refine gS oid hA (by simp[ak.aD]) trivial bn (fun s z hz=>⟨z,hz,.refl z⟩) X (Ne.symm hX) [aI name,.os oid bs.length 7] [aI name,aw bs] hf.1 rfl (fun d hd=>?_) (fun j a d ha hd=>?_) (h _ (by rw[List.length_set,List.length_set,dH]) ?_)
 ·simp only[List.mem_cons,List.not_mem_nil,or_false]at hd;rcases hd with rfl|rfl<;>trivial
 ·match j,ha,hd with
  | 0,ha,hd =>
   simp only[List.getElem?_cons_zero,Option.some.injEq]at ha hd;subst ha;subst hd;exact .refl _
  | 1,ha,hd =>
   simp only[List.getElem?_cons_succ,List.getElem?_cons_zero,Option.some.injEq]at ha hd;subst ha;subst hd;refine bM.os hA (fun x hx=>?_) (by simp) ?_
   ·obtain⟨b,_,rfl⟩:=List.mem_map.1 hx;rfl
   have Ot:=ve bs.length hl;rw[vd hl]at Ot;rw[List.drop_zero,List.take_of_length_le (by omega)];exact mn bs
  | j+2,ha,hd=>simp at ha
 rw[List.getElem?_set_self (by rw[List.length_set];exact I hf.1)]
def px(b:Block)(es:List Edge):Block:=⟨b.params,b.ins,⟨b.term.kind,b.term.arg,b.term.n,b.term.cases,es⟩⟩
theorem I7{ds:Defs}{v:Int}(h:v ∉ ds.map (·.1)):fB ds v=none:=by
 cases hl:fB ds v with
 | none=>rfl
 | some p=>exact absurd (List.mem_map.2 ⟨_,vc hl,rfl⟩) h
theorem qB{ds:Defs}{v:Int}{p:Int×Int}(hv:0<=v∧v<=4095)(h:v ∉ ds.map (·.1)):(c9 ds v p).1=0:=by
 unfold c9;rw[I7 h];simp[within,hv]
theorem qS(k:Int):∀(l:List Int) (ds:Defs),(∀v∈l,0<=v∧v<=4095)->(ds.map (·.1)++l).Nodup->(dw k ds l).1=0
 | [],_,_,_=>rfl
 | p::r,ds,hv,hn=>by
  have hp:p ∉ ds.map (·.1):=fun q=>by
   rw[List.nodup_append]at hn;exact hn.2.2 p q p List.mem_cons_self rfl
  have h0:=qB (p:=(k,0)) (hv p List.mem_cons_self) hp;simp only[dw];rw[if_neg (by rw[h0];simp),mu h0];refine qS k r _ (fun v h=>hv v (List.mem_cons_of_mem _ h)) ?_;rw[List.map_append,List.append_assoc];exact hn
theorem xy(k:Int):∀(l:List Ins) (n:Int) (ds:Defs),(∀i∈l,0<=i.to∧i.to<=4095∧ka i=0)->(ds.map (·.1)++l.map Ins.to).Nodup->(mK k n ds l).1=0
 | [],_,_,_,_=>rfl
 | i::r,n,ds,hv,hn=>by
  have hp:i.to ∉ ds.map (·.1):=fun q=>by
   rw[List.nodup_append]at hn;exact hn.2.2 _ q _ List.mem_cons_self rfl
  have hi:=hv i List.mem_cons_self;have h0:=qB (p:=(k,n+1)) ⟨hi.1,hi.2.1⟩ hp;simp only[mK];rw[if_neg (by rw[h0];simp),if_neg (by rw[hi.2.2];simp),mu h0];refine xy k r _ _ (fun j h=>hv j (List.mem_cons_of_mem _ h)) ?_;rw[List.map_append,List.append_assoc];exact hn
theorem zU{f:Func}{ds:Defs}{k:Int}{b:Block}(hb:aF f k=b)(hp:∀v∈b.params,0<=v∧v<=4095)(hi:∀i∈b.ins,0<=i.to∧i.to<=4095∧ka i=0)(he:k7 f b.term=0)(hn:(ds.map (·.1)++iE b).Nodup):(fE f ds k).1=0:=by
 unfold fE;rw[hb];unfold iE at hn;rw[<-List.append_assoc]at hn;have h1:=qS k b.params ds hp (by
  rw[List.nodup_append]at hn;exact hn.1)
 rw[if_neg (by rw[h1];simp),p8 k b.params ds h1];have h2:=xy k b.ins 0 (ds++iS k b.params) hi (by
  rw[List.map_append];have:(iS k b.params).map (·.1)=b.params:=by
   unfold iS;rw[List.map_map];exact List.map_id' _
  rw[this];exact hn)
 rw[if_neg (by rw[h2];simp)];exact he
theorem zT(k:Int)(b:Block):(kg k b).map (·.1)=iE b:=by
 rw[kg,List.map_append,nW,iE,iS,List.map_map];congr 1;exact List.map_id' _
theorem qo{f:Func}(hp:∀b∈f.blocks,(∀v∈b.params,0<=v∧v<=4095)∧(∀i∈b.ins,0<=i.to∧i.to<=4095∧ka i=0)∧k7 f b.term=0) :
  ∀(n k:Nat) (ds:Defs),k+n=f.blocks.length->(ds.map (·.1)++(f.blocks.drop k).flatMap iE).Nodup->(cR f n k ds).1=0
 | 0,_,_,_,_=>rfl
 | n+1,k,ds,hk,hn=>by
  have hb:f.blocks[k]?=some f.blocks[k]:=List.getElem?_eq_getElem (by omega);have Uf:aF f (k:Int)=f.blocks[k]:=by simp[aF,hb]
  rw[bK hb,List.flatMap_cons,<-List.append_assoc]at hn;obtain⟨p1,p2,p3⟩:=hp _ (List.mem_of_getElem? hb);have h0:=zU (ds:=ds) Uf p1 p2 p3 (by
   rw[List.nodup_append]at hn;exact hn.1)
  simp only[cR];rw[if_neg (by rw[h0];simp),wX h0,Uf];have e:(k:Int)+1=((k+1:Nat):Int):=by omega
  rw[e];refine qo hp n (k+1) _ (by omega) ?_;rw[List.map_append,zT];exact hn
theorem pv{ds:Defs}{over:List Bs}{seen:Bs}{k:Nat}:∀(l:List Ins) (n:Nat),(∀(j:Nat) i,l[j]?=some i->∀a∈i.args,jb ds over seen k ((n+j:Nat):Int) a=true)->jD ds over seen k n l=true
 | [],_,_=>rfl
 | x::r,n,h=>by
  simp only[jD,Bool.and_eq_true,List.all_eq_true];refine⟨fun a ha=>h 0 x rfl a ha,pv r (n+1) fun j i hj a ha=>?_⟩;rw[show n+1+j=n+(j+1) by omega];exact h (j+1) i (by simpa using hj) a ha
theorem pf{ds:Defs}{over:List Bs}{seen:Bs}:∀(l:List Block) (k:Nat),(∀(j:Nat) b,l[j]?=some b->lf ds over seen (k+j) b=true)->gZ ds over seen k l=true
 | [],_,_=>rfl
 | x::r,k,h=>by
  simp only[gZ,Bool.and_eq_true];refine⟨h 0 x rfl,pf r (k+1) fun j b hj=>?_⟩;rw[show k+1+j=k+(j+1) by omega];exact h (j+1) b (by simpa using hj)
theorem pK{f:Func}(hn:(ma f).Nodup){k:Nat}{n v:Int}(h:B4 f k n v):jb (BY f) (k6 f).1 (k6 f).2 k n v=true:=by
 obtain⟨p,h1,h2⟩:=h;have hl:fB (BY f) v=some p:=(Gi (by rw[yo];exact hn)).2 (EW.2 h1);unfold jb;rw[hl];simp only[Bool.or_eq_true,Bool.and_eq_true,decide_eq_true_eq,Bool.not_eq_true',decide_eq_false_iff_not];cases hs:sL f k with
 | false=>exact .inr (.inr hs)
 | true =>
  rcases h2 hs with q|q
  ·exact .inl q
  exact .inr (.inl q)
theorem D1{f:Func}(hn:(ma f).Nodup)(h:Eb f):rf f (BY f)=0:=by
 unfold rf;rw[if_pos];refine pf f.blocks 0 fun j b hj=>?_;rw[Nat.zero_add];unfold lf ou;simp only[Bool.and_eq_true,Bool.or_eq_true,decide_eq_true_eq,List.all_eq_true];refine⟨pv b.ins 0 fun n i hi a ha=>?_,?_,fun e he a ha=>pK hn (h.args j b hj e he a ha)⟩
 ·rw[Nat.zero_add];exact pK hn (h.ins j b hj n i hi a ha)
 by_cases h1:b.term.kind=1
 ·exact .inl (.inl h1)
 by_cases h4:b.term.kind=4
 ·exact .inl (.inr h4)
 exact .inr (pK hn (h.arg j b hj h1 h4))
def sb(bs:List Block):Nat:=(bs.map fun b=>b.ins.length).sum
theorem zA:∀(bs:List Block) (m:Nat),(∀b∈bs,b.ins.length<=1024)->m+bs.length*1024<=1000000->mc m bs=((m+sb bs:Nat):Int)
 | [],m,_,_=>by simp[mc,sb]
 | b::r,m,h,hm=>by
  have h1:=h b List.mem_cons_self;rw[List.length_cons]at hm;have hw:IntKind.i64.wrap ((m:Int)+(b.ins.length:Int))=((m+b.ins.length:Nat):Int):=by
   rw[m8 .i64 _ (by show(-9223372036854775808:Int)<=_;omega) (by show _<=(9223372036854775807:Int);omega)];omega
  simp only[mc];rw[hw,zA r (m+b.ins.length) (fun x hx=>h x (List.mem_cons_of_mem _ hx)) (by omega)];unfold sb;rw[List.map_cons,List.sum_cons,Nat.add_assoc]
theorem z'{f:Func}(cq:f.blocks≠[])(uK:f.blocks.length<=128)(uP:-1<=f.name∧f.name<=1048575)(Vu:∀b∈f.blocks,b.ins.length<=1024)(Zx:sb f.blocks<=1024)(AM:(aF f 0).params.length<=6)
  (hv:∀v∈ma f,0<=v∧v<=4095) (hn:(ma f).Nodup) (hb:∀b∈f.blocks,(∀i∈b.ins,ka i=0)∧k7 f b.term=0) (hu:Eb f):aZ f=0:=by
 have YE:∀b∈f.blocks,(∀v∈b.params,0<=v∧v<=4095)∧(∀i∈b.ins,0<=i.to∧i.to<=4095∧ka i=0)∧k7 f b.term=0:=fun b h=>by
  have xq:∀v∈iE b,0<=v∧v<=4095:=fun v q=>hv v (List.mem_flatMap.2 ⟨b,h,q⟩);refine⟨fun v q=>xq v (List.mem_append_left _ q),fun i q=>?_,(hb b h).2⟩;have:=xq i.to (List.mem_append_right _ (List.mem_map.2 ⟨i,q,rfl⟩));exact⟨this.1,this.2,(hb b h).1 i q⟩
 have h0:=qo YE f.blocks.length 0 [] (by omega) (by
  rw[List.drop_zero];exact hn)
 have h1:=pE f.blocks.length 0 [] (by omega) h0;rw[List.drop_zero,List.nil_append]at h1;have hw:=zA f.blocks 0 Vu (by omega);rw[Nat.zero_add]at hw;have hl:=List.length_pos_iff.2 cq;unfold aZ;have OK:mc 0 f.blocks=((sb f.blocks:Nat):Int):=hw;rw[if_neg (by omega),if_neg (by rw[OK];omega),if_neg (by simp[within,uP]),if_neg (by
  have Ep:(cR f f.blocks.length 0 []).1=0:=h0;rw[Ep];simp)]
 have FM:(cR f f.blocks.length 0 []).2=BY f:=h1;rw[FM];exact D1 hn hu
theorem MW{f:Func}(bo:f.fit)(h:aZ f=0):sb f.blocks<=1024:=by
 have hw:=cS bo h;have he:=zA f.blocks 0 hw.ins (by have:=hw.few;omega);unfold aZ at h;split at h
 ·simp at h
 split at h
 ·simp at h
 rename_i h2;rw[Nat.zero_add]at he;have KN:mc 0 f.blocks=((sb f.blocks:Nat):Int):=he;rw[KN]at h2;omega
theorem Pg{n k:Nat}{D:Nat->Nat->Prop}{R:Nat->Prop}{S:Ds}(hn:n<=128)(hl:S.over.length=n)(h1:∀i j,j<n->D i j->i<n∧(S.at_ j).has i=true)(h2:∀j,j<128->S.seen.has j=true->R j)(hk:k<n){e:Edge}(he:0<=e.block∧e.block.toNat<n)(hR:R k->R e.block.toNat)
  (hD:R k->∀i,D i e.block.toNat->i=e.block.toNat∨D i k) (hs:R k):(∀i j,j<n->D i j->i<n∧((ig k S e).at_ j).has i=true)∧(∀j,j<128->(ig k S e).seen.has j=true->R j)∧(ig k S e).over.length=n:=by
 unfold ig;simp only;split
 ·refine⟨fun i j hj rK=>?_,fun j hj IY=>?_,by simp only;rw[List.length_set,hl]⟩
  ·refine⟨(h1 i j hj rK).1,?_⟩;have hi:=(h1 i j hj rK).1;unfold Ds.at_;simp only;rw[List.getElem?_set];split
   ·rename_i q;rw[if_pos (by rw[hl];exact he.2),Option.getD_some,Bs.has_add _ _ _ (by omega) (by omega),Bs.uG];simp only[Bool.or_eq_true,Bool.and_eq_true,decide_eq_true_eq];rw[<-q]at rK;rcases hD hs i rK with r|r
    ·exact .inr r
    exact .inl ⟨(h1 i _ he.2 rK).2,(h1 i k hk r).2⟩
   exact(h1 i j hj rK).2
  simp only at IY;rw[Bs.has_add _ _ _ (by omega) hj]at IY;simp only[Bool.or_eq_true,decide_eq_true_eq]at IY;rcases IY with q|q
  ·exact h2 j hj q
  rw[q];exact hR hs
 exact⟨h1,h2,hl⟩
structure OX(n:Nat)(D:Nat->Nat->Prop)(R:Nat->Prop)(S:Ds):Prop where
 len:S.over.length=n
 RJ:∀i j,j<n->D i j->i<n∧(S.at_ j).has i=true
 seen:∀j,j<128->S.seen.has j=true->R j
structure T0(f:Func)(D:Nat->Nat->Prop)(R:Nat->Prop):Prop where
 few:f.blocks.length<=128
 gG:∀b∈f.blocks,∀e∈b.term.to,0<=e.block∧e.block.toNat<f.blocks.length
 next:∀(k:Nat) b,f.blocks[k]?=some b->R k->∀e∈b.term.to,R e.block.toNat∧∀i,D i e.block.toNat->i=e.block.toNat∨D i k
theorem Oa{f:Func}{D:Nat->Nat->Prop}{R:Nat->Prop}(hc:T0 f D R){k:Nat}{b:Block}(hb:f.blocks[k]?=some b)(hR:R k):∀(l:List Edge) {S:Ds},(∀e∈l,e∈b.term.to)->OX f.blocks.length D R S->OX f.blocks.length D R (l.foldl (ig k) S)
 | [],_,_,h=>h
 | e::r,S,hl,h=>by
  have hn:=hc.next k b hb hR e (hl e List.mem_cons_self)
  obtain⟨a1,a2,a3⟩:=Pg hc.few h.len h.RJ h.seen (I hb) (hc.gG b (List.mem_of_getElem? hb) e (hl e List.mem_cons_self)) (fun _=>hn.1) (fun _=>hn.2) hR;rw[List.foldl_cons];exact Oa hc hb hR r (fun x hx=>hl x (List.mem_cons_of_mem _ hx)) ⟨a3,a1,a2⟩
theorem Oc{f:Func}{D:Nat->Nat->Prop}{R:Nat->Prop}(hc:T0 f D R):∀(l:List Block) (k:Nat) {S:Ds},l=f.blocks.drop k->OX f.blocks.length D R S->OX f.blocks.length D R (lz k S l)
 | [],_,_,_,h=>h
 | b::r,k,S,hl,h=>by
  have hb:f.blocks[k]?=some b:=by
   have:=congrArg (fun l=>l[0]?) hl;simpa using this.symm
  have hr:r=f.blocks.drop (k+1):=by
   rw[bK hb]at hl;simpa using hl
  rw[lz];refine Oc hc r (k+1) hr ?_;unfold qC;split
  ·exact h
  rename_i hs;have hk:=I hb;exact Oa hc hb (h.seen k (by have:=hc.few;omega) (by simpa using hs)) _ (fun e he=>he) h
theorem Ob{f:Func}{D:Nat->Nat->Prop}{R:Nat->Prop}(hc:T0 f D R):∀(n:Nat) {S:Ds},OX f.blocks.length D R S->OX f.blocks.length D R (iY f n S)
 | 0,_,h=>h
 | n+1,S,h=>by
  simp only[iY];split
  ·exact Ob hc n (Oc hc f.blocks 0 (S:=⟨S.over,S.seen,false⟩) (by rw[List.drop_zero]) ⟨h.len,h.RJ,h.seen⟩)
  exact h
theorem Ec:∀(n j:Nat),n<=128->j<n->(vV n).has j=true
 | 0,_,_,h=>absurd h (Nat.not_lt_zero _)
 | n+1,j,hn,hj=>by
  rw[vV,Bs.has_add _ _ _ (by omega) (by omega)];by_cases e:j=n
  ·simp[e]
  rw[Ec n j (by omega) (by omega)];rfl
theorem Ls{f:Func}{D:Nat->Nat->Prop}{R:Nat->Prop}(cq:f.blocks≠[])(hc:T0 f D R)(h0:R 0)(hz:∀i,D i 0->i=0)(bf:∀i j,D i j->i<f.blocks.length){i j:Nat}(hj:j<f.blocks.length)(h:D i j):(od f j).has i=true:=by
 have hl:=List.length_pos_iff.2 cq;have hs:OX f.blocks.length D R (mw f):=by
  refine⟨by simp[mw],fun i j hj rK=>⟨bf i j rK,?_⟩,fun j hj IY=>?_⟩
  ·unfold Ds.at_ mw;simp only;rw[List.getElem?_set];split
   ·rename_i e;subst e;rw[if_pos (by simpa using hl),Option.getD_some,hz i rK];decide
   rw[List.getElem?_replicate,if_pos hj,Option.getD_some];exact Ec _ _ hc.few (bf i j rK)
  have:(Bs.none.add 0).has j=true:=IY;rw[Bs.has_add _ _ _ (by omega) hj]at this;have hn:Bs.none.has j=false:=by unfold Bs.has Bs.none;simp
  rw[hn]at this;simp only[Bool.false_or,decide_eq_true_eq]at this;rw[this];exact h0
 exact((Ob hc 20000 hs).RJ i j hj h).2
end Go.Proofs.YtjdnhamngpafmaaGreat
namespace Go.Proofs.YtjdnhamngpafmaaGreat
open Go.Av
theorem qp(f:Func):((List.range f.blocks.length).map fun k:Nat=>aF f (k:Int))=f.blocks:=by
 apply List.ext_getElem?;intro i;rw[List.getElem?_map];by_cases h:i<f.blocks.length
 ·rw[List.getElem?_range h,List.getElem?_eq_getElem h];simp[aF,h]
 rw[List.getElem?_eq_none (by simp;omega),List.getElem?_eq_none (by omega)];rfl
theorem vt{f:Func}(hw:nr f):dh f=((List.range f.blocks.length).map fun k:Nat=>(k:Int)).filter fun k=>decide (0<=jG f k):=by
 have hp:((List.range f.blocks.length).map fun k:Nat=>(k:Int)).Pairwise (fun a b=>a<b):=by
  rw[List.pairwise_map];exact List.Pairwise.imp (fun h=>by omega) List.pairwise_lt_range
 have Xy:=hp.filter (fun k=>decide (0<=jG f k));refine List.Perm.eq_of_pairwise (le:=fun a b=>a<=b) (fun a b _ _ h1 h2=>by omega) (ra _) (Xy.imp fun h=>by omega) ?_;rw[List.perm_ext_iff_of_nodup (p' hw) (Xy.imp fun h=>by omega)];intro k;rw[dE,List.mem_filter,decide_eq_true_eq];constructor
 ·intro h;have hr:=hw.range k h;exact⟨List.mem_map.2 ⟨k.toNat,List.mem_range.2 (by omega),by omega⟩,h⟩
 exact fun h=>h.2
theorem JV{α β:Type}(F:α->List β){l m:List α}(h:l.Sublist m):(l.flatMap F).Sublist (m.flatMap F):=by
 induction h with
 | slnil=>exact List.Sublist.refl _
 | cons a _ ih =>
  rw[List.flatMap_cons];exact List.sublist_append_of_sublist_right ih
 | cons_cons a _ ih =>
  rw[List.flatMap_cons,List.flatMap_cons];exact(List.Sublist.refl _).append ih
theorem MV{α:Type}(F:α->Nat){l m:List α}(h:l.Sublist m):(l.map F).sum<=(m.map F).sum:=by
 induction h with
 | slnil=>exact Nat.le_refl _
 | cons a _ ih =>
  rw[List.map_cons,List.sum_cons];omega
 | cons_cons a _ ih =>
  rw[List.map_cons,List.map_cons,List.sum_cons,List.sum_cons];omega
theorem yZ{f:Func}(hw:nr f):(dh f).Sublist ((List.range f.blocks.length).map fun k:Nat=>(k:Int)):=by
 rw[vt hw];exact List.filter_sublist
theorem DJ{f:Func}(hw:nr f):(ma (bH f)).Sublist (ma f):=by
 have h1:ma (bH f)=(dh f).flatMap fun k=>iE (aF f k):=by
  unfold ma bH;rw[List.flatMap_map];rfl
 have h2:ma f=((List.range f.blocks.length).map fun k:Nat=>(k:Int)).flatMap fun k=>iE (aF f k):=by
  unfold ma
  conv=>lhs;rw[<-qp f]
  rw[List.flatMap_map,List.flatMap_map]
 rw[h1,h2];exact JV _ (yZ hw)
theorem GA{f:Func}(hw:nr f):sb (bH f).blocks<=sb f.blocks:=by
 have h1:sb (bH f).blocks=((dh f).map fun k=>(aF f k).ins.length).sum:=by
  unfold sb bH;rw[List.map_map];rfl
 have h2:sb f.blocks=(((List.range f.blocks.length).map fun k:Nat=>(k:Int)).map fun k=>(aF f k).ins.length).sum:=by
  unfold sb
  conv=>lhs;rw[<-qp f]
  rw[List.map_map,List.map_map];rfl
 rw[h1,h2];exact MV _ (yZ hw)
def fc(f:Func)(k:Int):Int:=j7 (dh f) k
section
variable {f:Func}
theorem pos_at{k:Int}(h:0<=jG f k):0<=fc f k∧(dh f)[(fc f k).toNat]?=some k:=by
 have h1:=(fp (l:=dh f) (n:=k)).1.2 (dE.2 h);exact⟨h1,(fp (l:=dh f) (n:=k)).2 h1⟩
theorem tH(hw:nr f){i j:Nat}{k:Int}(h1:(dh f)[i]?=some k)(h2:(dh f)[j]?=some k):i=j:=by
 have hn:=List.pairwise_iff_getElem.1 (p' hw);obtain⟨p1,e1⟩:=List.getElem?_eq_some_iff.1 h1;obtain⟨p2,e2⟩:=List.getElem?_eq_some_iff.1 h2;refine Classical.byContradiction fun q=>?_;rcases Nat.lt_or_gt_of_ne q with q|q
 ·exact hn i j p1 p2 q (e1.trans e2.symm)
 exact hn j i p2 p1 q (e2.trans e1.symm)
theorem rZ(hw:nr f){j:Nat}{k:Int}(h:(dh f)[j]?=some k):fc f k=j:=by
 obtain⟨h1,h2⟩:=pos_at (dE.1 (List.mem_of_getElem? h))
 have:=tH hw h h2;omega
theorem vu(hw:nr f):(dh f)[0]?=some 0:=by
 obtain⟨h1,h2⟩:=pos_at (f:=f) (k:=0) (by rw[hw.zero];omega)
 have hs:=List.pairwise_iff_getElem.1 (ra (bO f));have hl:=I h2;have h0:(dh f)[0]?=some ((dh f)[0]'(by omega)):=List.getElem?_eq_getElem _;rw[h0];congr 1;by_cases e:(fc f 0).toNat=0
 ·rw[e,h0]at h2;simpa using h2
 have h3:=hs 0 (fc f 0).toNat (by show 0<(dh f).length;omega) hl (by omega);have h4:=(List.getElem?_eq_some_iff.1 h2).2;have h5:=(hw.range _ (dE.1 (List.mem_of_getElem? h0))).1;have h6:(dh f)[0]'(by omega)<=(dh f)[(fc f 0).toNat]:=h3;rw[h4]at h6;omega
theorem ye{k:Int}(h0:0<=k)(h1:k<f.blocks.length):Ee (pg f) k=fc f k:=by
 unfold Ee pg;rw[List.getElem?_map,List.getElem?_range (by omega),Option.map_some,Option.getD_some];show j7 (dh f) ((k.toNat:Nat):Int)=_;rw[show((k.toNat:Nat):Int)=k by omega];rfl
theorem jt{j:Nat}{c:Block}:(bH f).blocks[j]?=some c↔∃k,(dh f)[j]?=some k∧c=tl (pg f) (aF f k):=by
 unfold bH;simp only[List.getElem?_map,Option.map_eq_some_iff];constructor
 ·rintro⟨k,h1,h2⟩;exact⟨k,h1,h2.symm⟩
 rintro⟨k,h1,h2⟩;exact⟨k,h1,h2.symm⟩
theorem ep:(bH f).blocks.length=(dh f).length:=List.length_map ..
theorem vq{k:Int}(h:0<=jG f k):aF (bH f) (fc f k)=tl (pg f) (aF f k):=by
 have:=(jt (f:=f)).2 ⟨k,(pos_at h).2,rfl⟩;unfold aF;rw[this];rfl
theorem jY{k:Int}(h0:0<=k)(h1:k<f.blocks.length):f.blocks[k.toNat]?=some (aF f k):=by
 unfold aF;rw[List.getElem?_eq_getElem (by omega)];rfl
end
theorem DR{t t':Term}(h1:t.kind=t'.kind)(h2:t.arg=t'.arg)(h3:t.n=t'.n)(h4:t.cases=t'.cases)(h5:t.to.length=t'.to.length):dV t=dV t':=by
 unfold dV fk sR;rw[h1,h2,h3,h4,h5]
theorem wR.range{f:Func}{v:Int}{p:Int×Int}(h:wR f v p):0<=p.1∧p.1<f.blocks.length:=by
 obtain⟨k,b,h1,h2,_⟩:=h;have:=I h1;omega
theorem FG{f:Func}{t:Term}(h1:dV t=true)(h2:t.cases.length<=256)(h3:t.kind=4->1<=t.n∧t.n<=6)(h4:kF t.cases t.cases.length=0)(h5:∀e∈t.to,(1<=e.block∧e.block<=(f.blocks.length:Int)-1)∧e.args.length=(aF f e.block).params.length):k7 f t=0:=by
 unfold k7;rw[if_neg (by simp[h1]),if_neg (by omega),if_neg (fun q=>by
  have:=h3 q.1;have q2:=q.2;simp[within,this]at q2),if_neg (by rw[h4];simp)]
 generalize t.to=l at h5;induction l with
 | nil=>rfl
 | cons e r ih =>
  have he:=h5 e List.mem_cons_self;simp only[nJ];rw[if_neg (by simp[within,he.1]),if_neg (by rw[he.2];simp)];exact ih fun x hx=>h5 x (List.mem_cons_of_mem _ hx)
theorem FF{f:Func}{t:Term}(h:k7 f t=0):kF t.cases t.cases.length=0:=by
 unfold k7 at h;split at h
 ·simp at h
 split at h
 ·simp at h
 split at h
 ·simp at h
 split at h
 ·rename_i q;exact absurd h q
 rename_i q;simpa using q
theorem BE{f:Func}(hd:K6 f)(hw:nr f):∀(n:Nat) (k:Int),0<=jG f k->jG f k<n->sL f k.toNat=true∧∀d,d<128->(od f k.toNat).has d=true->0<=jG f (d:Int)
 | 0,k,h,hn=>by omega
 | n+1,k,h,hn=>by
  by_cases h0:jG f k=0
  ·have hk:k=0:=hw.inj k 0 h (by rw[hw.zero,h0]);subst hk;refine⟨hd.seen,fun d kK q=>?_⟩;rw[(hd.zero d kK).1 q];show 0<=jG f 0;rw[hw.zero];omega
  obtain⟨p,⟨e,he,W7⟩,F6,C9⟩:=hw.fwd k (by omega);obtain⟨i1,i2⟩:=BE hd hw n p F6 (by omega);have wA:=hw.range p F6;obtain⟨s1,s2⟩:=hd.step p.toNat (aF f p) (jY wA.1 wA.2) i1 e he;rw[W7]at s1 s2;refine⟨s1,fun d kK q=>?_⟩;rcases s2 d kK q with r|r
  ·have B0:=hw.range k h;rw[r,show((k.toNat:Nat):Int)=k by omega];exact h
  exact i2 d kK r
theorem Br{f:Func}(hd:K6 f)(hw:nr f){k:Int}(h:0<=jG f k):sL f k.toNat=true∧∀d,d<128->(od f k.toNat).has d=true->0<=jG f (d:Int):=BE hd hw 300 k h (by
 have h1:=(hw.low k).2;have h2:=hw.few;omega)
theorem w8{f:Func}(hw:nr f){v:Int}{p:Int×Int}(h:wR f v p)(hr:0<=jG f p.1):wR (bH f) v (fc f p.1,p.2):=by
 obtain⟨k,b,h1,h2,h3⟩:=h;obtain⟨q1,q2⟩:=pos_at hr;have hb:aF f p.1=b:=by
  rw[h2];unfold aF;rw[Int.toNat_natCast,h1];rfl
 refine⟨(fc f p.1).toNat,tl (pg f) b,jt.2 ⟨p.1,q2,by rw[hb]⟩,by simp only;omega,h3⟩
theorem Bo{f:Func}(bo:f.fit)(hc:aZ f=0):aZ (bH f)=0:=by
 have hv:=z8 bo hc;have hf:=hv.fn;have hg:=hf.gr;have hw:=kP hg;have hd:=hv.RJ;have uZ:=DJ hw;have OA:=vu hw;have hlen:(dh f).length<=f.blocks.length:=by
  have:=(yZ hw).length_le;simpa using this
 have xu:=I OA;have uK:=hg.few;have U6:aF (bH f) 0=tl (pg f) (aF f 0):=by
  have:=vq (f:=f) (k:=0) (by rw[hw.zero];omega)
  rwa [rZ hw OA]at this
 have fL:∀c∈(bH f).blocks,∃k,0<=jG f k∧c=tl (pg f) (aF f k)∧aF f k∈f.blocks:=fun c s8=>by
  obtain⟨j,hj⟩:=List.mem_iff_getElem?.1 s8;obtain⟨k,h1,h2⟩:=jt.1 hj;have hk:=dE.1 (List.mem_of_getElem? h1);have B0:=hw.range k hk;exact⟨k,hk,h2,List.mem_of_getElem? (jY B0.1 B0.2)⟩
 have AE:∀{k:Int},0<=jG f k->∀e∈(aF f k).term.to,0<=jG f e.block∧1<=e.block∧e.block<f.blocks.length:=fun {k} hk e he=>by
  have B0:=hw.range k hk;have:=hg.gG _ (List.mem_of_getElem? (jY B0.1 B0.2)) e he;exact⟨hw.next k e.block hk ⟨e,he,rfl⟩,this⟩
 have xo:∀{k:Int} {n v:Int},0<=jG f k->B4 f k.toNat n v->B4 (bH f) (fc f k).toNat n v:=fun {k n v} hk h=>by
  obtain⟨⟨pa,pb⟩,h1,h2⟩:=h;obtain⟨p,IV⟩:∃p:Int×Int,p=(pa,pb):=⟨_,rfl⟩
  rw[<-IV]at h1 h2;obtain⟨s1,s2⟩:=Br hd hw hk;have B0:=hw.range k hk;obtain⟨q1,q2⟩:=pos_at hk;rcases h2 s1 with⟨e1,e2⟩|⟨e1,e2⟩
  ·have e3:p.1=k:=by omega
   refine⟨(fc f k,p.2),by rw[<-e3];exact w8 hw h1 (by rw[e3];exact hk),fun _=>.inl ⟨by simp only;omega,e2⟩⟩
  have kK:=h1.range;have Mk:((p.1.toNat:Nat):Int)=p.1:=by omega
  have Xz:0<=jG f p.1:=by
   have:=s2 p.1.toNat (by omega) e2
   rwa [Mk]at this
  obtain⟨r1,r2⟩:=pos_at Xz;refine⟨(fc f p.1,p.2),w8 hw h1 Xz,fun _=>.inr ⟨fun q=>?_,?_⟩⟩
  ·have q':(fc f p.1).toNat=(fc f k).toNat:=by
    have:fc f p.1=((fc f k).toNat:Int):=q;omega
   rw[q',q2]at r2;simp only[Option.some.injEq]at r2;omega
  show(od (bH f) (fc f k).toNat).has (fc f p.1).toNat=true;refine Ls (D:=fun i j=>∃ki kj,(dh f)[i]?=some ki∧(dh f)[j]?=some kj∧(od f kj.toNat).has ki.toNat=true) (R:=fun _=>True) (by
   intro q;have:=congrArg List.length q;rw[ep]at this;simp only[List.length_nil]at this;omega) ?_ trivial ?_ ?_ (by rw[ep];exact I q2) ⟨p.1,k,r2,q2,e2⟩
  ·refine⟨by rw[ep];omega,fun c s8 e he=>?_,fun j c hj _ e he=>⟨trivial,fun i hi=>?_⟩⟩
   ·obtain⟨kc,SJ,e3,_⟩:=fL c s8;rw[e3,iU]at he;obtain⟨x,hx,rfl⟩:=List.mem_map.1 he;obtain⟨x1,x2,x3⟩:=AE SJ x hx;obtain⟨y1,y2⟩:=pos_at x1;show 0<=Ee (pg f) x.block∧(Ee (pg f) x.block).toNat<_;rw[ye (by omega) x3,ep];exact⟨y1,I y2⟩
   obtain⟨kc,h3,h4⟩:=jt.1 hj;have SJ:=dE.1 (List.mem_of_getElem? h3);rw[h4,iU]at he;obtain⟨x,hx,rfl⟩:=List.mem_map.1 he;obtain⟨x1,x2,x3⟩:=AE SJ x hx;obtain⟨y1,y2⟩:=pos_at x1;have Az:(iq (pg f) x).block=fc f x.block:=ye (by omega) x3;rw[Az]at hi ⊢;obtain⟨ki,kj,i1,i2,i3⟩:=hi;rw[y2]at i2;simp only[Option.some.injEq]at i2;subst i2;have SK:=hw.range kc SJ;have Vy:=hw.range ki (dE.1 (List.mem_of_getElem? i1));obtain⟨t1,t2⟩:=hd.step kc.toNat _ (jY SK.1 SK.2) (Br hd hw SJ).1 x hx;rcases t2 ki.toNat (by omega) i3 with u|u
   ·refine .inl ?_;have:ki=x.block:=by omega
    rw[this]at i1;exact tH hw i1 y2
   exact .inr ⟨ki,kc,i1,h3,u⟩
  ·rintro i ⟨ki,kj,i1,i2,i3⟩;rw[OA]at i2;simp only[Option.some.injEq]at i2;subst i2;have Vy:=hw.range ki (dE.1 (List.mem_of_getElem? i1));have:=(hd.zero ki.toNat (by omega)).1 i3;have KR:ki=0:=by omega
   rw[KR]at i1;exact tH hw i1 OA
  rintro i j ⟨ki,kj,i1,_,_⟩;rw[ep];exact I i1
 refine z' (fun q=>?_) (by rw[ep];omega) hf.name (fun c s8=>?_) (Nat.le_trans (GA hw) (MW bo hc)) (by rw[U6];exact hf.args) (fun v h=>hv.vals v (uZ.subset h)) (uZ.nodup hv.nodup) (fun c s8=>?_) ?_
 ·have:=congrArg List.length q;rw[ep]at this;simp only[List.length_nil]at this;omega
 ·obtain⟨k,_,e1,e2⟩:=fL c s8;rw[e1];exact hf.ins (aF f k) e2
 ·obtain⟨k,hk,e1,e2⟩:=fL c s8;have Sc:=hf.blk _ e2;rw[e1];refine⟨Sc.Eo,?_⟩;obtain⟨m1,m2,m3,m4⟩:=mB Sc.fin;refine FG ?_ m2 m3 (FF (f:=f) (t:=(aF f k).term) Sc.fin) fun e he=>?_
  ·have hs:dV (tl (pg f) (aF f k)).term=dV (aF f k).term:=DR rfl rfl rfl rfl (List.length_map ..);rw[hs];exact m1
  rw[iU]at he;obtain⟨x,hx,rfl⟩:=List.mem_map.1 he;obtain⟨x1,x2,x3⟩:=AE hk x hx;obtain⟨y1,y2⟩:=pos_at x1;have Az:(iq (pg f) x).block=fc f x.block:=ye (by omega) x3;rw[Az,vq x1,ep];have V4:=I y2;refine⟨⟨?_,by omega⟩,(m4 x hx).2⟩;refine Classical.byContradiction fun q=>?_;have h0:(fc f x.block).toNat=0:=by omega
  rw[h0,OA]at y2;simp only[Option.some.injEq]at y2;omega
 have eJ:∀{j:Nat} {c:Block},(bH f).blocks[j]?=some c->∃k,0<=jG f k∧c=tl (pg f) (aF f k)∧f.blocks[k.toNat]?=some (aF f k)∧j=(fc f k).toNat:=fun {j c} hj=>by
  obtain⟨k,h1,h2⟩:=jt.1 hj;have hk:=dE.1 (List.mem_of_getElem? h1);have B0:=hw.range k hk;have:=rZ hw h1;exact⟨k,hk,h2,jY B0.1 B0.2,by omega⟩
 refine⟨fun j c hj n i hi a ha=>?_,fun j c hj h1 h4=>?_,fun j c hj e he a ha=>?_⟩
 ·obtain⟨k,hk,e1,e2,e3⟩:=eJ hj;rw[e3];rw[e1]at hi;exact xo hk (hv.Kv.ins _ _ e2 n i hi a ha)
 ·obtain⟨k,hk,e1,e2,e3⟩:=eJ hj;rw[e3];rw[e1]at h1 h4 ⊢;exact xo hk (hv.Kv.arg _ (aF f k) e2 h1 h4)
 obtain⟨k,hk,e1,e2,e3⟩:=eJ hj;rw[e3];rw[e1]at he ⊢;rw[iU]at he;obtain⟨x,hx,rfl⟩:=List.mem_map.1 he;exact xo hk (hv.Kv.args _ _ e2 x hx a ha)
end Go.Proofs.YtjdnhamngpafmaaGreat
namespace Go.Proofs.YtjdnhamngpafmaaGreat
open Go.Av
def BH(b:Block):Term:=if b.term.kind=0 then⟨4,0,3,[],[]⟩else⟨b.term.kind,0,b.term.n,b.term.cases,b.term.to⟩
def TO(t:Term):Bool:=decide (t.kind=2) ||decide (t.kind=3)
def xW(k:Nat)(b:Block):Block:=⟨[],if TO (BH b)=true then [⟨(k:Int),0,0,[]⟩]else [],⟨(BH b).kind,if TO (BH b)=true then(k:Int)else 0,(BH b).n,(BH b).cases,(BH b).to⟩⟩
def ko(f:Func):Func:=⟨-1,f.blocks.mapIdx xW⟩
theorem r9(f:Func):(ko f).blocks.length=f.blocks.length:=List.length_mapIdx
theorem OR{f:Func}{k:Nat}{b:Block}(h:f.blocks[k]?=some b):(ko f).blocks[k]?=some (xW k b):=by
 unfold ko;rw[List.getElem?_mapIdx,h];rfl
end Go.Proofs.YtjdnhamngpafmaaGreat
namespace Go.Av
def N6(id:Nat)(O:List ak)(es:List (Value×ae))(r:ae)(O':List ak):Prop :=
 (es=[]∧r=.cw [.v (.bool false)]∧O'=O)∨∃(l1 l2:List (Value×ae)) (k x:Value),es=l1++(k,.v x)::l2∧r=.cw [.v (.bool true),.v k,.v x]∧O'=O.set id (.map (.iter (some (k,x))) (l1++l2))
theorem filter_push{seen:Array Nat}{e:MapEntry}:∀(l:List MapEntry) (l1 l2:List MapEntry),(l.map (·.born)).Nodup->(l.filter fun e=>!seen.contains e.born)=l1++e::l2->(l.filter fun x=>!(seen.push e.born).contains x.born)=l1++l2
 | [],l1,l2,_,h=>by
  rw[List.filter_nil]at h;exact absurd h.symm (by simp)
 | a::r,l1,l2,hn,h=>by
  have jm:a.born ∉ r.map (·.born)∧(r.map (·.born)).Nodup:=List.nodup_cons.1 hn;have Rc:∀x:MapEntry,(seen.push e.born).contains x.born=(seen.contains x.born ||decide (x.born=e.born)):=fun x=>by
   rw[Bool.eq_iff_iff];simp
  have W8:e∈(a::r).filter fun e=>!seen.contains e.born:=by
   rw[h];simp
  rw[List.filter_cons]at h ⊢;rw[Rc];by_cases hs:seen.contains a.born=true
  ·rw[hs]at h ⊢;simp only[Bool.not_true,Bool.false_eq_true,if_false,Bool.true_or]at h ⊢;exact filter_push r l1 l2 jm.2 h
  have Rf:seen.contains a.born=false:=by simpa using hs
  rw[Rf]at h ⊢;simp only[Bool.not_false,if_true,Bool.false_or]at h ⊢;cases l1 with
  | nil =>
   simp only[List.nil_append,List.cons.injEq]at h;obtain⟨rfl,h2⟩:=h;simp only[decide_true,Bool.not_true,Bool.false_eq_true,if_false,List.nil_append];rw[<-h2];refine List.filter_congr fun x hx=>?_;rw[Rc];have:x.born≠a.born:=fun q=>jm.1 (q ▸ List.mem_map.2 ⟨x,hx,rfl⟩);simp[this]
  | cons b l1 =>
   simp only[List.cons_append,List.cons.injEq]at h;obtain⟨rfl,h2⟩:=h;have W9:e∈r:=by
    have:e∈r.filter fun e=>!seen.contains e.born:=by
     rw[h2];simp
    exact(List.mem_filter.1 this).1
   have cq:a.born≠e.born:=fun q=>jm.1 (q ▸ List.mem_map.2 ⟨e,W9,rfl⟩);simp only[cq,decide_false,Bool.not_false,if_true,List.cons_append,List.cons.injEq,true_and];exact filter_push r l1 l2 jm.2 h2
theorem Cq{P:Program}{o:Oper}{σ:St}{x:Operand}{id:Nat}{cur:Option (Value×Value)}{es:List (Value×ae)}
  (ho:o.op=.next x false) (hd:∀d,o.dst=some d->d<σ.n) (hx:σ.ev x=some (.mp id 0)) (mJ:σ.objs[id]?=some (.map (.iter cur) es)):Hi P o σ (N6 id σ.objs es):=by
 intro base τ a g bE hn mf hm K Q hK;have hg:=bE.good;have hO:g.objs=σ.objs:=bE.objs.trans hm;obtain⟨l,o1,qL,h1,_,ex⟩:=(bE.eval (mf x (by simp[ho,Op.operands]) _ hx)).kO;have kL:g.objs[id]?=some (.map (.iter cur) es):=by rw[hO];exact mJ
 obtain⟨l',ob,e1,ix,hh,yG⟩:=hg.map id _ es kL;rw[qL]at e1;simp only[Option.some.injEq]at e1;subst e1;obtain⟨m,clk,last,seen,arr,rfl,Uk,yH,hb,AJ,ga,xm,Si⟩:=yG;have bf:=aU hh;have put:∀(r:ae) (u:Value) (g':G),N6 id σ.objs es r g'.objs->Le g g'->Good g'->RV g' r u->(execOp a.eval o).run P g.w=.ok (.value u) g'.w->o.wp P a g.w K Q:=fun r u g' hR hle c8 th bF=>by
  unfold Oper.wp;rw[bF,Oper.upon_value];refine hK r u g' hR ?_;cases iZ:o.dst with
  | none=>exact bE.step hle c8
  | some d=>exact bE.put hle c8 (d:=d) (by rw[hn];exact hd d iZ) th
 rcases wK (P:=P) g.w o.type l.block m clk last seen arr hh Uk hb AJ with⟨q1,q2⟩|⟨l1,l2,e,w1,q1,p1,p2,p3,p4,q2⟩
 ·rw[q1,List.map_nil]at xm;refine put (.cw [.v (.bool false)]) (.tuple #[.bool false]) g (.inl ⟨xm,rfl,hO⟩) (Le.refl g) hg (.cw rfl fun i c u hc hu=>?_) (by simp[execOp,ho,ex,q2])
  match i,hc,hu with
  | 0,hc,hu =>
   simp at hc hu;subst hc;subst hu;exact .v trivial
  | i+1,hc,hu=>simp at hc
 rw[q1,List.map_append,List.map_cons]at xm;have W8:e∈arr.toList:=by
  have:e∈arr.toList.filter fun e=>!seen.contains e.born:=by
   rw[q1];simp
  exact(List.mem_filter.1 this).1
 obtain⟨i,hi⟩:=List.mem_iff_getElem?.1 W8;have gP:arr[i]?=some e:=by simpa using hi
 obtain⟨f1,f2⟩:=ga i e gP;obtain⟨w2,Mr⟩:∃w2:World,w2 = { w1 with heap:=g.w.heap.setIfInBounds l.block (.mapIter (some m) clk (seen.push e.born) clk) }:=⟨_,rfl⟩
 rw[<-Mr]at q2;have Ey:w2.heap=g.w.heap.setIfInBounds l.block (.mapIter (some m) clk (seen.push e.born) clk):=by rw[Mr]
 have uS:∀k,k≠l.block->w2.heap[k]?=g.w.heap[k]?:=fun k hk=>by rw[Ey];exact Array.getElem?_setIfInBounds_ne (fun e=>hk e.symm)
 have dZ:kC g id (.map (.iter cur) es) (some l) (.map (.iter (some (e.key,e.val))) (l1.map (fun e=>(e.key,ae.v e.val))++l2.map (fun e=>(e.key,ae.v e.val)))) w2:={
  obj:=kL
  os:=by rw[Mr];exact p2
  tape:=by rw[Mr];exact p3
  output:=by rw[Mr];exact p4
  size:=by rw[Ey];simp
  block:=fun k _ hk=>uS k (fun e=>hk l qL trivial e.symm)
  cell:=fun b off x hx _=>by
   by_cases e:b=l.block
   ·subst e;simp only[G.cell,World.cell?,hh]at hx;cases hx
   simp only[World.cell?,uS b e];exact hx
  place:=fun l1 h1 _=>by
   simp only[Option.some.injEq]at h1;subst h1;exact .inr ⟨l,qL,trivial,rfl,Nat.le_refl _⟩
  spare:=fun m h=>by cases h
  plain:=fun _=>⟨by simp[ak.aD],qL⟩
  gone:=by simp }
 have hle:=Le.bu hg dZ;obtain⟨s1,s2⟩:=hle.stay Uk yH;refine put (.cw [.v (.bool true),.v e.key,.v e.val]) (.tuple #[.bool true,e.key,e.val]) (g.bu id (some l) (.map (.iter (some (e.key,e.val))) (l1.map (fun e=>(e.key,ae.v e.val))++l2.map (fun e=>(e.key,ae.v e.val)))) w2)
  (.inr ⟨_,_,e.key,e.val,xm,rfl,by simp only[G.bu,hO]⟩) hle (Good.bu hg dZ ?_ ?_) (.cw rfl fun i c u hc hu=>?_) (by simp[execOp,ho,ex,q2,G.bu])
 ·refine⟨l,.mapIter (some m) clk (seen.push e.born) clk,rfl,ix,?_,?_⟩
  ·simp only[G.bu];rw[Ey,Array.getElem?_setIfInBounds_self_of_lt bf]
  show B5 _ _ _ _;refine⟨m,clk,clk,seen.push e.born,arr,rfl,s1,s2,hb,fun _=>rfl,ga,?_,fun k x SL=>?_⟩
  ·rw[filter_push arr.toList l1 l2 (ua hb) q1,List.map_append]
  simp only[Option.some.injEq,Prod.mk.injEq]at SL;exact⟨i,e,gP,by simp,SL.1,SL.2⟩
 ·intro l1 h1 _;simp only[Option.some.injEq]at h1;subst h1;rw[Ey];simpa using bf
 match i,hc,hu with
 | 0,hc,hu =>
  simp at hc hu;subst hc;subst hu;exact .v trivial
 | 1,hc,hu =>
  simp at hc hu;subst hc;subst hu;exact .v f1
 | 2,hc,hu =>
  simp at hc hu;subst hc;subst hu;exact .v f2
 | i+3,hc,hu=>simp at hc
end Go.Av
namespace Go.Proofs.YtjdnhamngpafmaaGreat
open Go.Av
abbrev Env:=Int->Option Int
def wQ(E:Env)(v x:Int):Env:=fun w=>if w=v then some x else E w
def lC(E:Env)(v:Int):Int:=(E v).getD 0
def rU:Env:=fun _=>none
abbrev kI(v:Int):Value:=.int .i64 v
structure dN(es:List (Value×ae))(E:Env):Prop where
 fit:∀p∈es,∃v x:Int,p=(kI v,aI x)∧ca v∧ca x
 nd:(es.map Prod.fst).Nodup
 look:∀v:Int,eY es (kI v)=(E v).map aI
theorem ku(a b:Int):lT (kI a) (kI b)=decide (a=b):=rfl
theorem rH:dN [] rU:=⟨fun p hp=>absurd hp (by simp),List.nodup_nil,fun _=>rfl⟩
theorem xB{v w x:Int}:∀{es:List (Value×ae)},(∀p∈es,∃v x:Int,p=(kI v,aI x)∧ca v∧ca x)->eY (gf es (kI v) (aI x)) (kI w)=if w=v then some (aI x)else eY es (kI w)
 | [],_=>by
  simp only[gf,eY,ku];by_cases e:w=v
  ·subst e;simp
  have e3:¬v=w:=fun q=>e q.symm;simp[e,e3]
 | p::r,h=>by
  obtain⟨a,b,rfl,_,_⟩:=h p List.mem_cons_self;have ih:=xB (v:=v) (w:=w) (x:=x) (es:=r) fun q hq=>h q (List.mem_cons_of_mem _ hq);simp only[gf,ku];by_cases e:a=v
  ·subst e;simp only[decide_true,if_true,eY,ku];by_cases e2:w=a
   ·subst e2;simp
   have e3:¬a=w:=fun q=>e2 q.symm;simp[e2,e3]
  simp only[e,decide_false,Bool.false_eq_true,if_false,eY,ku,ih];by_cases e2:a=w
  ·subst e2;simp[e]
  simp[e2]
theorem xU{v x:Int}:∀{es:List (Value×ae)},(∀p∈es,∃v x:Int,p=(kI v,aI x)∧ca v∧ca x)->((gf es (kI v) (aI x)).map Prod.fst=es.map Prod.fst∧kI v∈es.map Prod.fst)∨((gf es (kI v) (aI x)).map Prod.fst=es.map Prod.fst++[kI v]∧kI v ∉ es.map Prod.fst)
 | [],_=>.inr ⟨rfl,by simp⟩
 | p::r,h=>by
  obtain⟨a,b,rfl,_,_⟩:=h p List.mem_cons_self;have ih:=xU (v:=v) (x:=x) (es:=r) fun q hq=>h q (List.mem_cons_of_mem _ hq);simp only[gf,ku];by_cases e:a=v
  ·subst e;left;simp
  simp only[e,decide_false,Bool.false_eq_true,if_false,List.map_cons];rcases ih with⟨q1,q2⟩|⟨q1,q2⟩
  ·exact .inl ⟨by rw[q1],List.mem_cons_of_mem _ q2⟩
  refine .inr ⟨by rw[q1];rfl,fun q=>?_⟩;rcases List.mem_cons.1 q with q|q
  ·injection q with _ q;exact e q.symm
  exact q2 q
theorem Bp{v x:Int}:∀{es:List (Value×ae)} {p:Value×ae},p∈gf es (kI v) (aI x)->p∈es∨p=(kI v,aI x)
 | [],p,h=>.inr (by simpa[gf]using h)
 | q::r,p,h=>by
  obtain⟨a,b⟩:=q;rw[gf]at h;split at h
  ·rcases List.mem_cons.1 h with e|e
   ·exact .inr e
   exact .inl (List.mem_cons_of_mem _ e)
  rcases List.mem_cons.1 h with e|e
  ·exact .inl (by rw[e];exact List.mem_cons_self)
  rcases Bp e with e|e
  ·exact .inl (List.mem_cons_of_mem _ e)
  exact .inr e
theorem dN.put{es:List (Value×ae)}{E:Env}(h:dN es E){v x:Int}(hv:ca v)(hx:ca x):dN (gf es (kI v) (aI x)) (wQ E v x):=by
 refine⟨fun p hp=>?_,?_,fun w=>?_⟩
 ·rcases Bp hp with q|q
  ·exact h.fit p q
  exact⟨v,x,q,hv,hx⟩
 ·rcases xU (v:=v) (x:=x) h.fit with⟨q,_⟩|⟨q,q2⟩
  ·rw[q];exact h.nd
  rw[q,List.nodup_append];refine⟨h.nd,by simp,fun a ha b hb=>?_⟩;rw[List.mem_singleton]at hb;subst hb;exact fun e=>q2 (e ▸ ha)
 rw[xB h.fit,h.look];unfold wQ;split<;>rfl
theorem dN.mem{es:List (Value×ae)}{E:Env}(h:dN es E){v x:Int}:E v=some x↔(kI v,aI x)∈es:=by
 have key:∀{l:List (Value×ae)},(∀p∈l,∃v x:Int,p=(kI v,aI x)∧ca v∧ca x)->(l.map Prod.fst).Nodup->(eY l (kI v)=some (aI x)↔(kI v,aI x)∈l):=fun {l}=>by
  induction l with
  | nil=>intro _ _;simp[eY]
  | cons p r ih =>
   intro hf hn;obtain⟨a,b,rfl,_,_⟩:=hf p List.mem_cons_self;have jm:kI a ∉ r.map Prod.fst∧(r.map Prod.fst).Nodup:=List.nodup_cons.1 hn;have ih:=ih (fun q hq=>hf q (List.mem_cons_of_mem _ hq)) jm.2;simp only[eY,ku];by_cases e:a=v
   ·subst e;simp only[decide_true,if_true,Option.some.injEq];constructor
    ·intro q;rw[q];exact List.mem_cons_self
    intro q;rcases List.mem_cons.1 q with q|q
    ·exact(Prod.mk.inj q).2.symm
    exact absurd (List.mem_map.2 ⟨_,q,rfl⟩) jm.1
   simp only[e,decide_false,Bool.false_eq_true,if_false];rw[ih];constructor
   ·exact fun q=>List.mem_cons_of_mem _ q
   intro q;rcases List.mem_cons.1 q with q|q
   ·have:=(Prod.mk.inj q).1;injection this with _ this;exact absurd this.symm e
   exact q
 rw[<-key h.fit h.nd,h.look];cases hE:E v with
 | none=>simp
 | some y=>simp
structure x6(EP:Env)(left:List (Value×ae))(E:Env):Prop where
 fit:∀p∈left,∃v x:Int,p=(kI v,aI x)∧ca v∧ca x
 nd:(left.map Prod.fst).Nodup
 all:∀v x:Int,EP v=some x↔((kI v,aI x)∈left∨E v=some x)
 new:∀v x:Int,(kI v,aI x)∈left->E v=none
theorem x6.start{es:List (Value×ae)}{EP:Env}(h:dN es EP):x6 EP es rU :=
 ⟨h.fit,h.nd,fun v x=>by rw[h.mem];simp[rU],fun _ _ _=>rfl⟩
theorem x6.step{EP E:Env}{l1 l2:List (Value×ae)}{k x:Value}(h:x6 EP (l1++(k,.v x)::l2) E):∃v y:Int,k=kI v∧x=kI y∧ca v∧ca y∧x6 EP (l1++l2) (wQ E v y):=by
 obtain⟨v,y,e,hv,hy⟩:=h.fit (k,.v x) (by simp);obtain⟨rfl,e2⟩:=Prod.mk.inj e;obtain rfl:x=kI y:=by injection e2
 have uZ:∀p,p∈l1++l2->p∈l1++(kI v,ae.v (kI y))::l2:=fun p hp=>by
  rcases List.mem_append.1 hp with q|q
  ·exact List.mem_append_left _ q
  exact List.mem_append_right _ (List.mem_cons_of_mem _ q)
 have tz:=h.nd;rw[List.map_append,List.map_cons]at tz;have Us:∀z,(kI v,z) ∉ l1++l2:=fun z hz=>by
  have hp:=List.perm_middle (a:=kI v) (l₁:=l1.map Prod.fst) (l₂:=l2.map Prod.fst);have:=List.nodup_cons.1 (hp.nodup_iff.1 tz);rw[<-List.map_append]at this;exact this.1 (List.mem_map.2 ⟨_,hz,rfl⟩)
 refine⟨v,y,rfl,rfl,hv,hy,fun p hp=>h.fit p (uZ p hp),?_,fun w z=>?_,fun w z hw=>?_⟩
 ·have hp:=List.perm_middle (a:=kI v) (l₁:=l1.map Prod.fst) (l₂:=l2.map Prod.fst);have:=List.nodup_cons.1 (hp.nodup_iff.1 tz);rw[List.map_append];exact this.2
 ·rw[h.all];unfold wQ;constructor
  ·rintro(q|q)
   ·rcases List.mem_append.1 q with q|q
    ·exact .inl (List.mem_append_left _ q)
    rcases List.mem_cons.1 q with q|q
    ·obtain⟨q1,q2⟩:=Prod.mk.inj q;injection q1 with _ q1;injection q2 with q2;injection q2 with _ q2;right;rw[if_pos q1,q2]
    exact .inl (List.mem_append_right _ q)
   by_cases e:w=v
   ·subst e;have:=h.new w y (by simp);rw[this]at q;cases q
   right;rw[if_neg e];exact q
  rintro(q|q)
  ·exact .inl (uZ _ q)
  split at q
  ·rename_i e;rw[Option.some.injEq]at q;subst e;subst q;left;simp
  exact .inr q
 have cq:w≠v:=fun e=>by
  subst e;exact Us _ hw
 unfold wQ;rw[if_neg cq];exact h.new w z (uZ _ hw)
theorem x6.done{EP E:Env}(h:x6 EP [] E):E=EP:=by
 funext v
 cases hE:EP v with
 | none =>
  cases h2:E v with
  | none=>rfl
  | some x =>
   have:=(h.all v x).2 (.inr h2);rw[hE]at this;cases this
 | some x =>
  rcases(h.all v x).1 hE with q|q
  ·cases q
  exact q
def gj(E:Env)(nx:Int):List Int->Env
 | []=>E
 | v::r=>gj (wQ E v nx) (nx+1) r
def il:Env->Int->List Ins->Env×Int×List Ins
 | E,nx,[]=>(E,nx,[])
 | E,nx,i::r=>if i.op=100 then il (wQ E i.to ((i.args.map (lC E)).headD 0)) nx r
  else
   let q:=il (wQ E i.to nx) (nx+1) r
   (q.1,q.2.1,⟨nx,i.op,i.n,i.args.map (lC E)⟩::q.2.2)


theorem rS{v:Int}:∀(l:List Bool) (n:Nat),v∈cC n l->∃j:Nat,Hs l j∧v=n+j
 | [],n,h=>by simp[cC]at h
 | is::r,n,h=>by
  simp only[cC]at h;split at h
  ·rename_i hc;rcases List.mem_cons.1 h with q|q
   ·exact⟨0,by simp[Hs,hc],by omega⟩
   obtain⟨j,h1,h2⟩:=rS r (n+1) q;exact⟨j+1,by simpa[Hs]using h1,by omega⟩
  obtain⟨j,h1,h2⟩:=rS r (n+1) h;exact⟨j+1,by simpa[Hs]using h1,by omega⟩
theorem sm{X:Type}{step:X->Nat->List Bool->X}{l:List Ins}{J:Nat->X->List Bool->Prop}(hs:∀n x s i,l[n]?=some i->J (n+1) x s->J n (step x (n+1) s) (na i s)):∀n x s,n<=l.length->J n x s->∃x' s',J 0 x' s'∧tp step l n x s=step x' 0 s'
 | 0,x,s,_,h=>⟨x,s,h,rfl⟩
 | n+1,x,s,hn,h=>by
  obtain⟨i,hi⟩:∃i,l[n]?=some i:=⟨l[n],List.getElem?_eq_getElem _⟩
  obtain⟨x',s',h1,h2⟩:=sm hs n _ _ (by omega) (hs n x s i hi h);refine⟨x',s',h1,?_⟩;simp only[tp,hi];exact h2
def setAt(f:Func)(S:List (List Bool))(k n:Nat):List Bool:=ja ((aF f k).ins.drop n) (S[k]?.getD [])
theorem DP{f:Func}{S:List (List Bool)}{k n:Nat}{i:Ins}(h:(aF f k).ins[n]?=some i):setAt f S k n=na i (setAt f S k (n+1)):=by
 unfold setAt;rw[bK h];rfl
theorem gn:∀(l:List Bool) (n:Nat),(cC n l).length=l.countP id
 | [],_=>rfl
 | a::r,n=>by
  have:=gn r (n+1);cases a<;>simp[cC,this]
def wC(g:Func)(ord:List Int)(inn:List (List Int))(N:List (List Bool))(nx:Int)(OB EN n:Nat):List ae :=
 [aI g.name,aw g.blocks,aJ ord,.aA 1 (inn.map aJ) .sh,.aA 1 (N.map eG) .sh,aI nx,aI g.name,.ms OB 0 n n,.ms EN 0 n n]
theorem oz{O:List ak}{g:Func}{ord:List Int}{inn:List (List Int)}{N:List (List Bool)}{nx:Int}{W OB EN n:Nat}(hW:O[W]?=some (.cells (wC g ord inn N nx OB EN n)))(hn:0<=nx∧nx<=2 ^ 40) :
  bd Tryz.prog 107 O [.mp W 0] (fun r O'=>r=aI nx∧O'=O.set W (.cells (wC g ord inn N (nx+1) OB EN n))):=by
 have WX:(O.set W (.cells (wC g ord inn N (nx+1) OB EN n)))[W]?=some (.cells (wC g ord inn N (nx+1) OB EN n)):=nF hW;unfold wC at hW WX ⊢;have hx:nx+1-1=nx:=by omega
 refine xe hT Tryz.func107 rfl (by kernel_rfl) (by simp[Tryz.ntmps107]) ?_;show bX Tryz.prog _ _ _ ⟨15,_,_⟩;dsimp only[Tmp,TypeId,slotsOf];refine ay (ai ?_);refine aQ ?_;simp -dsimp only[simprocAttr,↓aa,zp,hW]
 repeat(refine⟨by omega,?_⟩)
 refine ai ?_;refine aQ ?_;simp -dsimp only[simprocAttr,↓aa,zp,WX,hx]
 repeat(refine⟨by omega,?_⟩)
 refine ai ?_;refine aq ?_;simp -dsimp only[simprocAttr,↓aa,zp,B7,Tryz.results107,fH,oh,iQ,lp,jB,kl]
def mC(g:Func)(ord:List Int)(inn:List (List Int))(N:List (List Bool))(nx:Int)(n:Nat)(C A:List ae):List ak :=
 [.gone,.cells [aI 0,.aA 7 [] .ex],.gone,.gone,.gone,.cells C,.cells A,.cells (wC g ord inn N nx 5 6 n)]
theorem gF{n i:Nat}{C:List ae}{x:ae}(h:av n C)(hx:x.upto n):av n (C.set i x):=by
 rw[aT]at h ⊢;intro d hd;rcases List.mem_or_eq_of_mem_set hd with q|q
 ·exact h d q
 rw[q];exact hx
theorem dN.upto{es:List (Value×ae)}{E:Env}(h:dN es E)(n:Nat):kW n es:=by
 rw[kA];intro p hp;obtain⟨v,x,rfl,_⟩:=h.fit p hp;trivial
theorem yt{g:Func}{ord:List Int}{inn:List (List Int)}{N:List (List Bool)}{nx:Int}{n m:Nat}{C A:List ae}(hC:av m C)(hA:av 0 A)(hm:8<=m):∀o∈mC g ord inn N nx n C A,o.upto m:=by
 intro o ho;simp only[mC,List.mem_cons,List.not_mem_nil,or_false]at ho;rcases ho with rfl|rfl|rfl|rfl|rfl|rfl|rfl|rfl
 ·trivial
 ·exact⟨trivial,⟨trivial,trivial⟩,trivial⟩
 ·trivial
 ·trivial
 ·trivial
 ·exact hC
 ·exact dq (Nat.zero_le _) _ hA
 exact⟨trivial,⟨Block.ag _ _,trivial⟩,⟨ax _ _,trivial⟩,⟨gU _ _,trivial⟩,⟨iL _ _,trivial⟩,trivial,trivial,show 5<m by omega,show 6<m by omega,trivial⟩
def CB(C:List ae)(k:Nat)(ps:List Int)(is:List Ins):List ae:=(C.set (k*7) (aJ ps)).set (k*7+1) (.aA 4 (is.map Ins.enc) (.tok 9))
theorem Eg{g:Func}{ord:List Int}{inn:List (List Int)}{N:List (List Bool)}{n k:Nat}{C A:List ae}(hC:av 0 C)(hA:av 0 A)(x:Int)(es:List (Value×ae))(E:Env)(y:List Int)(z:List Ins)(hE:dN es E):∀o∈mC g ord inn N x n (CB C k y z) A++[.map (.int .i64) es,.spare z.length],o.upto 10:=fun o ho=>by
 rcases List.mem_append.1 ho with q|q
 ·exact yt (gF (gF (dq (Nat.zero_le _) _ hC) (show ae.upto 10 (aJ y) from⟨ax _ _,trivial⟩)) (show ae.upto 10 (.aA 4 (z.map Ins.enc) (.tok 9)) from⟨Ins.ag _ _,by decide⟩)) hA (by omega) o q
 simp only[List.mem_cons,List.not_mem_nil,or_false]at q;rcases q with rfl|rfl
 ·exact hE.upto 10
 trivial
structure Bx where
 v:Nat
 es:List (Value×ae)
def eW(n:Int)(k:Nat):List Int:=(List.range k).map fun i:Nat=>n+(i:Int)
theorem rC(n:Int)(k:Nat):eW n (k+1)=eW n k++[n+(k:Int)]:=by
 unfold eW;rw[List.range_succ,List.map_append];rfl
theorem jN(n:Int)(k:Nat):(eW n k).length=k:=by unfold eW;rw[List.length_map,List.length_range]
theorem oD:∀(l:List Int) (E:Env) (nx v:Int),gj E nx (l++[v])=wQ (gj E nx l) v (nx+l.length)
 | [],E,nx,v=>by simp[gj]
 | a::r,E,nx,v=>by
  simp only[List.cons_append,gj,List.length_cons];rw[oD r];congr 1;omega
theorem pT{s:List Bool}{v:Nat}{is:Bool}(h:s[v]?=some is)(n:Nat):cC n (s.take (v+1))=cC n (s.take v)++if is=true then [((n+v:Nat):Int)]else []:=by
 induction s generalizing v n with
 | nil=>simp at h
 | cons a r ih =>
  cases v with
  | zero =>
   obtain rfl:a=is:=by simpa using h
   cases a<;>simp[cC]
  | succ v =>
   have:=ih (v:=v) (by simpa using h) (n+1);simp only[List.take_succ_cons,cC];rw[this,show n+1+v=n+(v+1) by omega];cases a<;>simp
theorem dM{C:List ae}{i:Nat}{x:ae}(h:∀d∈C,d.scalar)(hx:x.scalar):∀d∈C.set i x,d.scalar:=fun d hd=>by
 rcases List.mem_or_eq_of_mem_set hd with q|q
 ·exact h d q
 rw[q];exact hx
theorem tI{O:List ak}{C:List ae}{i:Nat}{x y:ae}(h:i<C.length->Sub O x y):∀(j:Nat) (c d:ae),(C.set i x)[j]?=some c->(C.set i y)[j]?=some d->Sub O c d:=fun j c d hc hd=>by
 rw[List.getElem?_set]at hc hd;split at hc
 ·rename_i e;rw[if_pos e]at hd;split at hc
  ·rename_i e2;rw[if_pos e2]at hd;rw[Option.some.injEq]at hc hd;rw[<-hc,<-hd];exact h e2
  cases hc
 rename_i e;rw[if_neg e,hc,Option.some.injEq]at hd;rw[hd];exact Sub.refl _
theorem mN{es:List (Value×ae)}{E:Env}(h:dN es E)(v x:Int)(hv:ca v)(hx:ca x):eY (gf es (.int .i64 v) (.v (.int .i64 x))) (.int .i64 v)=some (.v (.int .i64 x)):=by
 have:=(h.put hv hx).look v;unfold wQ at this;rw[if_pos rfl]at this;exact this
theorem Cj{g:Func}{ord:List Int}{inn:List (List Int)}{N:List (List Bool)}{nx:Int}{n k many:Nat}{C A:List ae}{s:List Bool}{is:List Int}(It:av 0 C)(Is:av 0 A)
  (hn:0<=nx∧nx<=2 ^ 30) (hC:C.length=n*7) (LM:∀d∈C,d.scalar) (hk:k<n) (KR:k≠0) (Eu:C[k*7]?=some (.aA 1 [] .ex)) (lj:C[k*7+1]?=some (.aA 4 [] .ex)) (hs:N[k]?=some s) (ng:s.length=many) (KU:many<=4096) (hi:inn[k]?=some is) (BZ:is.length≠1) (Y1:is.length<=2 ^ 30) (Ov:n<=128) :
  bd Tryz.prog 106 (mC g ord inn N nx n C A) [.mp 7 0,aI k] (fun r O'=>∃es,r=.mm 8∧dN es (gj rU nx (cC 0 s)) ∧
   O'=mC g ord inn N (nx+(cC 0 s).length) n (CB C k (eW nx (cC 0 s).length) []) A++[.map (.int .i64) es,.spare 0]):=by
 have uM:decide ((k:Int)=0)=false:=decide_eq_false (by omega);have fK:decide ((is.length:Int)=1)=false:=decide_eq_false (by omega);have PX:(inn.map aJ)[k]?=some (aJ is):=by rw[List.getElem?_map,hi];rfl
 have Tn:(N.map eG)[k]?=some (.aA 1 (s.map eB) .sh):=by rw[List.getElem?_map,hs];rfl
 obtain⟨D,hD⟩:∃D,D=C.set (k*7+1) (.aA 4 [] (.tok 9)):=⟨_,rfl⟩
 have X9:D.length=n*7:=by rw[hD,List.length_set,hC]
 have US:D[k*7]?=some (.aA 1 [] .ex):=by rw[hD,List.getElem?_set_ne (by omega),Eu]
 have UU:∀d∈D,d.scalar:=by rw[hD];exact dM LM trivial
 have UT:∀y,D.set (k*7) (aJ y)=CB C k y []:=fun y=>by
  rw[hD];unfold CB;rw[List.set_comm _ _ (by omega)];rfl
 have Uo:k*7<D.length:=by omega
 have Ev:∀x:ae,(D.set (k*7) x)[k*7]?=some x:=fun x=>List.getElem?_set_self Uo;have gg:∀x:ae,(D.set (k*7) x).length=n*7:=fun x=>by rw[List.length_set,X9]
 have jn:∀x y:ae,bh (D.set (k*7) x) (k*7) [y]=D.set (k*7) y:=fun x y=>by
  rw[cA _ (by rw[List.length_set];exact Uo),List.set_set]
 have dG:∀(x:Int) (C':List ae) (X:List ak),0<=x∧x<=2 ^ 40->bd Tryz.prog 107 (mC g ord inn N x n C' A++X) [.mp 7 0] (fun r O'=>r=aI x∧O'=mC g ord inn N (x+1) n C' A++X):=fun x C' X hx=>oz rfl hx;have CY:∀v,(cC 0 (s.take v)).length<=4096:=fun v=>by
  have h1:=gn (s.take v) 0;have h2:=List.countP_le_length (p:=id) (l:=s.take v);rw[List.length_take]at h2;omega
 have AT:=fun(x:Int) (es:List (Value×ae)) (E:Env) (y:List Int) (hE:dN es E)=>Eg (g:=g) (ord:=ord) (inn:=inn) (N:=N) (n:=n) (k:=k) It Is x es E y [] hE;unfold mC wC at dG AT ⊢;have gi:8<=10:=by omega
 refine dj hT true (10) Tryz.func106 rfl (by kernel_rfl) (by simp[Tryz.ntmps106]) (by assumption) ?_;show bX Tryz.prog _ _ _ ⟨186,_,_⟩;dsimp only[Tmp,TypeId,slotsOf];refine ay (ai ?_);refine ay (ai ?_);refine aH (ah ?_);refine aQ ?_;simp -dsimp only[simprocAttr,↓aa,zp,uM];refine ai ?_;apply aN rfl<;>intro h
 ·cases h
 refine aQ ?_;simp -dsimp only[simprocAttr,↓aa,zp,PX,fK,Int.toNat_natCast,Nat.mul_one]
 repeat(refine⟨by omega,?_⟩)
 refine ai ?_;apply aN rfl<;>intro h
 ·cases h
 refine aQ ?_;simp -dsimp only[simprocAttr,↓aa,zp,Tn,Int.toNat_natCast,Nat.mul_one]
 repeat(refine⟨by omega,?_⟩)
 refine ai ?_;refine cY 5 (k*7+1) rfl lj ?_;simp -dsimp only[simprocAttr,↓aa,zp,<-hD];refine cY 5 (k*7) rfl US ?_;simp -dsimp only[simprocAttr,↓aa,zp];refine ah (aL (ι:={X:Bx // X.v<=s.length∧dN X.es (gj rU nx (cC 0 (s.take X.v)))}) (fun X=>⟨186,[(0,.mp 7 0),(1,aI k),(5,.mm 8),(23,.aA 1 (s.map eB) .sh),(24,aI s.length),(25,aI X.1.v)],[.gone,.cells [aI 0,.aA 7 [] .ex],.gone,.gone,.gone,.cells (D.set (k*7) (.aA 1 ((eW nx (cC 0 (s.take X.1.v)).length).map aI) (.tok 10))),.cells A,.cells [aI g.name,aw g.blocks,aJ ord,.aA 1 (inn.map aJ) .sh,.aA 1 (N.map eG) .sh,aI (nx+((cC 0 (s.take X.1.v)).length:Int)),aI g.name,.ms 5 0 n n,.ms 6 0 n n],.map (.int .i64) X.1.es,.spare 0,.spare (cC 0 (s.take X.1.v)).length]⟩) (fun X=>s.length-X.1.v) ⟨⟨0,[]⟩,Nat.zero_le _,rH⟩ ?_ ?_)
 ·refine zq rfl ?_ ?_;simp -dsimp only[simprocAttr,↓aa,zp,zc]
  all_goals (simp[cC,eW];done)
 rintro⟨⟨v,es⟩,hv,hE⟩;simp only at hv hE;refine ay (ai ?_);apply gJ rfl<;>intro h
 ·refine cj ?_;have zH:v<s.length:=by simpa using h
  obtain⟨b,hb⟩:∃b,s[v]?=some b:=⟨s[v],by simp[zH]⟩
  have LS:(s.map eB)[v]?=some (.v (.bool b)):=by rw[List.getElem?_map,hb];rfl
  have eo:=pT hb 0;rw[Nat.zero_add]at eo;have Ha:=CY v;refine aH (ah ?_);refine aQ ?_;simp -dsimp only[simprocAttr,↓aa,zp,LS];refine ai ?_;cases b with
  | true =>
   rw[if_pos rfl]at eo;have AI:(cC 0 (s.take (v+1))).length=(cC 0 (s.take v)).length+1:=by rw[eo,List.length_append];rfl
   have Er:gj rU nx (cC 0 (s.take (v+1)))=wQ (gj rU nx (cC 0 (s.take v))) (v:Int) (nx+(cC 0 (s.take v)).length):=by rw[eo,oD]
   have CZ:=rC nx (cC 0 (s.take v)).length;generalize Vb:(cC 0 (s.take v)).length=c at *;have PU:ca (v:Int):=by unfold ca;omega
   have IE:ca (nx+(c:Int)):=by unfold ca;omega
   have Oj:=hE.put PU IE;have C5:=mN hE (v:Int) (nx+(c:Int)) PU IE;rw[<-Er]at Oj;have wv:=dG (nx+(c:Int)) (D.set (k*7) (.aA 1 ((eW nx c).map aI) (.tok 10))) [.map (.int .i64) es,.spare 0,.spare c] (by omega);have AX:((eW nx c).map aI).length=c:=by rw[List.length_map,jN]
   have u7:(eW nx c).map aI++[aI (nx+(c:Int))]=(eW nx (c+1)).map aI:=by rw[CZ,List.map_append];rfl
   refine ay (ai ?_);refine cB rfl ?_;refine ay ?_;refine .inr (.inl ⟨_,_,wv,.inl (ao (zj ?_))⟩);refine ai ?_;refine jX ?_;simp -dsimp only[simprocAttr,↓aa,zp,Ev,C5,AX,jn,u7,gg,Option.getD_some,Int.toNat_natCast,Nat.mul_one]
   repeat(refine⟨by omega,?_⟩)
   refine⟨ob (by kernel_rfl),?_⟩;refine ai ?_;refine cM ?_
   repeat(refine⟨by omega,?_⟩)
   refine eZ ?_;refine⟨⟨⟨v+1,gf es (.int .i64 v) (.v (.int .i64 (nx+c)))⟩,zH,Oj⟩,by simp;omega,?_⟩;dsimp only;rw[AI];have IP:nx+((c+1:Nat):Int)=nx+(c:Int)+1:=by omega
   rw[IP];refine zq rfl ?_ ?_;simp -dsimp only[simprocAttr,↓aa,zp,zc]
   ·exact Sub.int (by simp)
   rfl
  | false =>
   rw[if_neg (by decide),List.append_nil]at eo;refine ay (ai ?_);apply aN rfl<;>intro h
   ·cases h
   refine kp ?_;refine cM ?_
   repeat(refine⟨by omega,?_⟩)
   refine eZ ?_;refine⟨⟨⟨v+1,es⟩,zH,by simp only;rw[eo];exact hE⟩,by simp;omega,?_⟩;dsimp only;rw[eo];refine zq rfl ?_ ?_;simp -dsimp only[simprocAttr,↓aa,zp,zc]
   ·exact Sub.int (by simp)
   rfl
 refine aK ?_;simp -dsimp only[bI,ne_eq,Nat.reduceEqDiff,reduceCtorEq];have Mq:s.length<=v:=by simpa using h
 rw[List.take_of_length_le Mq]at hE ⊢;have pr:=UT (eW nx (cC 0 s).length);refine dX (cs:=D.set (k*7) (.aA 1 ((eW nx (cC 0 s).length).map aI) (.tok 10))) 5 (D.set (k*7) (aJ (eW nx (cC 0 s).length))) rfl (by rw[List.length_set,List.length_set]) (dM UU trivial) (tI fun _=>Sub.sh rfl) ?_;simp -dsimp only[simprocAttr,↓aa,zp,pr];refine ay (ai ?_);refine aq ?_;simp -dsimp only[simprocAttr,↓aa,zp,zr,Tryz.results106];exact⟨AT _ es _ _ hE,es,hE,rfl⟩
structure By where
 left:List (Value×ae)
 cur:Option (Value×Value)
 es:List (Value×ae)
 E:Env
theorem JI{O:List ak}{C:List ae}{i:Nat}{x y:ae}(hx:C[i]?=some x)(h:Sub O x y):∀(j:Nat) (c d:ae),C[j]?=some c->(C.set i y)[j]?=some d->Sub O c d:=fun j c d hc hd=>by
 rw[List.getElem?_set]at hd;split at hd
 ·rename_i e;subst e;split at hd
  ·rw[hx,Option.some.injEq]at hc;rw[Option.some.injEq]at hd;rw[<-hc,<-hd];exact h
  cases hd
 rw[hc,Option.some.injEq]at hd;rw[<-hd];exact Sub.refl _
theorem Fm{g:Func}{ord:List Int}{inn:List (List Int)}{N:List (List Bool)}{nx:Int}{n k:Nat}{C A:List ae}{p:Int}{eP:List (Value×ae)}{EP:Env}(It:av 0 C)(Is:av 0 A)
  (hC:C.length=n*7) (LM:∀d∈C,d.scalar) (Eu:C[k*7]?=some (.aA 1 [] .ex)) (lj:C[k*7+1]?=some (.aA 4 [] .ex)) (hk:k<n) (KR:k≠0) (hi:inn[k]?=some [p]) (hp:0<=p∧p<n) (hA:A[p.toNat]?=some (.im (.int .i64) eP)) (LL:A.length=n) (hE:dN eP EP) (Ov:n<=128) :
  bd Tryz.prog 106 (mC g ord inn N nx n C A) [.mp 7 0,aI k] (fun r O'=>∃es,r=.mm 8∧dN es EP∧O'=mC g ord inn N nx n (CB C k [] []) A++[.map (.int .i64) es,.spare 0]):=by
 have uM:decide ((k:Int)=0)=false:=decide_eq_false (by omega);have PX:(inn.map aJ)[k]?=some (aJ [p]):=by rw[List.getElem?_map,hi];rfl
 have Xd:∀q∈eP,gK q.1∧∃y,q.2=.v y:=fun q hq=>by
  obtain⟨v,x,rfl,hv,_⟩:=hE.fit q hq;exact⟨hv,_,rfl⟩
 have AT:=fun(es:List (Value×ae)) (E:Env) (hE:dN es E)=>Eg (g:=g) (ord:=ord) (inn:=inn) (N:=N) (n:=n) (k:=k) It Is nx es E [] [] hE;obtain⟨D,hD⟩:∃D,D=C.set (k*7+1) (.aA 4 [] (.tok 9)):=⟨_,rfl⟩
 have Uo:k*7<C.length:=by omega
 have UU:∀d∈D,d.scalar:=by rw[hD];exact dM LM trivial
 have US:D[k*7]?=some (.aA 1 [] .ex):=by rw[hD,List.getElem?_set_ne (by omega),Eu]
 have UT:D.set (k*7) (aJ [])=CB C k [] []:=by
  rw[hD];unfold CB;rw[List.set_comm _ _ (by omega)];rfl
 unfold mC wC at AT ⊢;have gi:8<=10:=by omega
 refine dj hT true (10) Tryz.func106 rfl (by kernel_rfl) (by simp[Tryz.ntmps106]) (by assumption) ?_;show bX Tryz.prog _ _ _ ⟨186,_,_⟩;dsimp only[Tmp,TypeId,slotsOf];refine ay (ai ?_);refine ay (ai ?_);refine aH (ah ?_);refine aQ ?_;simp -dsimp only[simprocAttr,↓aa,zp,uM];refine ai ?_;apply aN rfl<;>intro h
 ·cases h
 refine aQ ?_;simp -dsimp only[simprocAttr,↓aa,zp,PX,Int.toNat_natCast,Nat.mul_one]
 repeat(refine⟨by omega,?_⟩)
 refine ai ?_;refine cB rfl ?_;refine cY 5 (k*7+1) rfl lj ?_;simp -dsimp only[simprocAttr,↓aa,zp,<-hD];refine aQ ?_;simp -dsimp only[simprocAttr,↓aa,zp,PX,hA,Int.toNat_natCast,Nat.mul_one]
 repeat(refine⟨by omega,?_⟩)
 refine⟨ob (by kernel_rfl),?_⟩;refine ai ?_;refine ah (aL (ι:={X:By // x6 EP X.left X.E∧dN X.es X.E}) (fun X=>⟨186,[(0,.mp 7 0),(1,aI k),(5,.mm 8),(176,.mp 10 0)],[.gone,.cells [aI 0,.aA 7 [] .ex],.gone,.gone,.gone,.cells D,.cells A,.cells [aI g.name,aw g.blocks,aJ ord,.aA 1 (inn.map aJ) .sh,.aA 1 (N.map eG) .sh,aI nx,aI g.name,.ms 5 0 n n,.ms 6 0 n n],.map (.int .i64) X.1.es,.spare 0,.map (.iter X.1.cur) X.1.left]⟩) (fun X=>X.1.left.length) ⟨⟨eP,none,[],rU⟩,x6.start hE,rH⟩ ?_ ?_)
 ·refine zq rfl ?_ ?_;simp -dsimp only[simprocAttr,↓aa,zp,zc]
  all_goals rfl
 rintro⟨⟨left,cur,es,E⟩,hI,Q0⟩;simp only at hI Q0;refine aH (jJ ⟨false,false⟩ hT 0 rfl rfl rfl (by simp) ?_);simp -dsimp only[simprocAttr,↓aa,zp];refine⟨_,Cq rfl (by simp) rfl rfl,fun r O' hR=>?_⟩;rcases hR with⟨h1,h2,h3⟩|⟨l1,l2,kk,x,h1,h2,h3⟩
 ·subst h1;subst h2;subst h3;have Ya:=hI.done;subst Ya;simp -dsimp only[simprocAttr,↓aa,zp];refine ai ?_;refine Wp rfl ?_;refine aK ?_;simp -dsimp only[bI,ne_eq,Nat.reduceEqDiff,reduceCtorEq];refine dX (cs:=D) 5 (D.set (k*7) (aJ [])) rfl (by rw[List.length_set]) (dM UU trivial) (JI US (Sub.sh rfl)) ?_;simp -dsimp only[simprocAttr,↓aa,zp,UT];refine ay (ai ?_);refine aq ?_;simp -dsimp only[simprocAttr,↓aa,zp,zr,Tryz.results106];exact⟨AT _ _ Q0,es,Q0,rfl⟩
 subst h1;obtain⟨v,y,rfl,rfl,hv,hy,WN⟩:=hI.step;have Er:=Q0.put hv hy;subst h2;subst h3;simp -dsimp only[simprocAttr,↓aa,zp];refine ai ?_;refine XU rfl ?_;refine cj ?_;refine ah ?_;refine ay (ai ?_);refine cM (Wo ?_);refine⟨⟨⟨l1++l2,some (kI v,kI y),gf es (kI v) (aI y),wQ E v y⟩,WN,Er⟩,by simp,?_⟩;refine zq rfl ?_ ?_;simp -dsimp only[simprocAttr,↓aa,zp,zc]
 all_goals rfl
def sI(x:Int):Ins:=⟨x,0,0,[]⟩
def sf(E:Env)(s:List Bool)(v:Nat):List Int:=(cC 0 (s.take v)).filter fun w=>(E w).isNone
theorem Ed:∀(l:List Int) (E:Env) (nx w:Int),w ∉ l->gj E nx l w=E w
 | [],_,_,_,_=>rfl
 | a::r,E,nx,w,h=>by
  rw[gj,Ed r _ _ _ (fun q=>h (List.mem_cons_of_mem _ q))];unfold wQ;rw[if_neg (show ¬w=a from fun q=>h (by rw[q];exact List.mem_cons_self))]
theorem QW{E:Env}{s:List Bool}{v:Nat}:(v:Int) ∉ sf E s v:=fun h=>by
 have h1:=(List.mem_filter.1 h).1;obtain⟨j,hj,e⟩:=rS _ _ h1;have:=hj.lt;rw[List.length_take]at this;omega
theorem KF{E:Env}{s:List Bool}{v:Nat}{is:Bool}(h:s[v]?=some is):sf E s (v+1)=sf E s v++if(is&&(E (v:Int)).isNone)=true then [(v:Int)]else []:=by
 unfold sf;rw[pT h 0,List.filter_append,Nat.zero_add];congr 1;cases is with
 | true =>
  simp only[if_true,Bool.true_and];cases hE:(E (v:Int)).isNone<;>simp[hE]
 | false=>simp
theorem zE(E:Env)(s:List Bool)(v:Nat):(sf E s v).length<=s.length:=by
 have h1:=gn (s.take v) 0;have h2:=List.countP_le_length (p:=id) (l:=s.take v);have h3:=List.length_filter_le (fun w=>(E w).isNone) (cC 0 (s.take v));rw[List.length_take]at h2;unfold sf;omega
theorem Ck{g:Func}{ord:List Int}{inn:List (List Int)}{N:List (List Bool)}{nx:Int}{n many:Nat}{C A:List ae}{s:List Bool}{b0:Block}(It:av 0 C)(Is:av 0 A)
  (hn:0<=nx∧nx<=2 ^ 30) (hC:C.length=n*7) (LM:∀d∈C,d.scalar) (uO:0<n) (Eu:C[0]?=some (.aA 1 [] .ex)) (lj:C[1]?=some (.aA 4 [] .ex)) (hs:N[0]?=some s) (ng:s.length=many) (KU:many<=4096) (U6:g.blocks[0]?=some b0) (wz:b0.params.length<=4096) (wA:∀v∈b0.params,ca v) (Ov:n<=128) :
  bd Tryz.prog 106 (mC g ord inn N nx n C A) [.mp 7 0,aI 0] (fun r O'=>∃es,r=.mm 8∧dN es (gj (gj rU nx b0.params) (nx+b0.params.length) (sf (gj rU nx b0.params) s s.length)) ∧
   O'=mC g ord inn N (nx+b0.params.length+(sf (gj rU nx b0.params) s s.length).length) n (CB C 0 (eW nx b0.params.length) ((eW (nx+b0.params.length) (sf (gj rU nx b0.params) s s.length).length).map sI)) A++[.map (.int .i64) es,.spare (sf (gj rU nx b0.params) s s.length).length]):=by
 have Tn:(N.map eG)[0]?=some (.aA 1 (s.map eB) .sh):=by rw[List.getElem?_map,hs];rfl
 have P1:0<C.length:=by omega
 have AI:1<C.length:=by omega
 have L7:∀x y:ae,((C.set 0 x).set 1 y)[0]?=some x:=fun x y=>by rw[List.getElem?_set_ne (by decide),List.getElem?_set_self P1]
 have kY:∀x y:ae,((C.set 0 x).set 1 y)[1]?=some y:=fun x y=>List.getElem?_set_self (by simpa using AI);have Sh:∀x y:ae,(C.set 1 x).set 0 y=(C.set 0 y).set 1 x:=fun x y=>List.set_comm _ _ (by decide);have gg:∀x y:ae,((C.set 0 x).set 1 y).length=n*7:=fun x y=>by rw[List.length_set,List.length_set,hC]
 have F6:∀x y z:ae,bh ((C.set 0 x).set 1 y) 0 [z]=(C.set 0 z).set 1 y:=fun x y z=>by
  rw[cA _ (by simpa using P1),List.set_comm _ _ (by decide),List.set_set]
 have C9:∀x y z:ae,bh ((C.set 0 x).set 1 y) 1 [z]=(C.set 0 x).set 1 z:=fun x y z=>by
  rw[cA _ (by simpa using AI),List.set_set]
 have dG:∀(x:Int) (C':List ae) (X:List ak),0<=x∧x<=2 ^ 40->bd Tryz.prog 107 (mC g ord inn N x n C' A++X) [.mp 7 0] (fun r O'=>r=aI x∧O'=mC g ord inn N (x+1) n C' A++X):=fun x C' X hx=>oz rfl hx;have AT:=fun(x:Int) (es:List (Value×ae)) (E:Env) (y:List Int) (z:List Ins) (hE:dN es E)=>Eg (g:=g) (ord:=ord) (inn:=inn) (N:=N) (n:=n) (k:=0) It Is x es E y z hE;obtain⟨E1,WJ⟩:∃E1,E1=gj rU nx b0.params:=⟨_,rfl⟩
 obtain⟨np,VK⟩:∃np,np=b0.params.length:=⟨_,rfl⟩
 obtain⟨n1,nS⟩:∃n1,n1=nx+(np:Int):=⟨_,rfl⟩
 rw[<-WJ,<-VK,<-nS];rw[<-VK]at wz;unfold mC wC at dG AT ⊢;have gi:8<=10:=by omega
 refine dj hT true (10) Tryz.func106 rfl (by kernel_rfl) (by simp[Tryz.ntmps106]) (by assumption) ?_;show bX Tryz.prog _ _ _ ⟨186,_,_⟩;dsimp only[Tmp,TypeId,slotsOf];refine ay (ai ?_);refine ay (ai ?_);refine aH (ah ?_);refine ay (ai ?_);apply aN rfl<;>intro h
 ·refine cY 5 1 rfl lj ?_;simp -dsimp only[simprocAttr,↓aa,zp];refine cY 5 0 rfl (by rw[List.getElem?_set_ne (by decide)];exact Eu) ?_;simp -dsimp only[simprocAttr,↓aa,zp,Sh];refine c7 ?_;simp -dsimp only[simprocAttr,↓aa,zp,U6]
  repeat(refine⟨by omega,?_⟩)
  refine ai ?_;refine ah (aL (ι:={X:Bx // X.v<=np∧dN X.es (gj rU nx (b0.params.take X.v))}) (fun X=>⟨186,[(0,.mp 7 0),(1,aI 0),(5,.mm 8),(69,aJ b0.params),(70,aI np),(71,aI X.1.v)],[.gone,.cells [aI 0,.aA 7 [] .ex],.gone,.gone,.gone,.cells ((C.set 0 (.aA 1 ((eW nx X.1.v).map aI) (.tok 10))).set 1 (.aA 4 ([]) (.tok 9))),.cells A,.cells [aI g.name,aw g.blocks,aJ ord,.aA 1 (inn.map aJ) .sh,.aA 1 (N.map eG) .sh,aI (nx+(X.1.v:Int)),aI g.name,.ms 5 0 n n,.ms 6 0 n n],.map (.int .i64) X.1.es,.spare 0,.spare (X.1.v)]⟩) (fun X=>np-X.1.v) ⟨⟨0,[]⟩,Nat.zero_le _,rH⟩ ?_ ?_)
  ·refine zq rfl ?_ ?_;simp -dsimp only[simprocAttr,↓aa,zp,zc]
   all_goals first|(simp[eW];done)|(rw[VK];exact Sub.refl _)
  rintro⟨⟨v,es⟩,hv,hE⟩;simp only at hv hE;refine ay (ai ?_);apply gJ rfl<;>intro h
  ·refine cj ?_;have zH:v<np:=by simpa using h
   obtain⟨p,hp⟩:∃p,b0.params[v]?=some p:=⟨b0.params[v]'(by omega),List.getElem?_eq_getElem _⟩
   have XA:=wA p (List.mem_of_getElem? hp);have Er:gj rU nx (b0.params.take (v+1))=wQ (gj rU nx (b0.params.take v)) p (nx+(v:Int)):=by
    rw[List.take_add_one,hp,Option.toList_some,oD,List.length_take,show min v b0.params.length=v by omega]
   have CZ:=rC nx v;have IE:ca (nx+(v:Int)):=by unfold ca;omega
   have Oj:=hE.put XA IE;have C5:=mN hE p (nx+(v:Int)) XA IE;rw[<-Er]at Oj;have wv:=dG (nx+(v:Int)) ((C.set 0 (.aA 1 ((eW nx v).map aI) (.tok 10))).set 1 (.aA 4 [] (.tok 9))) [.map (.int .i64) es,.spare 0,.spare v] (by omega);have AX:((eW nx v).map aI).length=v:=by rw[List.length_map,jN]
   have u7:(eW nx v).map aI++[aI (nx+(v:Int))]=(eW nx (v+1)).map aI:=by rw[CZ,List.map_append];rfl
   refine aH (ah ?_);refine aQ ?_;simp -dsimp only[simprocAttr,↓aa,zp,hp];refine ai ?_;refine ay ?_;refine .inr (.inl ⟨_,_,wv,.inl (ao (zj ?_))⟩);refine ai ?_;refine jX ?_;simp -dsimp only[simprocAttr,↓aa,zp,L7,C5,AX,F6,u7,gg,Option.getD_some,Int.toNat_natCast,Nat.mul_one]
   repeat(refine⟨by omega,?_⟩)
   refine⟨ob (by kernel_rfl),?_⟩;refine ai ?_;refine cM ?_
   repeat(refine⟨by omega,?_⟩)
   refine eZ ?_;refine⟨⟨⟨v+1,gf es (.int .i64 p) (.v (.int .i64 (nx+v)))⟩,zH,Oj⟩,by simp;omega,?_⟩;dsimp only;have IP:nx+((v+1:Nat):Int)=nx+(v:Int)+1:=by omega
   rw[IP];refine zq rfl ?_ ?_;simp -dsimp only[simprocAttr,↓aa,zp,zc]
   ·exact Sub.int (by simp)
   rfl
  refine aK ?_;simp -dsimp only[bI,ne_eq,Nat.reduceEqDiff,reduceCtorEq];have Mq:v=np:=by have:=of_decide_eq_false h;omega
  subst Mq;rw[List.take_of_length_le (by omega),<-WJ]at hE;have zJ:=zE E1 s;rw[<-nS];refine aQ ?_;simp -dsimp only[simprocAttr,↓aa,zp,Tn]
  repeat(refine⟨by omega,?_⟩)
  refine ai ?_;refine ah (aL (ι:={X:Bx // X.v<=s.length∧dN X.es (gj E1 n1 (sf E1 s X.v))}) (fun X=>⟨186,[(0,.mp 7 0),(1,aI 0),(5,.mm 8),(105,.aA 1 (s.map eB) .sh),(106,aI s.length),(107,aI X.1.v)],[.gone,.cells [aI 0,.aA 7 [] .ex],.gone,.gone,.gone,.cells ((C.set 0 (.aA 1 ((eW nx v).map aI) (.tok 10))).set 1 (.aA 4 (((eW n1 (sf E1 s X.1.v).length).map sI).map Ins.enc) (.tok 9))),.cells A,.cells [aI g.name,aw g.blocks,aJ ord,.aA 1 (inn.map aJ) .sh,.aA 1 (N.map eG) .sh,aI (n1+((sf E1 s X.1.v).length:Int)),aI g.name,.ms 5 0 n n,.ms 6 0 n n],.map (.int .i64) X.1.es,.spare ((sf E1 s X.1.v).length),.spare v]⟩) (fun X=>s.length-X.1.v) ⟨⟨0,es⟩,Nat.zero_le _,hE⟩ ?_ ?_)
  ·refine zq rfl ?_ ?_;simp -dsimp only[simprocAttr,↓aa,zp,zc]
   all_goals (simp[eW,sf,cC];done)
  rintro⟨⟨w,es⟩,hw,hE⟩;simp only at hw hE;refine ay (ai ?_);apply gJ rfl<;>intro h
  ·refine cj ?_;have IL:w<s.length:=by simpa using h
   obtain⟨b,hb⟩:∃b,s[w]?=some b:=⟨s[w],by simp[IL]⟩
   have LS:(s.map eB)[w]?=some (.v (.bool b)):=by rw[List.getElem?_map,hb];rfl
   have eo:=KF (E:=E1) hb;have C6:=hE.look (w:Int);rw[Ed _ _ _ _ QW]at C6;have hzw:=zJ w;refine aH (ah ?_);refine aQ ?_;simp -dsimp only[simprocAttr,↓aa,zp,LS];refine ai ?_;cases WK:E1 (w:Int)with
   | some y =>
    rw[WK]at eo C6;have hf:(b&&(some y).isNone)=false:=by simp
    rw[hf,if_neg (by decide),List.append_nil]at eo;cases b with
    | true =>
     refine aQ ?_;simp -dsimp only[simprocAttr,↓aa,zp,C6];refine ai ?_;refine ay (ai ?_);apply aN rfl<;>intro h
     ·cases h
     refine kp ?_;refine cM ?_
     repeat(refine⟨by omega,?_⟩)
     refine eZ ?_;refine⟨⟨⟨w+1,es⟩,IL,by simp only;rw[eo];exact hE⟩,by simp;omega,?_⟩;dsimp only;rw[eo];refine zq rfl ?_ ?_;simp -dsimp only[simprocAttr,↓aa,zp,zc]
     ·exact Sub.int (by simp)
     rfl
    | false =>
     refine aQ ?_;simp -dsimp only[simprocAttr,↓aa,zp,C6];refine ai ?_;refine ay (ai ?_);apply aN rfl<;>intro h
     ·cases h
     refine kp ?_;refine cM ?_
     repeat(refine⟨by omega,?_⟩)
     refine eZ ?_;refine⟨⟨⟨w+1,es⟩,IL,by simp only;rw[eo];exact hE⟩,by simp;omega,?_⟩;dsimp only;rw[eo];refine zq rfl ?_ ?_;simp -dsimp only[simprocAttr,↓aa,zp,zc]
     ·exact Sub.int (by simp)
     rfl
   | none =>
    rw[WK]at eo C6;cases b with
    | false =>
     rw[if_neg (by decide),List.append_nil]at eo;refine aQ ?_;simp -dsimp only[simprocAttr,↓aa,zp,C6];refine ai ?_;refine ay (ai ?_);apply aN rfl<;>intro h
     ·cases h
     refine kp ?_;refine cM ?_
     repeat(refine⟨by omega,?_⟩)
     refine eZ ?_;refine⟨⟨⟨w+1,es⟩,IL,by simp only;rw[eo];exact hE⟩,by simp;omega,?_⟩;dsimp only;rw[eo];refine zq rfl ?_ ?_;simp -dsimp only[simprocAttr,↓aa,zp,zc]
     ·exact Sub.int (by simp)
     rfl
    | true =>
     rw[if_pos (by rfl)]at eo;have AI:(sf E1 s (w+1)).length=(sf E1 s w).length+1:=by rw[eo,List.length_append];rfl
     have Er:gj E1 n1 (sf E1 s (w+1))=wQ (gj E1 n1 (sf E1 s w)) (w:Int) (n1+(sf E1 s w).length):=by rw[eo,oD]
     have CZ:=rC n1 (sf E1 s w).length;generalize Vb:(sf E1 s w).length=c at *;have PU:ca (w:Int):=by unfold ca;omega
     have IE:ca (n1+(c:Int)):=by unfold ca;omega
     have Oj:=hE.put PU IE;have C5:=mN hE (w:Int) (n1+(c:Int)) PU IE;rw[<-Er]at Oj;have wv:=dG (n1+(c:Int)) ((C.set 0 (.aA 1 ((eW nx v).map aI) (.tok 10))).set 1 (.aA 4 (((eW n1 c).map sI).map Ins.enc) (.tok 9))) [.map (.int .i64) es,.spare c,.spare v] (by omega);have AX:(((eW n1 c).map sI).map Ins.enc).length=c:=by rw[List.length_map,List.length_map,jN]
     have u7:((eW n1 c).map sI).map Ins.enc++[.agg [aI (n1+(c:Int)),aI 0,aI 0,.aA 1 [] .sh]]=((eW n1 (c+1)).map sI).map Ins.enc:=by rw[CZ,List.map_append,List.map_append];rfl
     refine aQ ?_;simp -dsimp only[simprocAttr,↓aa,zp,C6];refine ai ?_;refine ay (ai ?_);refine cB rfl ?_;refine ay ?_;refine .inr (.inl ⟨_,_,wv,.inl (ao (zj ?_))⟩);refine ai ?_;refine jX ?_;simp -dsimp only[simprocAttr,↓aa,zp,L7,kY,C5,AX,C9,u7,gg,Option.getD_some,Int.toNat_natCast,Nat.mul_one]
     repeat(refine⟨by omega,?_⟩)
     refine⟨ob (by kernel_rfl),?_⟩;refine ai ?_;refine cM ?_
     repeat(refine⟨by omega,?_⟩)
     refine eZ ?_;refine⟨⟨⟨w+1,gf es (.int .i64 w) (.v (.int .i64 (n1+c)))⟩,IL,Oj⟩,by simp;omega,?_⟩;dsimp only;rw[AI];have IP:n1+((c+1:Nat):Int)=n1+(c:Int)+1:=by omega
     rw[IP];refine zq rfl ?_ ?_;simp -dsimp only[simprocAttr,↓aa,zp,zc]
     ·exact Sub.int (by simp)
     rfl
  refine aK ?_;simp -dsimp only[bI,ne_eq,Nat.reduceEqDiff,reduceCtorEq];have OK:w=s.length:=by have:=of_decide_eq_false h;omega
  subst OK;obtain⟨c,Q5⟩:∃c,c=(sf E1 s s.length).length:=⟨_,rfl⟩
  rw[<-Q5];have TG:((eW n1 c).map sI).length=c:=by rw[List.length_map,jN]
  refine dX (cs:=(C.set 0 (.aA 1 ((eW nx v).map aI) (.tok 10))).set 1 (.aA 4 (((eW n1 c).map sI).map Ins.enc) (.tok 9))) 5 ((C.set 0 (aJ (eW nx v))).set 1 (.aA 4 (((eW n1 c).map sI).map Ins.enc) (.tok 9))) rfl (by simp only[List.length_set]) (dM (dM LM trivial) trivial) (by rw[List.set_comm _ _ (by decide),List.set_comm (aJ _) _ (by decide)];exact tI fun _=>Sub.sh rfl) ?_;simp -dsimp only[simprocAttr,↓aa,zp];refine ay (ai ?_);refine aq ?_;simp -dsimp only[simprocAttr,↓aa,zp,zr,Tryz.results106];have bB:=AT (n1+(c:Int)) es _ (eW nx v) ((eW n1 c).map sI) hE;rw[TG]at bB;exact⟨bB,es,hE,rfl⟩
 cases h
theorem Fc(l:List Int):(l.map aI).map ae.share=l.map aI:=by
 rw[List.map_map];rfl
theorem uw(l:List Int)(hl:l.length<=2 ^ 43):bA Tryz.prog 36 [aJ l] (aJ l):=by
 have hs:=Fc l;refine zf true 0 Tryz.func36 Tryz.ntmps36 ?_;dsimp only[Tmp,TypeId,slotsOf];refine ay (ai ?_);refine Hu 0 rfl (fun hn=>?_) ?_
 ·simp -dsimp only[simprocAttr,↓aa,zp];refine bV (ai ?_);refine cB rfl ?_;refine ay (ai ?_);refine aq ?_;simp -dsimp only[simprocAttr,↓aa,zp,zr,Tryz.results36];exact⟨trivial,by show ae.aA 1 [] m9.sh=.aA 1 (l.map aI) .sh;rw[hn]⟩
 simp -dsimp only[simprocAttr,↓aa,zp];refine bV (ai ?_);refine cv rfl ?_;refine cj ?_;refine aQ ?_;simp -dsimp only[simprocAttr,↓aa,zp,hs]
 repeat(refine⟨by omega,?_⟩)
 refine ai ?_;refine aq ?_;simp -dsimp only[simprocAttr,↓aa,zp,zr,Tryz.results36]
theorem rJ{es:List (Value×ae)}{E:Env}(h:dN es E)(v:Int):(eY es (.int .i64 v)).getD ([ae.v (.int .i64 0)].getD 0 (.v (.bool false)))=aI (lC E v):=by
 have:=h.look v;rw[show eY es (.int .i64 v)=(E v).map aI from this];unfold lC;cases E v<;>rfl
theorem Ip{es:List (Value×ae)}{E:Env}(h:dN es E)(v:Int):ca (lC E v):=by
 unfold lC;cases hE:E v with
 | none=>unfold ca;simp
 | some x =>
  obtain⟨a,b,e,_,hf⟩:=h.fit _ (h.mem.1 hE);obtain⟨_,e⟩:=Prod.mk.inj e;injection e with e;injection e with _ e;simpa[e]using hf
def zQ(E:Env)(t:Term):Int:=if dI t=true then lC E t.arg else 0
def BB(C:List ae)(k:Nat)(ps:List Int)(is:List Ins)(t:Term)(arg:Int):List ae :=
 bh ((C.set (k*7) (aJ ps)).set (k*7+1) (a7 is)) (k*7+2) [aI t.kind,aI arg,aI t.n,aJ t.cases,.aA 2 [] .ex]
theorem N2{C:List ae}{k:Nat}{ps:List Int}{is:List Ins}{t:Term}{arg:Int}(hC:av 0 C):av 0 (BB C k ps is t arg):=by
 have h:=gF (i:=k*7+1) (x:=a7 is) (gF (i:=k*7) (x:=aJ ps) hC (show ae.upto 0 (aJ ps) from⟨ax _ _,trivial⟩)) (show ae.upto 0 (a7 is) from⟨Ins.ag _ _,trivial⟩);rw[aT]at h ⊢;intro x hx;unfold BB bh at hx;rcases List.mem_append.1 hx with q|q
 ·exact h x (List.mem_of_mem_take q)
 rcases List.mem_append.1 q with q|q
 ·simp only[List.mem_cons,List.not_mem_nil,or_false]at q;rcases q with rfl|rfl|rfl|rfl|rfl
  ·trivial
  ·trivial
  ·trivial
  ·exact⟨ax _ _,trivial⟩
  exact⟨trivial,trivial⟩
 exact h x (List.mem_of_mem_drop q)
theorem Fb{C:List ae}{k:Nat}{ps:List Int}{is:List Ins}{t:Term}{arg:Int}(hC:∀d∈C,d.scalar):∀d∈BB C k ps is t arg,d.scalar:=by
 have h:=dM (i:=k*7+1) (x:=a7 is) (dM (i:=k*7) (x:=aJ ps) hC trivial) trivial;intro x hx;unfold BB bh at hx;rcases List.mem_append.1 hx with q|q
 ·exact h x (List.mem_of_mem_take q)
 rcases List.mem_append.1 q with q|q
 ·simp only[List.mem_cons,List.not_mem_nil,or_false]at q;rcases q with rfl|rfl|rfl|rfl|rfl<;>trivial
 exact h x (List.mem_of_mem_drop q)
structure Bz where
 m:Nat
 es:List (Value×ae)
 E:Env
 nx:Int
 is:List Ins
theorem BS{g:Func}{ord:List Int}{inn:List (List Int)}{N:List (List Bool)}{nx Gu:Int}{n k many:Nat}{C A:List ae}{b:Block}{ps:List Int}{KY:List Ins}{E0:Env}(It:av 0 C)(Is:av 0 A)
  (hw:Ru g many) (hC:C.length=n*7) (hA:A.length=n) (LM:∀d∈C,d.scalar) (hk:k<n) (hn:n<=128) (hb:g.blocks[k]?=some b) (gg:b.term.cases.length<=4096)
  (PH:∀i∈b.ins,i.op=100->i.args.length=1) (Mh:0<=Gu∧Gu<=2 ^ 31) (BZ:KY.length<=4096)
  (LS:bd Tryz.prog 106 (mC g ord inn N nx n C A) [.mp 7 0,aI k] (fun r O'=>∃es,r=.mm 8∧dN es E0∧O'=mC g ord inn N Gu n (CB C k ps KY) A++[.map (.int .i64) es,.spare KY.length])) :
  bd Tryz.prog 73 (mC g ord inn N nx n C A) [.mp 7 0,aI k] (fun r O'=>r=.cw []∧∃es,dN es (il E0 Gu b.ins).1 ∧
   O'=mC g ord inn N (il E0 Gu b.ins).2.1 n (BB C k ps (KY++(il E0 Gu b.ins).2.2) b.term (zQ (il E0 Gu b.ins).1 b.term)) (A.set k (.im (.int .i64) es))):=by
 obtain⟨Xj,Vr⟩:=hw.ins b (List.mem_of_getElem? hb);obtain⟨q,hq⟩:∃q,q=il E0 Gu b.ins:=⟨_,rfl⟩
 obtain⟨E',ZR,XM⟩:=q;rw[<-hq];have Uo:k*7<C.length:=by omega
 have EA:k*7+1<C.length:=by omega
 have kY:∀x y:ae,((C.set (k*7) x).set (k*7+1) y)[k*7+1]?=some y:=fun x y=>List.getElem?_set_self (by simpa using EA);have LU:∀x y:ae,((C.set (k*7) x).set (k*7+1) y).length=n*7:=fun x y=>by rw[List.length_set,List.length_set,hC]
 have C9:∀x y z:ae,bh ((C.set (k*7) x).set (k*7+1) y) (k*7+1) [z]=(C.set (k*7) x).set (k*7+1) z:=fun x y z=>by
  rw[cA _ (by simpa using EA),List.set_set]
 have dG:∀(x:Int) (C':List ae) (X:List ak),0<=x∧x<=2 ^ 40->bd Tryz.prog 107 (mC g ord inn N x n C' A++X) [.mp 7 0] (fun r O'=>r=aI x∧O'=mC g ord inn N (x+1) n C' A++X):=fun x C' X hx=>oz rfl hx;have F7:=fun(x:Int) (es:List (Value×ae)) (E:Env) (z:List Ins) (hE:dN es E)=>Eg (g:=g) (ord:=ord) (inn:=inn) (N:=N) (n:=n) (k:=k) It Is x es E ps z hE;unfold mC wC at dG F7 LS;unfold CB at F7 LS;unfold mC wC;have gi:8<=8:=by omega
 refine dj hT true (8) Tryz.func73 rfl (by kernel_rfl) (by simp[Tryz.ntmps73]) (by assumption) ?_;show bX Tryz.prog _ _ _ ⟨130,_,_⟩;dsimp only[Tmp,TypeId,slotsOf];refine aH (jJ ⟨false,false⟩ hT 2 rfl rfl rfl (by simp) ?_);simp -dsimp only[simprocAttr,↓aa,zp];refine⟨_,lh rfl (by simp) rfl rfl LS,fun r O' hR=>?_⟩;obtain⟨es,hr,hE,hO⟩:=hR;subst hr;subst hO;simp -dsimp only[simprocAttr,↓aa,zp];refine ai ?_;refine aQ ?_;simp -dsimp only[simprocAttr,↓aa,zp,hb]
 repeat(refine⟨by omega,?_⟩)
 refine ai ?_;refine aC 5 10 (.ip none [aJ b.params,a7 b.ins,aI b.term.kind,aI b.term.arg,aI b.term.n,aJ b.term.cases,aG b.term.to]) rfl (by simp[ak.aD]) trivial rfl ?_ ?_;rotate_left;simp -dsimp only[simprocAttr,↓aa,zp];rotate_left
 ·exact bM.mp rfl rfl
 refine bp 10 [(0,.mp 7 0),(1,aI k),(4,.mm 8),(5,.ip none [aJ b.params,a7 b.ins,aI b.term.kind,aI b.term.arg,aI b.term.n,aJ b.term.cases,aG b.term.to])] (by simp) (by omega) [.gone,.cells [aI 0,.aA 7 [] .ex],.gone,.gone,.gone,.cells ((C.set (k*7) (aJ ps)).set (k*7+1) (.aA 4 (KY.map Ins.enc) (.tok 9))),.cells A,.cells [aI g.name,aw g.blocks,aJ ord,.aA 1 (inn.map aJ) .sh,.aA 1 (N.map eG) .sh,aI Gu,aI g.name,.ms 5 0 n n,.ms 6 0 n n],.map (.int .i64) es,.spare KY.length] ?_ ?_ ?_ ?_ ?_
 ·rfl
 ·exact F7 Gu es E0 KY hE
 ·simp[eQ,St.get,bw,a8,Go.Av.look,Sub.refl]
 ·simp[ak.upto,av,ae.upto,ax,Func.ag,Block.ag,Edge.ag,Ins.ag]
 refine bV (ai ?_);obtain⟨uy,CY⟩:∃uy,uy=b.ins.length:=⟨_,rfl⟩
 refine ah (aL (ι:={X:Bz // X.m<=uy∧dN X.es X.E∧(∃rest,il X.E X.nx (b.ins.drop X.m)=(E',ZR,rest)∧X.is++rest=KY++XM)∧Gu<=X.nx∧X.nx<=Gu+X.m∧X.is.length<=KY.length+X.m}) (fun X=>⟨130,[(0,.mp 7 0),(1,aI k),(4,.mm 8),(5,.ip none [aJ b.params,a7 b.ins,aI b.term.kind,aI b.term.arg,aI b.term.n,aJ b.term.cases,aG b.term.to]),(25,a7 b.ins),(26,aI uy),(27,aI X.1.m)],[.gone,.cells [aI 0,.aA 7 [] .ex],.gone,.gone,.gone,.cells ((C.set (k*7) (aJ ps)).set (k*7+1) (.aA 4 (X.1.is.map Ins.enc) (.tok 9))),.cells A,.cells [aI g.name,aw g.blocks,aJ ord,.aA 1 (inn.map aJ) .sh,.aA 1 (N.map eG) .sh,aI X.1.nx,aI g.name,.ms 5 0 n n,.ms 6 0 n n],.map (.int .i64) X.1.es,.spare X.1.is.length]⟩) (fun X=>uy-X.1.m) ⟨⟨0,es,E0,Gu,KY⟩,Nat.zero_le _,hE,⟨XM,by rw[List.drop_zero];exact hq.symm,rfl⟩,Int.le_refl _,by simp,by simp⟩ ?_ ?_)
 ·refine zq rfl ?_ ?_;simp -dsimp only[simprocAttr,↓aa,zp,zc]
  all_goals first|rfl|(rw[CY];exact Sub.refl _)
 clear hE;clear es;rintro⟨⟨m,es,E,x,is⟩,dS,hE,⟨rest,cG,II⟩,Rl,KX,SH⟩;simp only at dS hE cG II Rl KX SH;refine ay (ai ?_);apply gJ rfl<;>intro h
 ·refine cj ?_;have Uq:m<uy:=by simpa using h
  obtain⟨i,hi⟩:∃i,b.ins[m]?=some i:=⟨b.ins[m]'(by omega),List.getElem?_eq_getElem _⟩
  obtain⟨PW,KQ,YW⟩:=Vr i (List.mem_of_getElem? hi);rw[bK hi]at cG;simp only[il]at cG;obtain⟨ys,A2⟩:∃ys,ys=i.args.map (lC E):=⟨_,rfl⟩
  have V5:ys.length=i.args.length:=by rw[A2,List.length_map]
  rw[<-A2]at cG;refine aH (ah ?_);refine aQ ?_;simp -dsimp only[simprocAttr,↓aa,zp,hi];refine ai ?_;refine aC 7 10 (.ip none [aI i.to,aI i.op,aI i.n,aJ i.args]) rfl (by simp[ak.aD]) trivial rfl ?_ ?_;rotate_left;simp -dsimp only[simprocAttr,↓aa,zp];rotate_left
  ·exact bM.mp rfl rfl
  refine bp 10 [(0,.mp 7 0),(1,aI k),(4,.mm 8),(5,.ip none [aJ b.params,a7 b.ins,aI b.term.kind,aI b.term.arg,aI b.term.n,aJ b.term.cases,aG b.term.to]),(25,a7 b.ins),(26,aI uy),(27,aI m),(7,.ip none [aI i.to,aI i.op,aI i.n,aJ i.args])] (by simp) (by omega) [.gone,.cells [aI 0,.aA 7 [] .ex],.gone,.gone,.gone,.cells ((C.set (k*7) (aJ ps)).set (k*7+1) (.aA 4 (is.map Ins.enc) (.tok 9))),.cells A,.cells [aI g.name,aw g.blocks,aJ ord,.aA 1 (inn.map aJ) .sh,.aA 1 (N.map eG) .sh,aI x,aI g.name,.ms 5 0 n n,.ms 6 0 n n],.map (.int .i64) es,.spare is.length] ?_ ?_ ?_ ?_ ?_
  ·rfl
  ·exact F7 x es E is hE
  ·simp[eQ,St.get,bw,a8,Go.Av.look,Sub.refl]
  ·simp[ak.upto,av,ae.upto,ax,Func.ag,Block.ag,Edge.ag,Ins.ag]
  refine ay (ai ?_);refine Ld 8 rfl ?_;simp -dsimp only[simprocAttr,↓aa,zp];refine bV (ai ?_);refine ah (aL (ι:={z:Nat // z<=i.args.length}) (fun z=>⟨130,[(0,.mp 7 0),(1,aI k),(4,.mm 8),(5,.ip none [aJ b.params,a7 b.ins,aI b.term.kind,aI b.term.arg,aI b.term.n,aJ b.term.cases,aG b.term.to]),(25,a7 b.ins),(26,aI uy),(27,aI m),(7,.ip none [aI i.to,aI i.op,aI i.n,aJ i.args]),(8,.aA 1 ((ys.take z.1).map aI) (.tok 10)),(32,aJ i.args),(33,aI i.args.length),(34,aI z.1)],[.gone,.cells [aI 0,.aA 7 [] .ex],.gone,.gone,.gone,.cells ((C.set (k*7) (aJ ps)).set (k*7+1) (.aA 4 (is.map Ins.enc) (.tok 9))),.cells A,.cells [aI g.name,aw g.blocks,aJ ord,.aA 1 (inn.map aJ) .sh,.aA 1 (N.map eG) .sh,aI x,aI g.name,.ms 5 0 n n,.ms 6 0 n n],.map (.int .i64) es,.spare is.length,.spare z.1]⟩) (fun z=>i.args.length-z.1) ⟨0,Nat.zero_le _⟩ ?_ ?_)
  ·refine zq rfl ?_ ?_;simp -dsimp only[simprocAttr,↓aa,zp,zc]
   all_goals rfl
  rintro⟨z,hz⟩;refine ay (ai ?_);apply gJ rfl<;>intro h
  ·refine cj ?_;have vQ:z<i.args.length:=by simpa using h
   obtain⟨v,hv⟩:∃v,i.args[z]?=some v:=⟨i.args[z],by simp[vQ]⟩
   have ZJ:(ys.take (z+1)).map aI=(ys.take z).map aI++[aI (lC E v)]:=by
    rw[List.take_add_one,A2,List.getElem?_map,hv];simp
   have V4:((ys.take z).map aI).length=z:=by rw[List.length_map,List.length_take];omega
   have Hb:=rJ hE v;refine aH (ah ?_);refine aQ ?_;simp -dsimp only[simprocAttr,↓aa,zp,hv];refine ai ?_;refine jX ?_;simp -dsimp only[simprocAttr,↓aa,zp,Hb,V4,<-ZJ]
   repeat(refine⟨by omega,?_⟩)
   refine ai ?_;refine cM ?_
   repeat(refine⟨by omega,?_⟩)
   refine eZ ?_;refine⟨⟨z+1,vQ⟩,by simp;omega,?_⟩;dsimp only;refine zq rfl ?_ ?_;simp -dsimp only[simprocAttr,↓aa,zp,zc]
   ·exact Sub.int (by simp)
   rfl
  refine aK ?_;simp -dsimp only[bI,ne_eq,Nat.reduceEqDiff,reduceCtorEq];have Gb:i.args.length<=z:=by simpa using h
  rw[List.take_of_length_le (by omega)];by_cases kH:i.op=100
  ·have d100:decide (i.op=100)=true:=decide_eq_true kH;rw[if_pos kH]at cG;have AI:=PH i (List.mem_of_getElem? hi) kH;have ZI:(ys.map aI)[0]?=some (aI (ys.headD 0)):=by
    match ys,V5 with
    | [],q=>rw[AI]at q;cases q
    | y::r,_=>rfl
   refine c7 ?_;simp -dsimp only[simprocAttr,↓aa,zp,d100];refine ai ?_;refine cB rfl ?_;refine aQ ?_;simp -dsimp only[simprocAttr,↓aa,zp,ZI]
   repeat(refine⟨by omega,?_⟩)
   refine⟨ob (by kernel_rfl),?_⟩;refine ai ?_;refine aK ?_;simp -dsimp only[bI,ne_eq,Nat.reduceEqDiff,reduceCtorEq];have YR:ca (ys.headD 0):=by
    cases ys with
    | nil=>unfold ca;simp
    | cons y r =>
     obtain⟨v,_,e⟩:=List.mem_map.1 (A2 ▸ List.mem_cons_self:y∈i.args.map (lC E));rw[<-e];exact Ip hE v
   have Ui:ca i.to:=by
    have:=PW;have:=hw.N9;unfold G3 at *;unfold ca;omega
   have Er:=hE.put Ui YR;have fb:=F7 x _ _ is Er;refine bp 10 [(0,.mp 7 0),(1,aI k),(4,.mm 8),(5,.ip none [aJ b.params,a7 b.ins,aI b.term.kind,aI b.term.arg,aI b.term.n,aJ b.term.cases,aG b.term.to]),(25,a7 b.ins),(26,aI uy),(27,aI m)] (by simp) (by omega) [.gone,.cells [aI 0,.aA 7 [] .ex],.gone,.gone,.gone,.cells ((C.set (k*7) (aJ ps)).set (k*7+1) (.aA 4 (is.map Ins.enc) (.tok 9))),.cells A,.cells [aI g.name,aw g.blocks,aJ ord,.aA 1 (inn.map aJ) .sh,.aA 1 (N.map eG) .sh,aI x,aI g.name,.ms 5 0 n n,.ms 6 0 n n],.map (.int .i64) (gf es (.int .i64 i.to) (.v (.int .i64 (ys.headD 0)))),.spare is.length] ?_ ?_ ?_ ?_ ?_
   ·rfl
   ·exact fb
   ·simp[eQ,St.get,bw,a8,Go.Av.look,Sub.refl]
   ·simp[ak.upto,av,ae.upto,ax,Func.ag,Block.ag,Edge.ag,Ins.ag]
   refine cM ?_
   repeat(refine⟨by omega,?_⟩)
   refine eZ ?_;refine⟨⟨⟨m+1,_,_,x,is⟩,Uq,Er,⟨rest,cG,II⟩,Rl,by simp only;omega,by simp only;omega⟩,by simp;omega,?_⟩;dsimp only;refine zq rfl ?_ ?_;simp -dsimp only[simprocAttr,↓aa,zp,zc]
   ·exact Sub.int (by simp)
   rfl
  have d100:decide (i.op=100)=false:=decide_eq_false kH;rw[if_neg kH]at cG;refine c7 ?_;simp -dsimp only[simprocAttr,↓aa,zp,d100];refine ai ?_;refine cv rfl ?_;refine cj ?_;have wv:=dG x ((C.set (k*7) (aJ ps)).set (k*7+1) (.aA 4 (is.map Ins.enc) (.tok 9))) [.map (.int .i64) es,.spare is.length,.spare z] (by omega);refine ay ?_;refine .inr (.inl ⟨_,_,wv,.inl (ao (zj ?_))⟩);refine⟨ob (by kernel_rfl),?_⟩;refine ai ?_;have IE:ca x:=by unfold ca;omega
  have Ui:ca i.to:=by
   have:=PW;have:=hw.N9;unfold G3 at *;unfold ca;omega
  have Er:=hE.put Ui IE;have C5:=mN hE i.to x Ui IE;have AX:(is.map Ins.enc).length=is.length:=List.length_map _;have u7:is.map Ins.enc++[.agg [aI x,aI i.op,aI i.n,.aA 1 (ys.map aI) .sh]]=(is++[(⟨x,i.op,i.n,ys⟩:Ins)]).map Ins.enc:=by rw[List.map_append];rfl
  have fb:=F7 (x+1) _ _ (is++[(⟨x,i.op,i.n,ys⟩:Ins)]) Er;rw[List.length_append]at fb;refine jX ?_;simp -dsimp only[simprocAttr,↓aa,zp,kY,C5,AX,C9,u7,LU,Option.getD_some,Int.toNat_natCast,Nat.mul_one]
  repeat(refine⟨by omega,?_⟩)
  refine⟨ob (by kernel_rfl),?_⟩;refine ai ?_;refine bp 10 [(0,.mp 7 0),(1,aI k),(4,.mm 8),(5,.ip none [aJ b.params,a7 b.ins,aI b.term.kind,aI b.term.arg,aI b.term.n,aJ b.term.cases,aG b.term.to]),(25,a7 b.ins),(26,aI uy),(27,aI m)] (by simp) (by omega) [.gone,.cells [aI 0,.aA 7 [] .ex],.gone,.gone,.gone,.cells ((C.set (k*7) (aJ ps)).set (k*7+1) (.aA 4 ((is++[(⟨x,i.op,i.n,ys⟩:Ins)]).map Ins.enc) (.tok 9))),.cells A,.cells [aI g.name,aw g.blocks,aJ ord,.aA 1 (inn.map aJ) .sh,.aA 1 (N.map eG) .sh,aI (x+1),aI g.name,.ms 5 0 n n,.ms 6 0 n n],.map (.int .i64) (gf es (.int .i64 i.to) (.v (.int .i64 x))),.spare (is.length+1)] ?_ ?_ ?_ ?_ ?_
  ·rfl
  ·exact fb
  ·simp[eQ,St.get,bw,a8,Go.Av.look,Sub.refl]
  ·simp[ak.upto,av,ae.upto,ax,Func.ag,Block.ag,Edge.ag,Ins.ag]
  refine cM ?_
  repeat(refine⟨by omega,?_⟩)
  refine eZ ?_;refine⟨⟨⟨m+1,_,_,x+1,is++[(⟨x,i.op,i.n,ys⟩:Ins)]⟩,Uq,Er,⟨(il (wQ E i.to x) (x+1) (b.ins.drop (m+1))).2.2,?_,?_⟩,by simp only;omega,by simp only;omega,by simp;omega⟩,by simp;omega,?_⟩
  ·simp only[Prod.mk.injEq]at cG;obtain⟨h1,h2,_⟩:=cG;show il (wQ E i.to x) (x+1) (b.ins.drop (m+1))=_;rw[<-h1,<-h2]
  ·simp only[Prod.mk.injEq]at cG;simp only[List.append_assoc,List.singleton_append,cG.2.2,II]
  dsimp only;rw[List.length_append,List.length_singleton];refine zq rfl ?_ ?_;simp -dsimp only[simprocAttr,↓aa,zp,zc]
  ·exact Sub.int (by simp)
  rfl
 refine aK ?_;simp -dsimp only[bI,ne_eq,Nat.reduceEqDiff,reduceCtorEq];have VF:m=uy:=by have:=of_decide_eq_false h;omega
 subst VF;rw[List.drop_of_length_le (by omega)]at cG;simp only[il,Prod.mk.injEq]at cG;obtain⟨e1,e2,e3⟩:=cG;subst e1;subst e2;subst e3;rw[List.append_nil]at II;rw[<-II];have Vf:=uw b.term.cases (by omega);have Hb:=rJ hE b.term.arg;refine ay ?_;refine .inl ⟨_,Vf,by simp only[av,ae.upto,zt,zu,ax,eI],ao ?_⟩;simp -dsimp only[simprocAttr,↓aa,zp];refine⟨ob (by kernel_rfl),?_⟩;refine ai ?_;refine fY (⟨130,[(0,.mp 7 0),(1,aI k),(4,.mm 8),(11,.mp 10 0)],[.gone,.cells [aI 0,.aA 7 [] .ex],.gone,.gone,.gone,.cells ((C.set (k*7) (aJ ps)).set (k*7+1) (.aA 4 (is.map Ins.enc) (.tok 9))),.cells A,.cells [aI g.name,aw g.blocks,aJ ord,.aA 1 (inn.map aJ) .sh,.aA 1 (N.map eG) .sh,aI x,aI g.name,.ms 5 0 n n,.ms 6 0 n n],.map (.int .i64) es,.spare is.length,.cells [aI b.term.kind,aI (zQ E b.term),aI b.term.n,aJ b.term.cases,.aA 2 [] .ex]]⟩) ?_ ?_
 ·obtain⟨uk,Mn⟩:∃uk,uk=dI b.term:=⟨_,rfl⟩
  unfold zQ;rw[<-Mn];by_cases k1:b.term.kind=1
  ·have d1:decide (b.term.kind=1)=true:=decide_eq_true k1;have hu:uk=false:=by rw[Mn];simp[dI,k1]
   rw[hu,if_neg (by decide)];refine aQ ?_;simp -dsimp only[simprocAttr,↓aa,zp,d1];refine ai ?_;refine cv rfl ?_;refine aX ?_;show ba _ _;refine zq rfl ?_ ?_;simp -dsimp only[simprocAttr,↓aa,zp,zc]
   all_goals rfl
  have d1:decide (b.term.kind=1)=false:=decide_eq_false k1;by_cases k4:b.term.kind=4
  ·have d4:decide (b.term.kind=4)=true:=decide_eq_true k4;have hu:uk=false:=by rw[Mn];simp[dI,k4]
   rw[hu,if_neg (by decide)];refine aQ ?_;simp -dsimp only[simprocAttr,↓aa,zp,d1,d4];refine ai ?_;refine cv rfl ?_;refine aX ?_;show ba _ _;refine zq rfl ?_ ?_;simp -dsimp only[simprocAttr,↓aa,zp,zc]
   all_goals rfl
  have d4:decide (b.term.kind=4)=false:=decide_eq_false k4;have hu:uk=true:=by rw[Mn];simp[dI,k1,k4]
  rw[hu,if_pos rfl];refine aQ ?_;simp -dsimp only[simprocAttr,↓aa,zp,d1,d4];refine ai ?_;refine cB rfl ?_;refine eC hT hm ?_;simp -dsimp only[simprocAttr,↓aa,zp,Hb];refine a6 ?_;show ba _ _;refine zq rfl ?_ ?_;simp -dsimp only[simprocAttr,↓aa,zp,zc]
  all_goals rfl
 refine dX (cs:=(C.set (k*7) (aJ ps)).set (k*7+1) (.aA 4 (is.map Ins.enc) (.tok 9))) 5 ((C.set (k*7) (aJ ps)).set (k*7+1) (a7 is)) rfl (by simp only[List.length_set]) (dM (dM LM trivial) trivial) (tI fun _=>Sub.sh rfl) ?_;simp -dsimp only[simprocAttr,↓aa,zp];refine aQ ?_;simp -dsimp only[simprocAttr,↓aa,zp,LU,Int.toNat_natCast,Nat.mul_one]
 repeat(refine⟨by omega,?_⟩)
 refine⟨ob (by kernel_rfl),?_⟩;refine ai ?_;refine aC 4 8 (.im (.int .i64) es) rfl (by simp[ak.aD]) trivial rfl (bM.mm rfl) ?_;simp -dsimp only[simprocAttr,↓aa,zp];have Zn:∀y:ae,bh A k [y]=A.set k y:=fun y=>cA y (by omega);have IZ:=yt (g:=g) (ord:=ord) (inn:=inn) (N:=N) (nx:=x) (n:=n) (m:=8) (dq (Nat.zero_le _) _ (N2 (k:=k) (ps:=ps) (is:=is) (t:=b.term) (arg:=zQ E b.term) It)) (gF (i:=k) (x:=.im (.int .i64) es) Is (hE.upto 0)) (Nat.le_refl _);unfold mC wC at IZ;refine jX ?_;simp -dsimp only[simprocAttr,↓aa,zp,hA,Zn,Int.toNat_natCast,Nat.mul_one]
 repeat(refine⟨by omega,?_⟩)
 refine a6 ?_;simp -dsimp only[simprocAttr,↓aa,zp,zr,Tryz.results73];exact⟨IZ,trivial,es,hE,rfl⟩
def G7(inn:List (List Int))(N:List (List Bool))(E:Env)(e:Edge):Edge :=
 ⟨e.block,if 1<(inn.getD e.block.toNat []).length then(cC 0 (N.getD e.block.toNat [])).map (lC E)else []⟩
theorem BT{g:Func}{ord:List Int}{inn:List (List Int)}{N:List (List Bool)}{nx:Int}{n k many:Nat}{C A:List ae}{b:Block}{es:List (Value×ae)}{E:Env}(It:av 0 C)(Is:av 0 A)
  (hw:Ru g many) (hC:C.length=n*7) (hA:A.length=n) (LM:∀d∈C,d.scalar) (hk:k<n) (hn:n<=128) (Xi:g.blocks.length=n) (hb:g.blocks[k]?=some b)
  (BZ:inn.length=n) (Z9:N.length=n) (Yk:∀s∈N,s.length<=4096) (Y4:∀l∈inn,l.length<=2 ^ 30) (Yv:A[k]?=some (.im (.int .i64) es)) (hE:dN es E) (Vc:C[k*7+6]?=some (.aA 2 [] .ex)) :
  bd Tryz.prog 74 (mC g ord inn N nx n C A) [.mp 7 0,aI k] (fun r O'=>r=.cw []∧O'=mC g ord inn N nx n (C.set (k*7+6) (aG (b.term.to.map (G7 inn N E)))) A):=by
 obtain⟨jc,Zy⟩:=hw.to b (List.mem_of_getElem? hb);obtain⟨T,Ub⟩:∃T,T=b.term.to.map (G7 inn N E):=⟨_,rfl⟩
 have Uc:T.length=b.term.to.length:=by rw[Ub,List.length_map]
 have U2:∀(z:Nat) e,b.term.to[z]?=some e->T[z]?=some (G7 inn N E e):=fun z e he=>by
  rw[Ub,List.getElem?_map,he];rfl
 rw[<-Ub];clear Ub;have Xl:k*7+6<C.length:=by omega
 have YS:∀x:ae,(C.set (k*7+6) x)[k*7+6]?=some x:=fun x=>List.getElem?_set_self Xl;have LU:∀x:ae,(C.set (k*7+6) x).length=n*7:=fun x=>by rw[List.length_set,hC]
 have Zm:∀x z:ae,bh (C.set (k*7+6) x) (k*7+6) [z]=C.set (k*7+6) z:=fun x z=>by
  rw[cA _ (by simpa using Xl),List.set_set]
 have Qh:∀(l:List Edge),∀o∈mC g ord inn N nx n (C.set (k*7+6) (.aA 2 (l.map Edge.enc) (.tok 8))) A++[.spare l.length],o.upto 9:=fun l o ho=>by
  rcases List.mem_append.1 ho with q|q
  ·exact yt (gF (dq (Nat.zero_le _) _ It) (show ae.upto 9 (.aA 2 (l.map Edge.enc) (.tok 8)) from⟨Edge.ag _ _,by decide⟩)) Is (by omega) o q
  rw[List.mem_singleton.1 q];trivial
 have IZ:=yt (g:=g) (ord:=ord) (inn:=inn) (N:=N) (nx:=nx) (n:=n) (m:=8) (dq (Nat.zero_le _) _ (gF (i:=k*7+6) (x:=aG T) It (show ae.upto 0 (aG T) from⟨Edge.ag _ _,trivial⟩))) Is (Nat.le_refl _);unfold mC wC at Qh IZ ⊢;have gi:8<=8:=by omega
 refine dj hT true (8) Tryz.func74 rfl (by kernel_rfl) (by simp[Tryz.ntmps74]) (by assumption) ?_;show bX Tryz.prog _ _ _ ⟨92,_,_⟩;dsimp only[Tmp,TypeId,slotsOf];refine cY 5 (k*7+6) rfl Vc ?_;simp -dsimp only[simprocAttr,↓aa,zp];refine aQ ?_;simp -dsimp only[simprocAttr,↓aa,zp,hb]
 repeat(refine⟨by omega,?_⟩)
 refine ai ?_;obtain⟨uy,CY⟩:∃uy,uy=b.term.to.length:=⟨_,rfl⟩
 refine ah (aL (ι:={z:Nat // z<=uy}) (fun z=>⟨92,[(0,.mp 7 0),(1,aI k),(19,aG b.term.to),(20,aI uy),(21,aI z.1)],[.gone,.cells [aI 0,.aA 7 [] .ex],.gone,.gone,.gone,.cells (C.set (k*7+6) (.aA 2 ((T.take z.1).map Edge.enc) (.tok 8))),.cells A,.cells [aI g.name,aw g.blocks,aJ ord,.aA 1 (inn.map aJ) .sh,.aA 1 (N.map eG) .sh,aI nx,aI g.name,.ms 5 0 n n,.ms 6 0 n n],.spare z.1]⟩) (fun z=>uy-z.1) ⟨0,Nat.zero_le _⟩ ?_ ?_)
 ·refine zq rfl ?_ ?_;simp -dsimp only[simprocAttr,↓aa,zp,zc]
  all_goals first|rfl|(rw[CY];exact Sub.refl _)
 rintro⟨z,hz⟩;refine ay (ai ?_);apply gJ rfl<;>intro h
 ·refine cj ?_;have vQ:z<uy:=by simpa using h
  obtain⟨e,he⟩:∃e,b.term.to[z]?=some e:=⟨b.term.to[z]'(by omega),List.getElem?_eq_getElem _⟩
  obtain⟨qL,W7,he3⟩:=Zy e (List.mem_of_getElem? he);obtain⟨j,hj⟩:∃j:Nat,e.block=(j:Int):=⟨e.block.toNat,by omega⟩
  obtain⟨is,hi⟩:∃is,inn[j]?=some is:=⟨inn[j]'(by omega),List.getElem?_eq_getElem _⟩
  obtain⟨s,hs⟩:∃s,N[j]?=some s:=⟨N[j]'(by omega),List.getElem?_eq_getElem _⟩
  have ng:=Yk s (List.mem_of_getElem? hs);have SH:=Y4 is (List.mem_of_getElem? hi);have PX:(inn.map aJ)[j]?=some (aJ is):=by rw[List.getElem?_map,hi];rfl
  have Tn:(N.map eG)[j]?=some (.aA 1 (s.map eB) .sh):=by rw[List.getElem?_map,hs];rfl
  obtain⟨ys,A2⟩:∃ys,ys=if 1<is.length then(cC 0 s).map (lC E)else []:=⟨_,rfl⟩
  have YM:G7 inn N E e=⟨(j:Int),ys⟩:=by
   rw[A2];unfold G7;rw[hj,Int.toNat_natCast,List.getD_eq_getElem?_getD,List.getD_eq_getElem?_getD,hi,hs];rfl
  have eo:(T.take (z+1)).map Edge.enc=(T.take z).map Edge.enc++[.agg [aI (j:Int),.aA 1 (ys.map aI) .sh]]:=by
   rw[List.take_add_one,U2 z e he,YM,List.map_append];rfl
  have V0:((T.take z).map Edge.enc).length=z:=by rw[List.length_map,List.length_take];omega
  have dT:=Qh (T.take z);have fb:=Qh (T.take (z+1));rw[show(T.take z).length=z by rw[List.length_take];omega]at dT;rw[show(T.take (z+1)).length=z+1 by rw[List.length_take];omega]at fb;generalize (T.take z).map Edge.enc=TZ at *;refine aH (ah ?_);refine aQ ?_;simp -dsimp only[simprocAttr,↓aa,zp,he];refine ai ?_;refine aC 5 9 (.ip none [aI e.block,aJ e.args]) rfl (by simp[ak.aD]) trivial rfl ?_ ?_;rotate_left;simp -dsimp only[simprocAttr,↓aa,zp];rotate_left
  ·exact bM.mp rfl rfl
  refine bp 9 [(0,.mp 7 0),(1,aI k),(19,aG b.term.to),(20,aI uy),(21,aI z),(5,.ip none [aI e.block,aJ e.args])] (by simp) (by omega) [.gone,.cells [aI 0,.aA 7 [] .ex],.gone,.gone,.gone,.cells (C.set (k*7+6) (.aA 2 TZ (.tok 8))),.cells A,.cells [aI g.name,aw g.blocks,aJ ord,.aA 1 (inn.map aJ) .sh,.aA 1 (N.map eG) .sh,aI nx,aI g.name,.ms 5 0 n n,.ms 6 0 n n],.spare z] ?_ ?_ ?_ ?_ ?_
  ·rfl
  ·exact dT
  ·simp[eQ,St.get,bw,a8,Go.Av.look,Sub.refl]
  ·simp[ak.upto,av,ae.upto,ax,Func.ag,Block.ag,Edge.ag,Ins.ag]
  refine aQ ?_;simp -dsimp only[simprocAttr,↓aa,zp,hj];refine ai ?_;refine cY 9 1 rfl rfl ?_;simp -dsimp only[simprocAttr,↓aa,zp];refine fY (⟨92,[(0,.mp 7 0),(1,aI k),(19,aG b.term.to),(20,aI uy),(21,aI z),(6,.mp 9 0)],[.gone,.cells [aI 0,.aA 7 [] .ex],.gone,.gone,.gone,.cells (C.set (k*7+6) (.aA 2 TZ (.tok 8))),.cells A,.cells [aI g.name,aw g.blocks,aJ ord,.aA 1 (inn.map aJ) .sh,.aA 1 (N.map eG) .sh,aI nx,aI g.name,.ms 5 0 n n,.ms 6 0 n n],.spare z,.cells [aI j,.aA 1 (ys.map aI) (.tok 10)],.spare ys.length]⟩) ?_ ?_
  ·by_cases hq:1<is.length
   ·have d:decide ((1:Int)<is.length)=true:=decide_eq_true (by omega);rw[if_pos hq]at A2;refine aQ ?_;simp -dsimp only[simprocAttr,↓aa,zp,hj,PX,d,Int.toNat_natCast,Nat.mul_one]
    repeat(refine⟨by omega,?_⟩)
    refine⟨ob (by kernel_rfl),?_⟩;refine ai ?_;apply aN rfl<;>intro h
    ·refine aQ ?_;simp -dsimp only[simprocAttr,↓aa,zp,hj,Tn,Int.toNat_natCast,Nat.mul_one]
     repeat(refine⟨by omega,?_⟩)
     refine⟨ob (by kernel_rfl),?_⟩;refine ai ?_;refine ah (aL (ι:={v:Nat // v<=s.length}) (fun v=>⟨92,[(0,.mp 7 0),(1,aI k),(19,aG b.term.to),(20,aI uy),(21,aI z),(6,.mp 9 0),(46,.aA 1 (s.map eB) .sh),(47,aI s.length),(48,aI v.1)],[.gone,.cells [aI 0,.aA 7 [] .ex],.gone,.gone,.gone,.cells (C.set (k*7+6) (.aA 2 TZ (.tok 8))),.cells A,.cells [aI g.name,aw g.blocks,aJ ord,.aA 1 (inn.map aJ) .sh,.aA 1 (N.map eG) .sh,aI nx,aI g.name,.ms 5 0 n n,.ms 6 0 n n],.spare z,.cells [aI j,.aA 1 (((cC 0 (s.take v.1)).map (lC E)).map aI) (.tok 10)],.spare (cC 0 (s.take v.1)).length]⟩) (fun v=>s.length-v.1) ⟨0,Nat.zero_le _⟩ ?_ ?_)
     ·refine zq rfl ?_ ?_;simp -dsimp only[simprocAttr,↓aa,zp,zc]
      all_goals rfl
     rintro⟨v,hv⟩;refine ay (ai ?_);apply gJ rfl<;>intro h
     ·refine cj ?_;have zH:v<s.length:=by simpa using h
      obtain⟨c,hc⟩:∃c,s[v]?=some c:=⟨s[v],by simp[zH]⟩
      have LS:(s.map eB)[v]?=some (.v (.bool c)):=by rw[List.getElem?_map,hc];rfl
      have Ri:=pT hc 0;rw[Nat.zero_add]at Ri;have Ha:(cC 0 (s.take v)).length<=4096:=by
       have h1:=gn (s.take v) 0;have h2:=List.countP_le_length (p:=id) (l:=s.take v);rw[List.length_take]at h2;omega
      refine aH (ah ?_);refine aQ ?_;simp -dsimp only[simprocAttr,↓aa,zp,LS];refine ai ?_;cases c with
      | true =>
       rw[if_pos rfl]at Ri;have AI:(cC 0 (s.take (v+1))).length=(cC 0 (s.take v)).length+1:=by rw[Ri,List.length_append];rfl
       have u7:((cC 0 (s.take v)).map (lC E)).map aI++[aI (lC E (v:Int))]=((cC 0 (s.take (v+1))).map (lC E)).map aI:=by rw[Ri];simp
       have AX:(((cC 0 (s.take v)).map (lC E)).map aI).length=(cC 0 (s.take v)).length:=by simp
       have Hb:=rJ hE (v:Int);refine ay (ai ?_);refine cB rfl ?_;refine jX ?_;simp -dsimp only[simprocAttr,↓aa,zp,Yv,Hb,AX,u7,hA,Int.toNat_natCast,Nat.mul_one]
       repeat(refine⟨by omega,?_⟩)
       refine⟨ob (by kernel_rfl),?_⟩;refine ai ?_;refine cM ?_
       repeat(refine⟨by omega,?_⟩)
       refine eZ ?_;refine⟨⟨v+1,zH⟩,by simp;omega,?_⟩;dsimp only;rw[AI];refine zq rfl ?_ ?_;simp -dsimp only[simprocAttr,↓aa,zp,zc]
       ·exact Sub.int (by simp)
       rfl
      | false =>
       rw[if_neg (by decide),List.append_nil]at Ri;refine ay (ai ?_);apply aN rfl<;>intro h
       ·cases h
       refine kp ?_;refine cM ?_
       repeat(refine⟨by omega,?_⟩)
       refine eZ ?_;refine⟨⟨v+1,zH⟩,by simp;omega,?_⟩;dsimp only;rw[Ri];refine zq rfl ?_ ?_;simp -dsimp only[simprocAttr,↓aa,zp,zc]
       ·exact Sub.int (by simp)
       rfl
     refine aK ?_;simp -dsimp only[bI,ne_eq,Nat.reduceEqDiff,reduceCtorEq];have Mq:s.length<=v:=by simpa using h
     rw[List.take_of_length_le Mq];rw[A2];show ba _ _;refine zq rfl ?_ ?_;simp -dsimp only[simprocAttr,↓aa,zp,zc]
     all_goals (simp;done)
    cases h
   have d:decide ((1:Int)<is.length)=false:=decide_eq_false (by omega);rw[if_neg hq]at A2;subst A2;refine aQ ?_;simp -dsimp only[simprocAttr,↓aa,zp,hj,PX,d,Int.toNat_natCast,Nat.mul_one]
   repeat(refine⟨by omega,?_⟩)
   refine⟨ob (by kernel_rfl),?_⟩;refine ai ?_;refine cv rfl ?_;refine aX ?_;show ba _ _;refine zq rfl ?_ ?_;simp -dsimp only[simprocAttr,↓aa,zp,zc]
   all_goals rfl
  refine jX ?_;simp -dsimp only[simprocAttr,↓aa,zp,YS,V0,LU,Zm,<-eo,Int.toNat_natCast,Nat.mul_one]
  repeat(refine⟨by omega,?_⟩)
  refine⟨ob (by kernel_rfl),?_⟩;refine ai ?_;rw[eo]at fb ⊢;refine bp 9 [(0,.mp 7 0),(1,aI k),(19,aG b.term.to),(20,aI uy),(21,aI z)] (by simp) (by omega) [.gone,.cells [aI 0,.aA 7 [] .ex],.gone,.gone,.gone,.cells (C.set (k*7+6) (.aA 2 (TZ++[.agg [aI (j:Int),.aA 1 (ys.map aI) .sh]]) (.tok 8))),.cells A,.cells [aI g.name,aw g.blocks,aJ ord,.aA 1 (inn.map aJ) .sh,.aA 1 (N.map eG) .sh,aI nx,aI g.name,.ms 5 0 n n,.ms 6 0 n n],.spare (z+1)] ?_ ?_ ?_ ?_ ?_
  ·rfl
  ·exact fb
  ·simp[eQ,St.get,bw,a8,Go.Av.look,Sub.refl]
  ·simp[ak.upto,av,ae.upto,ax,Func.ag,Block.ag,Edge.ag,Ins.ag]
  refine cM ?_
  repeat(refine⟨by omega,?_⟩)
  refine eZ ?_;refine⟨⟨z+1,vQ⟩,by simp;omega,?_⟩;dsimp only;rw[eo];refine zq rfl ?_ ?_;simp -dsimp only[simprocAttr,↓aa,zp,zc]
  ·exact Sub.int (by simp)
  rfl
 have Gb:uy<=z:=by simpa using h
 rw[List.take_of_length_le (by omega)];refine dX (cs:=C.set (k*7+6) (.aA 2 (T.map Edge.enc) (.tok 8))) 5 (C.set (k*7+6) (aG T)) rfl (by simp only[List.length_set]) (dM LM trivial) (tI fun _=>Sub.sh rfl) ?_;simp -dsimp only[simprocAttr,↓aa,zp];refine aK ?_;simp -dsimp only[bI,ne_eq,Nat.reduceEqDiff,reduceCtorEq]
 skip
 simp -dsimp only[simprocAttr,↓aa,zp,zr,Tryz.results74];exact⟨IZ,trivial⟩
end Go.Proofs.YtjdnhamngpafmaaGreat
namespace Go.Proofs.YtjdnhamngpafmaaGreat
open Go.Av
def nO(f:Func):Func:=⟨f.name,(dh (ko f)).map fun k=>px (aF f k) (aF (bH (ko f)) (fc (ko f) k)).term.to⟩
def mR(m v:Int):Int:=max m (v+1)
def kN(m:Int)(i:Ins):Int:=i.args.foldl mR (mR m i.to)
def jd(m:Int)(b:Block):Int:=b.ins.foldl kN (b.params.foldl mR (mR m b.term.arg))
def lZ(f:Func):Int:=f.blocks.foldl jd 0
structure Ws where
 nx:Int
 B:Nat->Option Block
 EE:Nat->Env
structure Wb where
 E:Env
 nx:Int
 ps:List Int
 is:List Ins
section
variable (g:Func) (inn:List (List Int)) (N:List (List Bool))
def iW(k:Nat)(S:Ws):Wb :=
 if k=0 then
  ⟨gj (gj rU S.nx (aF g 0).params) (S.nx+(aF g 0).params.length) (sf (gj rU S.nx (aF g 0).params) (N.getD 0 []) (N.getD 0 []).length),
   S.nx+(aF g 0).params.length+(sf (gj rU S.nx (aF g 0).params) (N.getD 0 []) (N.getD 0 []).length).length,
   eW S.nx (aF g 0).params.length,
   (eW (S.nx+(aF g 0).params.length) (sf (gj rU S.nx (aF g 0).params) (N.getD 0 []) (N.getD 0 []).length).length).map sI⟩
 else if(inn.getD k []).length=1 then⟨S.EE ((inn.getD k []).headD 0).toNat,S.nx,[],[]⟩
 else⟨gj rU S.nx (cC 0 (N.getD k [])),S.nx+(cC 0 (N.getD k [])).length,eW S.nx (cC 0 (N.getD k [])).length,[]⟩
def lu(k:Nat)(S:Ws):Ws :=
 let w:=iW g inn N k S;let b:=aF g k;let q:=il w.E w.nx b.ins
 ⟨q.2.1,fun j=>if j=k then some ⟨w.ps,w.is++q.2.2,⟨b.term.kind,zQ q.1 b.term,b.term.n,b.term.cases,[]⟩⟩else S.B j,fun j=>if j=k then q.1 else S.EE j⟩
def rk(l:List Int):Ws:=l.foldl (fun S k=>lu g inn N k.toNat S) ⟨0,fun _=>none,fun _=>rU⟩
def rY(S:Ws)(j:Nat):Block:=px ((S.B j).getD ⟨[],[],⟨0,0,0,[],[]⟩⟩) ((aF g j).term.to.map (G7 inn N (S.EE j)))
end
def j0(f:Func):List (List Bool):=vg (nO f) (lZ f).toNat (bO (bH (ko f)))
def lA(f:Func):Ws:=rk (nO f) (fU (bH (ko f))) (j0 f) (bO (bH (ko f)))
def dg(f:Func):Func:=⟨f.name,(List.range (nO f).blocks.length).map (rY (nO f) (fU (bH (ko f))) (j0 f) (lA f))⟩
def UI:Option Block->List ae
 | none=>[.aA 1 [] .ex,.aA 4 [] .ex,aI 0,aI 0,aI 0,.aA 1 [] .ex,.aA 2 [] .ex]
 | some b=>[aJ b.params,a7 b.ins,aI b.term.kind,aI b.term.arg,aI b.term.n,aJ b.term.cases,.aA 2 [] .ex]
theorem tB:∀(l:List Ins) (E:Env) (nx:Int),nx<=(il E nx l).2.1∧(il E nx l).2.1<=nx+l.length
 | [],E,nx=>by simp[il]
 | i::r,E,nx=>by
  rw[il];split
  ·have:=tB r (wQ E i.to ((i.args.map (lC E)).headD 0)) nx;rw[List.length_cons];omega
  have:=tB r (wQ E i.to nx) (nx+1);rw[List.length_cons];simp only;omega
structure Hj(g:Func)(ord:List Int)(inn:List (List Int))(N:List (List Bool))(many n:Nat):Prop where
 gw:Ru g many
 len:g.blocks.length=n
 Qq:∀k∈ord,0<=k∧k<n
 nd:∀(i j:Nat) k,ord[i]?=some k->ord[j]?=some k->i=j
 one:∀(i:Nat) k p,ord[i]?=some k->k≠0->inn[k.toNat]?=some [p]->p∈ord.take i
 few:ord.length<=128
 Mw:inn.length=n
 TH:∀l∈inn,l.length<=2 ^ 30
 Nl:N.length=n
 Ns:∀s∈N,s.length=many
 cases:∀b∈g.blocks,b.term.cases.length<=4096
 cp:∀b∈g.blocks,∀i∈b.ins,i.op=100->i.args.length=1
structure WI(ord:List Int)(n i:Nat)(S:Ws)(C A:List ae):Prop where
 tj:C.length=n*7
 ch:∀j<n,∀r<7,C[j*7+r]?=(UI (S.B j))[r]?
 pS:A.length=n
 en:∀k∈ord.take i,∃es,A[k.toNat]?=some (.im (.int .i64) es)∧dN es (S.EE k.toNat)
 no:∀j:Nat,(j:Int) ∉ ord.take i->S.B j=none
 ok:∀k∈ord.take i,∃b,S.B k.toNat=some b
 N0:av 0 C
 MK:∀d∈C,d.scalar
 NZ:av 0 A
 nx:0<=S.nx∧S.nx<=i*20000
theorem OW{C:List ae}{n k:Nat}(hC:C.length=n*7)(hk:k<n){ps:List Int}{is:List Ins}{t:Term}{arg:Int}:(BB C k ps is t arg).length=n*7:=by
 unfold BB;rw[fQ (by simp only[List.length_set,List.length_cons,List.length_nil];omega),List.length_set,List.length_set,hC]
theorem OV{C:List ae}{n k:Nat}(hC:C.length=n*7)(hk:k<n){ps:List Int}{is:List Ins}{t:Term}{arg:Int}{j r:Nat}(hr:r<7) :
  (BB C k ps is t arg)[j*7+r]?=if j=k then(UI (some ⟨ps,is,⟨t.kind,arg,t.n,t.cases,[]⟩⟩))[r]? else C[j*7+r]?:=by
 unfold BB;rw[mY (by simp only[List.length_set,List.length_cons,List.length_nil];omega)];simp only[List.length_cons,List.length_nil];by_cases e:j=k
 ·subst e;rw[if_pos rfl]
  match r,hr with
  | 0,_ =>
   rw[if_neg (by omega),List.getElem?_set_ne (by omega),Nat.add_zero,List.getElem?_set_self (by omega)];rfl
  | 1,_ =>
   rw[if_neg (by omega),List.getElem?_set_self (by rw[List.length_set];omega)];rfl
  | 2,_ | 3,_ | 4,_ | 5,_ | 6,_ =>
   rw[if_pos (by omega),show ∀a b,j*7+a-(j*7+b)=a-b from fun a b=>by omega];rfl
 rw[if_neg e,if_neg (by omega),List.getElem?_set_ne (by omega),List.getElem?_set_ne (by omega)]
section
variable {g:Func} {ord:List Int} {inn:List (List Int)} {N:List (List Bool)} {many n:Nat}
theorem Hj.row(h:Hj g ord inn N many n){k:Nat}(hk:k<n):N[k]?=some (N.getD k [])∧(N.getD k []).length=many∧inn[k]?=some (inn.getD k [])∧(inn.getD k []).length<=2 ^ 30∧g.blocks[k]?=some (aF g k):=by
 have h1:N[k]?=some (N[k]'(by rw[h.Nl];exact hk)):=List.getElem?_eq_getElem _;have h2:inn[k]?=some (inn[k]'(by rw[h.Mw];exact hk)):=List.getElem?_eq_getElem _;have h3:N.getD k []=N[k]'(by rw[h.Nl];exact hk):=by rw[List.getD_eq_getElem?_getD,h1];rfl
 have h4:inn.getD k []=inn[k]'(by rw[h.Mw];exact hk):=by rw[List.getD_eq_getElem?_getD,h2];rfl
 rw[h3,h4];refine⟨h1,h.Ns _ (List.getElem_mem _),h2,h.TH _ (List.getElem_mem _),?_⟩;have:=jY (f:=g) (k:=(k:Int)) (by omega) (by rw[h.len];omega)
 rwa [Int.toNat_natCast]at this
theorem qe(h:Hj g ord inn N many n){k:Nat}(hk:k<n)(S:Ws):S.nx<=(iW g inn N k S).nx∧(iW g inn N k S).nx<=S.nx+8192∧(iW g inn N k S).is.length<=4096:=by
 obtain⟨h1,h2,h3,h4,h5⟩:=h.row hk;have hm:=h.gw.N9;unfold iW;split
 ·rename_i e;subst e;have hz:=zE (gj rU S.nx (aF g 0).params) (N.getD 0 []) (N.getD 0 []).length;have hp:=(h.gw.DB _ (List.mem_of_getElem? h5)).1;have Oy:(aF g 0).params.length<=4096:=hp;simp only[List.length_map,jN];omega
 split
 ·simp only[List.length_nil];omega
 have e1:=gn (N.getD k []) 0;have e2:=List.countP_le_length (p:=id) (l:=N.getD k []);simp only[List.length_nil];omega
theorem WI.step(h:Hj g ord inn N many n){i:Nat}{S:Ws}{C A:List ae}(hI:WI ord n i S C A){k:Nat}(hk:ord[i]?=some (k:Int)){es:List (Value×ae)}
  (hE:dN es (il (iW g inn N k S).E (iW g inn N k S).nx (aF g k).ins).1) :
  WI ord n (i+1) (lu g inn N k S) (BB C k (iW g inn N k S).ps ((iW g inn N k S).is++(il (iW g inn N k S).E (iW g inn N k S).nx (aF g k).ins).2.2) (aF g k).term (zQ (il (iW g inn N k S).E (iW g inn N k S).nx (aF g k).ins).1 (aF g k).term))
   (A.set k (.im (.int .i64) es)):=by
 have qN:k<n:=by have:=h.Qq _ (List.mem_of_getElem? hk);omega
 obtain⟨h1,h2,h3⟩:=qe h qN S;have hr:=(h.row qN).2.2.2.2;have Xj:=(h.gw.ins _ (List.mem_of_getElem? hr)).1;have xq:=tB (aF g k).ins (iW g inn N k S).E (iW g inn N k S).nx;have Mh:=hI.nx;have eo:ord.take (i+1)=ord.take i++[(k:Int)]:=by rw[List.take_add_one,hk];rfl
 refine⟨OW hI.tj qN,fun j hj r hr=>?_,by rw[List.length_set,hI.pS],fun j hj=>?_,fun j hj=>?_,fun j hj=>?_,N2 hI.N0,Fb hI.MK,gF hI.NZ (hE.upto 0),?_⟩
 ·rw[OV hI.tj qN hr];unfold lu;simp only;by_cases e:j=k
  ·subst e;rw[if_pos rfl,if_pos rfl]
  rw[if_neg e,if_neg e];exact hI.ch j hj r hr
 ·rw[eo]at hj;by_cases e:j.toNat=k
  ·refine⟨es,?_,?_⟩
   ·rw[e,List.getElem?_set_self (by rw[hI.pS];exact qN)]
   unfold lu;simp only;rw[if_pos e];exact hE
  rcases List.mem_append.1 hj with q|q
  ·obtain⟨Of,q1,q2⟩:=hI.en j q;refine⟨Of,?_,?_⟩
   ·rw[List.getElem?_set_ne (fun x=>e x.symm),q1]
   unfold lu;simp only;rw[if_neg e];exact q2
  rw[List.mem_singleton]at q;subst q;exact absurd (Int.toNat_natCast k) e
 ·rw[eo]at hj;unfold lu;simp only;rw[if_neg (fun e=>hj (by rw[e];simp))];exact hI.no j fun q=>hj (List.mem_append_left _ q)
 ·rw[eo]at hj;unfold lu;simp only;by_cases e:j.toNat=k
  ·rw[if_pos e];exact⟨_,rfl⟩
  rw[if_neg e];rcases List.mem_append.1 hj with q|q
  ·exact hI.ok j q
  rw[List.mem_singleton]at q;subst q;exact absurd (Int.toNat_natCast k) e
 show 0<=(il _ _ _).2.1∧(il _ _ _).2.1<=_;omega
structure WE(g:Func)(inn:List (List Int))(N:List (List Bool))(n j:Nat)(S:Ws)(C A:List ae):Prop where
 tj:C.length=n*7
 ch:∀i<n,∀r<7,C[i*7+r]?=(if i<j then(rY g inn N S i).enc.cells else UI (S.B i))[r]?
 ok:∀i<n,∃b,S.B i=some b
 pS:A.length=n
 en:∀i<n,∃es,A[i]?=some (.im (.int .i64) es)∧dN es (S.EE i)
 N0:av 0 C
 MK:∀d∈C,d.scalar
 NZ:av 0 A
theorem WI.done{i:Nat}{S:Ws}{C A:List ae}(hI:WI ord n i S C A)(cr:∀j<n,(j:Int)∈ord.take i):WE g inn N n 0 S C A:=by
 refine⟨hI.tj,fun j hj r hr=>?_,fun j hj=>?_,hI.pS,fun j hj=>?_,hI.N0,hI.MK,hI.NZ⟩
 ·rw[if_neg (by omega)];exact hI.ch j hj r hr
 ·have:=hI.ok _ (cr j hj)
  rwa [Int.toNat_natCast]at this
 have:=hI.en _ (cr j hj)
 rwa [Int.toNat_natCast]at this
theorem WE.step{j:Nat}{S:Ws}{C A:List ae}(hI:WE g inn N n j S C A)(hj:j<n):WE g inn N n (j+1) S (C.set (j*7+6) (aG ((aF g j).term.to.map (G7 inn N (S.EE j))))) A:=by
 refine⟨by rw[List.length_set,hI.tj],fun i hi r hr=>?_,hI.ok,hI.pS,hI.en,gF hI.N0 ⟨Edge.ag _ _,trivial⟩,dM hI.MK trivial,hI.NZ⟩;have h0:=hI.ch i hi r hr;rw[List.getElem?_set];by_cases e:i=j
 ·subst e;rw[if_neg (Nat.lt_irrefl i)]at h0;rw[if_pos (Nat.lt_succ_self i)];obtain⟨b,hb⟩:=hI.ok i hi;rw[hb]at h0;unfold rY;rw[hb]
  match r,hr with
  | 0,_ | 1,_ | 2,_ | 3,_ | 4,_ | 5,_ =>
   rw[if_neg (by omega),h0];rfl
  | 6,_ =>
   rw[if_pos rfl,if_pos (by rw[hI.tj];omega)];rfl
 rw[if_neg (by omega),h0];by_cases e2:i<j
 ·rw[if_pos e2,if_pos (by omega)]
 rw[if_neg e2,if_neg (by omega)]
theorem WE.cells{S:Ws}{C A:List ae}(hI:WE g inn N n n S C A):C=an (((List.range n).map (rY g inn N S)).map Block.enc):=by
 have cH:∀x∈((List.range n).map (rY g inn N S)).map Block.enc,x.cells.length=7:=fun x hx=>by
  obtain⟨b,_,rfl⟩:=List.mem_map.1 hx;rfl
 have hl:=bz cH;rw[List.length_map,List.length_map,List.length_range]at hl;refine List.ext_getElem? fun p=>?_;by_cases hp:p<n*7
 ·obtain⟨i,r,hi,hr,e⟩:∃i r,i<n∧r<7∧p=i*7+r:=⟨p / 7,p % 7,by omega,by omega,by omega⟩
  subst e;rw[hI.ch i hi r hr,if_pos hi];have hx:(((List.range n).map (rY g inn N S)).map Block.enc)[i]?=some (rY g inn N S i).enc:=by
   rw[List.getElem?_map,List.getElem?_map,List.getElem?_range hi];rfl
  have hc:(rY g inn N S i).enc.cells[r]?=some ((rY g inn N S i).enc.cells[r]'hr):=List.getElem?_eq_getElem _;rw[iG cH hx hc,hc]
 rw[List.getElem?_eq_none (by rw[hI.tj];omega),List.getElem?_eq_none (by omega)]
end
end Go.Proofs.YtjdnhamngpafmaaGreat
namespace Go.Proofs.YtjdnhamngpafmaaGreat
open Go.Av
section
variable {g:Func} {ord:List Int} {inn:List (List Int)} {N:List (List Bool)} {many n i k:Nat} {S:Ws} {C A:List ae}
theorem Fl(h:Hj g ord inn N many n)(hI:WI ord n i S C A)(hk:ord[i]?=some (k:Int)) :
  bd Tryz.prog 106 (mC g ord inn N S.nx n C A) [.mp 7 0,aI k] (fun r O'=>∃es,r=.mm 8∧dN es (iW g inn N k S).E ∧
   O'=mC g ord inn N (iW g inn N k S).nx n (CB C k (iW g inn N k S).ps (iW g inn N k S).is) A++[.map (.int .i64) es,.spare (iW g inn N k S).is.length]):=by
 have qN:k<n:=by have:=h.Qq _ (List.mem_of_getElem? hk);omega
 obtain⟨h1,h2,h3,h4,h5⟩:=h.row qN;have hm:=h.gw.N9;have hn:=h.gw.few;rw[h.len]at hn;have BZ:=I hk;have uK:=h.few;have Mh:0<=S.nx∧S.nx<=2 ^ 30:=by have:=hI.nx;omega
 have Us:S.B k=none:=by
  refine hI.no k fun q=>?_;obtain⟨j,hj⟩:=List.mem_iff_getElem?.1 q;rw[List.getElem?_take]at hj;split at hj
  ·have:=h.nd _ _ _ hj hk;omega
  cases hj
 have Eu:C[k*7]?=some (.aA 1 [] .ex):=by
  have:=hI.ch k qN 0 (by omega);rw[Us]at this;exact this
 have lj:C[k*7+1]?=some (.aA 4 [] .ex):=by
  have:=hI.ch k qN 1 (by omega);rw[Us]at this;exact this
 unfold iW;by_cases e:k=0
 ·subst e;rw[if_pos rfl];have AM:=h.gw.DB _ (List.mem_of_getElem? h5);have:=Ck (ord:=ord) (inn:=inn) (nx:=S.nx) (n:=n) (many:=many) (C:=C) (A:=A) hI.N0 hI.NZ Mh hI.tj hI.MK qN Eu lj h1 h2 hm.2 h5 AM.1 (fun v hv=>by
   have:=AM.2 v hv;unfold G3 at this;unfold ca;omega) hn.2
  simp only[List.length_map,jN];exact this
 rw[if_neg e];by_cases e1:(inn.getD k []).length=1
 ·rw[if_pos e1];obtain⟨p,hp⟩:=List.length_eq_one_iff.1 e1;rw[hp]at h3 ⊢;have XB:=h.one i k p hk (by omega) (by rw[Int.toNat_natCast];exact h3);obtain⟨eP,q1,q2⟩:=hI.en p XB;exact Fm hI.N0 hI.NZ hI.tj hI.MK Eu lj qN e h3 (h.Qq p (List.mem_of_mem_take XB)) q1 hI.pS q2 hn.2
 rw[if_neg e1];exact Cj hI.N0 hI.NZ Mh hI.tj hI.MK qN e Eu lj h1 h2 hm.2 h3 e1 h4 hn.2
theorem D6(h:Hj g ord inn N many n)(hI:WI ord n i S C A)(hk:ord[i]?=some (k:Int)) :
  bd Tryz.prog 73 (mC g ord inn N S.nx n C A) [.mp 7 0,aI k] (fun r O'=>r=.cw []∧∃C' A',WI ord n (i+1) (lu g inn N k S) C' A'∧O'=mC g ord inn N (lu g inn N k S).nx n C' A'):=by
 have qN:k<n:=by have:=h.Qq _ (List.mem_of_getElem? hk);omega
 obtain⟨h1,h2,h3,h4,h5⟩:=h.row qN;have hn:=h.gw.few;rw[h.len]at hn;have BZ:=I hk;have uK:=h.few;have Mh:=hI.nx;obtain⟨w1,w2,w3⟩:=qe h qN S;have mg:=List.mem_of_getElem? h5;refine(BS hI.N0 hI.NZ h.gw hI.tj hI.pS hI.MK qN hn.2 h5 (h.cases _ mg) (h.cp _ mg) (by omega) w3 (Fl h hI hk)).mono ?_;rintro r O' ⟨q1,es,q2,q3⟩;exact⟨q1,_,_,hI.step h hk q2,q3⟩
theorem D7(h:Hj g ord inn N many n)(hI:WE g inn N n k S C A)(qN:k<n) :
  bd Tryz.prog 74 (mC g ord inn N S.nx n C A) [.mp 7 0,aI k] (fun r O'=>r=.cw []∧∃C',WE g inn N n (k+1) S C' A∧O'=mC g ord inn N S.nx n C' A):=by
 obtain⟨h1,h2,h3,h4,h5⟩:=h.row qN;have hn:=h.gw.few;rw[h.len]at hn;have hm:=h.gw.N9;obtain⟨es,q1,q2⟩:=hI.en k qN;have Vc:C[k*7+6]?=some (.aA 2 [] .ex):=by
  have:=hI.ch k qN 6 (by omega);obtain⟨b,hb⟩:=hI.ok k qN;rw[if_neg (by omega),hb]at this;exact this
 refine(BT hI.N0 hI.NZ h.gw hI.tj hI.pS hI.MK qN hn.2 h.len h5 h.Mw h.Nl (fun s hs=>by rw[h.Ns s hs];exact hm.2) h.TH q1 q2 Vc).mono ?_;rintro r O' ⟨p1,p2⟩;exact⟨p1,_,hI.step qN,p2⟩
end
end Go.Proofs.YtjdnhamngpafmaaGreat
namespace Go.Proofs.YtjdnhamngpafmaaGreat
open Go.Av

namespace Mach
def shift(m:Mach)(c:Int):Mach:={ m with left:=m.left+c }
end Mach
end Go.Proofs.YtjdnhamngpafmaaGreat
namespace Go.Proofs.YtjdnhamngpafmaaGreat
open Go.Av
def VR(D:Int->Prop)(s:Int->Int)(es Of:List (Int×SV)):Prop:=∀k,D k->iO Of (s k)=iO es k
section
variable {D:Int->Prop} {s:Int->Int}
end
namespace Mach
def put(m:Mach)(fs:List Fr)(l:Int):Mach:={ m with frames:=fs,left:=l }
inductive Steps(u:cd):Nat->Mach->Mach->Prop
 | refl (m:Mach):Steps u 0 m m
 | cons {n:Nat} {m m':Mach}:m.over=false->m.short=false->1<=m.left->Steps u n (step u { m with left:=m.left-1 }) m'->Steps u (n+1) m m'
theorem Steps.trans{u:cd}{a b:Nat}{m m' Qn:Mach}(h:Steps u a m m')(k:Steps u b m' Qn):Steps u (a+b) m Qn:=by
 induction h with
 | refl m=>rw[Nat.zero_add];exact k
 | cons h1 h2 h3 _ ih =>
  rw[Nat.add_right_comm];exact .cons h1 h2 h3 (ih k)
end Mach
section
variable (u v:cd) (s:Int->Int) (D L:Int->Int->Prop) (β:Int->Int->Int) (pre:Int->Int->List Ins)
structure FR(f f':Fr):Prop where
 ids:f'.bR=f.bR∧f'.dn=f.dn∧f'.fn=f.fn
 fn:0<=f.fn∧f.fn<u.fns.length
 live:L f.fn f.blk
 blk:f'.blk=β f.fn f.blk
 pos:f'.pos=(pre f.fn f.blk).length+f.pos
 vals:VR (D f.fn) s f.vals f'.vals
def XY(f f':Fr):List Fr->Prop
 | []=>True
 | g::_=>f'.to=s f.to∧D g.fn f.to
def Wt:List Fr->List Fr->Prop
 | [],[]=>True
 | f::r,f'::r'=>FR u s D L β pre f f'∧XY s D f f' r∧Wt r r'
 | _,_=>False
def Rel(c d:Int)(m m':Mach):Prop:=∃fs l,m'=m.put fs l∧Wt u s D L β pre m.frames fs∧c*m.left<=l∧l<=m.left+d
end
section
variable {u v:cd} {s:Int->Int} {D L:Int->Int->Prop} {β:Int->Int->Int} {pre:Int->Int->List Ins} {c d:Int}
end
end Go.Proofs.YtjdnhamngpafmaaGreat
namespace Go.Proofs.YtjdnhamngpafmaaGreat
open Go.Av

end Go.Proofs.YtjdnhamngpafmaaGreat
namespace Go.Proofs.YtjdnhamngpafmaaGreat
open Go.Av
theorem Gz{f:Func}(bo:f.fit)(hg:tK f):(bH f).fit:=by
 have hw:=kP hg;have hl:(dh f).length<=128:=by rw[Bq];exact hw.few
 refine⟨bo.1,by rw[ep];omega,fun c s8=>?_⟩;obtain⟨j,hj⟩:=List.mem_iff_getElem?.1 s8;obtain⟨k,h1,h2⟩:=jt.1 hj;have B0:=hw.range k (dE.1 (List.mem_of_getElem? h1));obtain⟨b1,b2,b3,b4,t1,t2,t3,t4,t5,t6,t7⟩:=bo.2.2 _ (List.mem_of_getElem? (jY B0.1 B0.2));rw[h2];refine⟨b1,b2,b3,b4,t1,t2,t3,t4,t5,by rw[iU,List.length_map];exact t6,fun e he=>?_⟩;rw[iU]at he;obtain⟨x,hx,rfl⟩:=List.mem_map.1 he;obtain⟨x1,x2,x3⟩:=t7 x hx;refine⟨?_,x2,x3⟩;show ca (Ee (pg f) x.block);have hb:-1<=Ee (pg f) x.block∧Ee (pg f) x.block<=128:=by
  unfold Ee pg;rw[List.getElem?_map];by_cases q:x.block.toNat<f.blocks.length
  ·rw[List.getElem?_range q,Option.map_some,Option.getD_some];by_cases r:0<=j7 (dh f) ((x.block.toNat:Nat):Int)
   ·have:=I ((fp (l:=dh f) (n:=((x.block.toNat:Nat):Int))).2 r);omega
   have:j7 (dh f) ((x.block.toNat:Nat):Int)=-1:=by
    unfold j7 at r ⊢;split
    ·rename_i s;rw[if_pos s]at r;omega
    rfl
   omega
  rw[List.getElem?_eq_none (by simp;omega)];simp
 unfold ca;omega
section
variable {f:Func}
theorem JA(hw:nr f):fc f 0=0:=rZ hw (vu hw)
theorem Gy(hg:tK f){p k:Int}(hp:0<=jG f p)(h:K7 f p k):K7 (bH f) (fc f p) (fc f k):=by
 have hw:=kP hg;obtain⟨x,hx,e⟩:=h;have wA:=hw.range p hp;have ZH:=hg.gG _ (List.mem_of_getElem? (jY wA.1 wA.2)) x hx;refine⟨iq (pg f) x,?_,?_⟩
 ·unfold ir;rw[vq hp,iU];exact List.mem_map.2 ⟨x,hx,rfl⟩
 show Ee (pg f) x.block=_;rw[ye (by omega) ZH.2,e]
theorem xT(hg:tK f)(wE:nr (bH f)):∀(n:Nat) (k:Int),0<=jG f k->jG f k<n->0<=jG (bH f) (fc f k)
 | 0,k,h,hn=>by omega
 | n+1,k,h,hn=>by
  have hw:=kP hg;by_cases h0:jG f k=0
  ·have hk:k=0:=hw.inj k 0 h (by rw[hw.zero,h0]);rw[hk,JA hw,wE.zero];omega
  obtain⟨p,he,F6,C9⟩:=hw.fwd k (by omega);exact wE.next _ _ (xT hg wE n p F6 (by omega)) (Gy hg F6 he)
theorem GF(hg:tK f)(wE:nr (bH f)){k:Int}(h:0<=jG f k):0<=jG (bH f) (fc f k):=xT hg wE 300 k h (by
 have hw:=kP hg;have h1:=(hw.low k).2;have h2:=hw.few;omega)
end
end Go.Proofs.YtjdnhamngpafmaaGreat
namespace Go.Proofs.YtjdnhamngpafmaaGreat
open Go.Av
theorem Aa{u:cd}(h:fT u=0):u.fns.length≠0∧u.fns.length<=256∧within u.main 0 ((u.fns.length:Int)-1)=true∧(∀f∈u.fns,aZ f=0)∧(aF (cx u u.main) 0).params.length=0∧jh u u.fns=0:=by
 unfold fT at h;split at h
 ·simp at h
 rename_i h1;split at h
 ·simp at h
 rename_i h2;split at h
 ·simp at h
 rename_i h3;obtain⟨h4,h5⟩:=iR h;split at h5
 ·simp at h5
 rename_i h6;exact⟨h1,by omega,by simpa using h3,mF h4,by omega,h5⟩
theorem xS{f:Func}(hg:tK f)(wE:nr (bH f)):(dh (bH f)).length=(bH f).blocks.length:=by
 have hw:=kP hg;rw[vt wE,List.filter_eq_self.2,List.length_map,List.length_range];intro k hk;obtain⟨j,hj,rfl⟩:=List.mem_map.1 hk;have hj:=List.mem_range.1 hj;rw[ep]at hj;have hb:(dh f)[j]?=some ((dh f)[j]'hj):=List.getElem?_eq_getElem _;have:=GF hg wE (dE.1 (List.mem_of_getElem? hb));rw[rZ hw hb]at this;exact decide_eq_true this
section
variable {u:cd} (bo:u.fit) (hc:fT u=0)
include bo hc
end
end Go.Proofs.YtjdnhamngpafmaaGreat
namespace Go.Proofs.YtjdnhamngpafmaaGreat
open Go.Av
def jy(v:Int):Bool:=decide (0<=v)&&decide (v<4096)
theorem gx{v:Int}:jy v=true↔0<=v∧v<=4095:=by
 unfold jy;rw[Bool.and_eq_true,decide_eq_true_eq,decide_eq_true_eq];omega
theorem ri(v:Int):bA Tryz.prog 78 [aI v] (.v (.bool (jy v))):=by
 unfold jy;by_cases h:0<=v
 ·have d:decide (0<=v)=true:=decide_eq_true h;rw[d,Bool.true_and];refine zf true 0 Tryz.func78 Tryz.ntmps78 ?_;dsimp only[Tmp,TypeId,slotsOf];refine ay (ai ?_);refine aQ ?_;simp -dsimp only[simprocAttr,↓aa,zp,d];refine ai ?_;refine aq ?_;simp -dsimp only[simprocAttr,↓aa,zp,zr,Tryz.results78]
 have d:decide (0<=v)=false:=decide_eq_false h;rw[d,Bool.false_and];refine zf true 0 Tryz.func78 Tryz.ntmps78 ?_;dsimp only[Tmp,TypeId,slotsOf];refine ay (ai ?_);refine aQ ?_;simp -dsimp only[simprocAttr,↓aa,zp,d];refine ai ?_;refine aq ?_;simp -dsimp only[simprocAttr,↓aa,zp,zr,Tryz.results78]
theorem Gt(v:Int):bA Tryz.prog 109 [aI v] (.v (.bool (!jy v))):=by
 have hv:=ri v;refine zf true 0 Tryz.func109 Tryz.ntmps109 ?_;dsimp only[Tmp,TypeId,slotsOf];refine ay (ai ?_);refine ay ?_;refine zi hv ?_;refine ai ?_;refine aq ?_;simp -dsimp only[simprocAttr,↓aa,zp,zr,Tryz.results109]
def u9(q:Int->Bool):List Int->Nat->Int
 | [],_=>-1
 | x::r,k=>if q x then(k:Int)else u9 q r (k+1)
theorem xx(q:Int->Bool):∀(l:List Int) (k:Nat),decide (0<=u9 q l k)=l.any q
 | [],k=>rfl
 | a::r,k=>by
  rw[u9,List.any_cons];cases hq:q a with
  | true =>
   rw[if_pos rfl,Bool.true_or];exact decide_eq_true (by omega)
  | false =>
   rw[if_neg (by simp),Bool.false_or];exact xx q r (k+1)
theorem Gc(l:List Int):bA Tryz.prog 128 [aJ l,.fn (.func 109) [] []] (aI (u9 (fun a=>!jy a) l 0)):=by
 obtain⟨R,hR⟩:∃R,R=u9 (fun a=>!jy a) l 0:=⟨_,rfl⟩
 rw[<-hR];refine zf true 0 Tryz.func128 Tryz.ntmps128 ?_;dsimp only[Tmp,TypeId,slotsOf];refine ay (ai ?_);refine fD 0 rfl (fun IJ=>?_);simp only[List.length_map]at IJ;refine bV (ai ?_);refine ah (aL (ι:={k:Nat // k<=l.length∧R=u9 (fun a=>!jy a) (l.drop k) k}) (fun k=>⟨19,[(0,aJ l),(1,.fn (.func 109) [] []),(7,aI l.length),(8,aI k.1)],[]⟩) (fun k=>l.length-k.1) ⟨0,by omega,hR⟩ ?_ ?_)
 ·refine zq rfl ?_ ?_;simp -dsimp only[simprocAttr,↓aa,zp,zc]
  all_goals rfl
 rintro⟨k,hk,di⟩;refine ay (ai ?_);apply gJ rfl<;>intro h
 ·refine cj ?_;have bf:k<l.length:=by simpa using h
  obtain⟨x,hx⟩:∃x,l[k]?=some x:=⟨l[k],List.getElem?_eq_getElem bf⟩
  have hv:=Gt x;rw[bK hx,u9]at di;refine aH (ah ?_);refine ay (ai ?_);refine aQ ?_;simp -dsimp only[simprocAttr,↓aa,zp,hx]
  repeat(refine⟨by omega,?_⟩)
  refine zi hv ?_;refine ai ?_;cases hq:jy x with
  | false =>
   rw[hq]at di;simp only[Bool.not_false,if_true]at di;refine cB rfl ?_;refine ay (ai ?_);refine aq ?_;simp -dsimp only[simprocAttr,↓aa,zp,zr,Tryz.results128];rw[di]
  | true =>
   rw[hq]at di;simp only[Bool.not_true,Bool.false_eq_true,if_false]at di;apply aN rfl<;>intro h
   ·cases h
   refine kp ?_;refine cM ?_
   repeat(refine⟨by omega,?_⟩)
   refine eZ ?_;refine⟨⟨k+1,bf,di⟩,by show l.length-(k+1)<l.length-k;omega,?_⟩;refine zq rfl ?_ ?_;simp -dsimp only[simprocAttr,↓aa,zp,zc]
   ·exact Sub.int (by simp)
   rfl
 refine aK ?_;simp -dsimp only[bI,ne_eq,Nat.reduceEqDiff,reduceCtorEq];have EB:k=l.length:=by
  have:=of_decide_eq_false h;omega
 subst EB;rw[List.drop_length]at di;refine ay (ai ?_);refine aq ?_;simp -dsimp only[simprocAttr,↓aa,zp,zr,Tryz.results128];rw[di];rfl
theorem Fw(l:List Int):bA Tryz.prog 108 [aJ l,.fn (.func 109) [] []] (.v (.bool (l.any fun a=>!jy a))):=by
 have hi:=Gc l;have ha:=xx (fun a=>!jy a) l 0;refine zf true 0 Tryz.func108 Tryz.ntmps108 ?_;dsimp only[Tmp,TypeId,slotsOf];refine ay (ai ?_);refine ay ?_;refine zi hi ?_;refine ai ?_;refine aq ?_;simp -dsimp only[simprocAttr,↓aa,zp,zr,Tryz.results108];rw[ha]
def pw(i:Ins):Int :=
 if(!jy i.to ||i.args.any fun a=>!jy a)=true then 4
 else if i.op≠100 then ka i
 else if i.args.length≠1 then 3
 else if i.n≠0 then 4 else 0
theorem Gm(i:Ins):bA Tryz.prog 79 [i.enc] (aI (pw i)):=by
 have hv:=ri i.to;have hc:=Fw i.args;have hf:=xh i;obtain⟨R,hR⟩:∃R,R=pw i:=⟨_,rfl⟩
 rw[<-hR];unfold pw at hR;obtain⟨B,hB⟩:∃B,B=(!jy i.to ||i.args.any fun a=>!jy a):=⟨_,rfl⟩
 rw[<-hB]at hR;generalize ka i=fe at *;refine zf true 0 Tryz.func79 Tryz.ntmps79 ?_;dsimp only[Tmp,TypeId,slotsOf];refine ay (ai ?_);refine aC 1 0 (.ip none [aI i.to,aI i.op,aI i.n,aJ i.args]) rfl (by simp[ak.aD]) trivial rfl ?_ ?_;rotate_left;simp -dsimp only[simprocAttr,↓aa,zp];rotate_left
 ·exact bM.mp rfl rfl
 cases He:jy i.to with
 | false =>
  rw[He]at hv hB;rw[show B=true from hB]at hR;rw[if_pos rfl]at hR;refine bV ?_;refine zi hv ?_;refine ai ?_;refine cB rfl ?_;refine ay (ai ?_);refine aq ?_;simp -dsimp only[simprocAttr,↓aa,zp,zr,Tryz.results79];rw[hR]
 | true =>
  rw[He]at hv hB;have WC:B=i.args.any fun a=>!jy a:=hB;rw[<-WC]at hc;clear hB WC;cases B with
  | true =>
   rw[if_pos rfl]at hR;refine bV ?_;refine zi hv ?_;refine zi hc ?_;refine ai ?_;refine cB rfl ?_;refine ay (ai ?_);refine aq ?_;simp -dsimp only[simprocAttr,↓aa,zp,zr,Tryz.results79];rw[hR]
  | false =>
   rw[if_neg (by simp)]at hR;refine bV ?_;refine zi hv ?_;refine zi hc ?_;refine ai ?_;apply aN rfl<;>intro h
   ·cases h
   refine cj ?_;by_cases kH:i.op=100
   ·rw[if_neg (by simp[kH])]at hR;have d1:decide (i.op=100)=true:=decide_eq_true kH;refine c7 ?_;simp -dsimp only[simprocAttr,↓aa,zp,d1];refine ai ?_;apply aN rfl<;>intro h
    ·cases h
    refine cj ?_;refine aH (ah ?_);by_cases hl:i.args.length=1
    ·rw[if_neg (by simp[hl])]at hR;have d2:decide ((i.args.length:Int)=1)=true:=decide_eq_true (by omega);refine aQ ?_;simp -dsimp only[simprocAttr,↓aa,zp,d2];refine ai ?_;apply aN rfl<;>intro h
     ·cases h
     by_cases hn:i.n=0
     ·rw[if_neg (by simp[hn])]at hR;have d3:decide (i.n=0)=true:=decide_eq_true hn;refine aQ ?_;simp -dsimp only[simprocAttr,↓aa,zp,d3];refine ai ?_;apply aN rfl<;>intro h
      ·cases h
      refine kp ?_;refine ay (ai ?_);refine aq ?_;simp -dsimp only[simprocAttr,↓aa,zp,zr,Tryz.results79];rw[hR]
     rw[if_pos hn]at hR;have d3:decide (i.n=0)=false:=decide_eq_false hn;refine aQ ?_;simp -dsimp only[simprocAttr,↓aa,zp,d3];refine ai ?_;refine cB rfl ?_;refine ay (ai ?_);refine aq ?_;simp -dsimp only[simprocAttr,↓aa,zp,zr,Tryz.results79];rw[hR]
    rw[if_pos hl]at hR;have d2:decide ((i.args.length:Int)=1)=false:=decide_eq_false (by omega);refine aQ ?_;simp -dsimp only[simprocAttr,↓aa,zp,d2];refine ai ?_;refine cB rfl ?_;refine ay (ai ?_);refine aq ?_;simp -dsimp only[simprocAttr,↓aa,zp,zr,Tryz.results79];rw[hR]
   rw[if_pos kH]at hR;have d1:decide (i.op=100)=false:=decide_eq_false kH;unfold Ins.enc at hf;refine c7 ?_;simp -dsimp only[simprocAttr,↓aa,zp,d1];refine ai ?_;refine cB rfl ?_;refine ay ?_;refine zi hf ?_;refine ai ?_;refine aq ?_;simp -dsimp only[simprocAttr,↓aa,zp,zr,Tryz.results79];rw[hR]
def sE:List Int->List Int->Int
 | _,[]=>0
 | d,v::r=>if jy v=false then 4 else if nP d v=true then 7 else sE (d++[v]) r
def nZ:List Ins->Int
 | []=>0
 | i::r=>n7 (pw i) (nZ r)
def A6(f:Func)(k:Nat)(b:Block):Int :=
 if 0<k∧0<b.params.length then 3
 else n7 (sE [] b.params) (n7 (nZ b.ins) (n7 (k7 f b.term) (if jy b.term.arg=true then 0 else 4)))
def pU(f:Func):Nat->List Block->Int
 | _,[]=>0
 | k,b::r=>n7 (A6 f k b) (pU f (k+1) r)
def sD(f:Func):Int :=
 if f.blocks.length=0 then 3
 else if 128<f.blocks.length∨4096<mc 0 f.blocks∨6<(aF f 0).params.length then 2
 else if f.name < -1∨1048576<=f.name then 4
 else pU f 0 f.blocks
theorem Gl(f:Func)(bo:f.fit):bA Tryz.prog 53 [f.enc] (aI (sD f)):=by
 have uK:f.blocks.length<=2 ^ 47:=bo.2.1;obtain⟨R,hR⟩:∃R,R=sD f:=⟨_,rfl⟩
 rw[<-hR];unfold sD at hR;refine zf true 0 Tryz.func53 Tryz.ntmps53 ?_;dsimp only[Tmp,TypeId,slotsOf];refine ay (ai ?_);refine aC 1 0 (.ip none [aI f.name,aw f.blocks]) rfl (by simp[ak.aD]) trivial rfl ?_ ?_;rotate_left;simp -dsimp only[simprocAttr,↓aa,zp];rotate_left
 ·exact bM.mp rfl rfl
 refine ay (ai ?_);refine bV (ai ?_);refine ah (aL (ι:={x:Nat×Int // x.1<=f.blocks.length∧mc 0 f.blocks=mc x.2 (f.blocks.drop x.1)}) (fun x=>⟨121,[(1,.ip none [aI f.name,aw f.blocks]),(2,aI 0),(3,aI x.1.2),(15,aw f.blocks),(16,aI f.blocks.length),(17,aI x.1.1)],[.gone]⟩) (fun x=>f.blocks.length-x.1.1) ⟨(0,0),by simp,rfl⟩ ?_ ?_)
 ·refine zq rfl ?_ ?_;simp -dsimp only[simprocAttr,↓aa,zp,zc];rfl
 rintro⟨⟨k,m⟩,hk,di⟩;simp only at hk di;refine ay (ai ?_);apply gJ rfl<;>intro h
 ·refine cj ?_;have bf:k<f.blocks.length:=by simpa using h
  obtain⟨b,hb⟩:∃b,f.blocks[k]?=some b:=⟨f.blocks[k],by simp[bf]⟩
  rw[bK hb]at di;simp only[mc]at di;refine aH (ah ?_);refine aQ ?_;simp -dsimp only[simprocAttr,↓aa,zp,hb];refine ai ?_;refine aC 5 1 (.ip none [aJ b.params,a7 b.ins,aI b.term.kind,aI b.term.arg,aI b.term.n,aJ b.term.cases,aG b.term.to]) rfl (by simp[ak.aD]) trivial rfl ?_ ?_;rotate_left;simp -dsimp only[simprocAttr,↓aa,zp];rotate_left
  ·exact bM.mp rfl rfl
  refine pC ⟨false,false⟩ hT 4 rfl rfl rfl (by simp) ?_;simp -dsimp only[simprocAttr,↓aa,zp];refine xJ rfl rfl (by simp) rfl rfl ?_;simp -dsimp only[simprocAttr,↓aa,zp];refine ai ?_;refine bp 1 [(1,.ip none [aI f.name,aw f.blocks]),(2,aI 0),(3,aI (IntKind.i64.wrap (m+b.ins.length))),(15,aw f.blocks),(16,aI f.blocks.length),(17,aI k)] (by simp) (by omega) [.gone] ?_ ?_ ?_ ?_ ?_
  ·rfl
  ·simp[ak.upto,av,ae.upto,ax,Block.ag]
  ·simp[eQ,St.get,bw,a8,Go.Av.look,Sub.refl]
  ·simp[ak.upto,av,ae.upto,ax,Block.ag]
  refine cM ?_
  repeat(refine⟨by omega,?_⟩)
  refine eZ ?_;refine⟨⟨(k+1,IntKind.i64.wrap (m+b.ins.length)),by simp only;omega,di⟩,by simp;omega,?_⟩;refine zq rfl ?_ ?_;simp -dsimp only[simprocAttr,↓aa,zp,zc]
  ·exact Sub.int (by simp)
  rfl
 refine aK ?_;simp -dsimp only[bI,ne_eq,Nat.reduceEqDiff,reduceCtorEq];have gi:k=f.blocks.length:=by simp at h;omega
 subst gi;rw[List.drop_length]at di;simp only[mc]at di;rw[di]at hR;clear hk di;refine aH (ah ?_);by_cases hl:f.blocks.length=0
 ·rw[if_pos hl]at hR;have d0:decide ((f.blocks.length:Int)=0)=true:=decide_eq_true (by omega);refine aQ ?_;simp -dsimp only[simprocAttr,↓aa,zp,d0];refine ai ?_;refine cB rfl ?_;refine ay (ai ?_);refine aq ?_;simp -dsimp only[simprocAttr,↓aa,zp,zr,Tryz.results53];rw[hR]
 rw[if_neg hl]at hR;have d0:decide ((f.blocks.length:Int)=0)=false:=decide_eq_false (by omega);have hB:f.blocks[0]?=some (aF f 0):=dP (f:=f) (k:=0) (by omega) (by omega);generalize aF f 0=B at *;refine aQ ?_;simp -dsimp only[simprocAttr,↓aa,zp,d0];refine ai ?_;apply aN rfl<;>intro h
 ·cases h
 refine fY (⟨121,[(1,.ip none [aI f.name,aw f.blocks]),(2,aI 0),(32,.v (.bool (decide ((128:Int)<f.blocks.length) ||decide ((4096:Int)<m) ||decide ((6:Int)<B.params.length))))],[.gone]⟩) ?_ ?_
 ·cases hA:decide ((128:Int)<f.blocks.length)<;>cases RS:decide ((4096:Int)<m)<;>cases hC:decide ((6:Int)<B.params.length)
  all_goals
   refine eC hT hm ?_;simp -dsimp only[simprocAttr,↓aa,zp,hA,RS,hC,hB];refine a6 ?_;show ba _ _;refine zq rfl ?_ ?_;simp -dsimp only[simprocAttr,↓aa,zp,zc]
   ·exact Sub.refl _
   rfl
 by_cases yC:128<f.blocks.length∨4096<m∨6<B.params.length
 ·rw[if_pos yC]at hR;have hd:(decide ((128:Int)<f.blocks.length) ||decide ((4096:Int)<m) ||decide ((6:Int)<B.params.length))=true:=by
   simp only[Bool.or_eq_true,decide_eq_true_eq];omega
  rw[hd];refine cB rfl ?_;refine ay (ai ?_);refine aq ?_;simp -dsimp only[simprocAttr,↓aa,zp,zr,Tryz.results53];rw[hR]
 rw[if_neg yC]at hR;have hd:(decide ((128:Int)<f.blocks.length) ||decide ((4096:Int)<m) ||decide ((6:Int)<B.params.length))=false:=by
  simp only[Bool.or_eq_false_iff,decide_eq_false_iff_not];omega
 rw[hd];apply aN rfl<;>intro h
 ·cases h
 by_cases Xu:f.name < -1∨1048576<=f.name
 ·rw[if_pos Xu]at hR;have cr:∀X:Int,R=4->R=4:=fun _ h=>h;cases nS:decide (f.name < -1)with
  | true =>
   refine aQ ?_;simp -dsimp only[simprocAttr,↓aa,zp,nS];refine ai ?_;refine cB rfl ?_;refine ay (ai ?_);refine aq ?_;simp -dsimp only[simprocAttr,↓aa,zp,zr,Tryz.results53];rw[hR]
  | false =>
   have VI:=of_decide_eq_false nS;have vR:decide (1048576<=f.name)=true:=decide_eq_true (by omega);refine aQ ?_;simp -dsimp only[simprocAttr,↓aa,zp,nS,vR];refine ai ?_;refine cB rfl ?_;refine ay (ai ?_);refine aq ?_;simp -dsimp only[simprocAttr,↓aa,zp,zr,Tryz.results53];rw[hR]
 rw[if_neg Xu]at hR;have nS:decide (f.name < -1)=false:=decide_eq_false (by omega);have vR:decide (1048576<=f.name)=false:=decide_eq_false (by omega);refine aQ ?_;simp -dsimp only[simprocAttr,↓aa,zp,nS,vR];refine ai ?_;apply aN rfl<;>intro h
 ·cases h
 refine kp ?_;refine bV (ai ?_);refine ah (aL (ι:={k:Nat // k<=f.blocks.length∧R=pU f k (f.blocks.drop k)}) (fun k=>⟨121,[(1,.ip none [aI f.name,aw f.blocks]),(2,aI 0),(60,aw f.blocks),(61,aI f.blocks.length),(62,aI k.1)],[.gone]⟩) (fun k=>f.blocks.length-k.1) ⟨0,by omega,hR⟩ ?_ ?_)
 ·refine zq rfl ?_ ?_;simp -dsimp only[simprocAttr,↓aa,zp,zc]
  all_goals rfl
 rintro⟨k,hk,di⟩;refine ay (ai ?_);apply gJ rfl<;>intro h
 ·refine cj ?_;have bf:k<f.blocks.length:=by simpa using h
  obtain⟨b,hb⟩:∃b,f.blocks[k]?=some b:=⟨f.blocks[k],by simp[bf]⟩
  have mg:=List.mem_of_getElem? hb;have U9:=bo.2.2 b mg;have xm:=Ak f b.term (by have:=U9.2.2.2.2.2.2.2.2.1;omega) (by omega);have Ux:=ri b.term.arg;have Yz:b.params.length<=2 ^ 47:=U9.2.1;have YX:b.ins.length<=2 ^ 47:=U9.2.2.1;rw[bK hb,pU]at di;obtain⟨rest,cG⟩:∃x,x=pU f (k+1) (f.blocks.drop (k+1)):=⟨_,rfl⟩
  rw[<-cG]at di;unfold A6 at di;refine aH (ah ?_);refine aQ ?_;simp -dsimp only[simprocAttr,↓aa,zp,hb];refine ai ?_;refine aC 7 1 (.ip none [aJ b.params,a7 b.ins,aI b.term.kind,aI b.term.arg,aI b.term.n,aJ b.term.cases,aG b.term.to]) rfl (by simp[ak.aD]) trivial rfl ?_ ?_;rotate_left;simp -dsimp only[simprocAttr,↓aa,zp];rotate_left
  ·exact bM.mp rfl rfl
  refine bp 1 [(1,.ip none [aI f.name,aw f.blocks]),(2,aI 0),(60,aw f.blocks),(61,aI f.blocks.length),(62,aI k),(6,aI k),(7,.ip none [aJ b.params,a7 b.ins,aI b.term.kind,aI b.term.arg,aI b.term.n,aJ b.term.cases,aG b.term.to])] (by simp) (by omega) [.gone] ?_ ?_ ?_ ?_ ?_
  ·rfl
  ·simp[ak.upto]
  ·simp[eQ,St.get,bw,a8,Go.Av.look,Sub.refl]
  ·simp[ak.upto,av,ae.upto,ax,Block.ag,Ins.ag,Edge.ag]
  by_cases Xn:0<k∧0<b.params.length
  ·rw[if_pos Xn,gp (by omega)]at di;have d1:decide ((0:Int)<k)=true:=decide_eq_true (by omega);have d2:decide ((0:Int)<b.params.length)=true:=decide_eq_true (by omega);refine c7 ?_;simp -dsimp only[simprocAttr,↓aa,zp,d1,d2];refine ai ?_;refine cB rfl ?_;refine ay (ai ?_);refine aq ?_;simp -dsimp only[simprocAttr,↓aa,zp,zr,Tryz.results53];rw[di]
  rw[if_neg Xn,iz,iz,iz]at di;refine fY (⟨121,[(1,.ip none [aI f.name,aw f.blocks]),(2,aI 0),(60,aw f.blocks),(61,aI f.blocks.length),(62,aI k),(6,aI k),(7,.ip none [aJ b.params,a7 b.ins,aI b.term.kind,aI b.term.arg,aI b.term.n,aJ b.term.cases,aG b.term.to])],[.gone]⟩) ?_ ?_
  ·by_cases KR:0<k
   ·have d1:decide ((0:Int)<k)=true:=decide_eq_true (by omega);have d2:decide ((0:Int)<b.params.length)=false:=decide_eq_false (by omega);refine aQ ?_;simp -dsimp only[simprocAttr,↓aa,zp,d1,d2];refine ai ?_;refine cv rfl ?_;refine aX ?_;show ba _ _;refine zq rfl ?_ ?_;simp -dsimp only[simprocAttr,↓aa,zp,zc];rfl
   have d1:decide ((0:Int)<k)=false:=decide_eq_false (by omega);refine aQ ?_;simp -dsimp only[simprocAttr,↓aa,zp,d1];refine ai ?_;refine cv rfl ?_;refine aX ?_;show ba _ _;refine zq rfl ?_ ?_;simp -dsimp only[simprocAttr,↓aa,zp,zc];rfl
  obtain⟨T1,Iw⟩:∃T1,T1=n7 (nZ b.ins) (n7 (k7 f b.term) (n7 (if jy b.term.arg=true then 0 else 4) rest)):=⟨_,rfl⟩
  rw[<-Iw]at di;refine bV (ai ?_);refine ah (aL (ι:={n:Nat // n<=b.params.length∧R=n7 (sE (b.params.take n) (b.params.drop n)) T1}) (fun n=>⟨121,[(1,.ip none [aI f.name,aw f.blocks]),(2,aI 0),(60,aw f.blocks),(61,aI f.blocks.length),(62,aI k),(6,aI k),(7,.ip none [aJ b.params,a7 b.ins,aI b.term.kind,aI b.term.arg,aI b.term.n,aJ b.term.cases,aG b.term.to]),(76,aJ b.params),(77,aI b.params.length),(78,aI n.1)],[.gone]⟩) (fun n=>b.params.length-n.1) ⟨0,by omega,di⟩ ?_ ?_)
  ·refine zq rfl ?_ ?_;simp -dsimp only[simprocAttr,↓aa,zp,zc]
   all_goals rfl
  rintro⟨n,hn,cq⟩;refine ay (ai ?_);apply gJ rfl<;>intro h
  ·refine cj ?_;have Xr:n<b.params.length:=by simpa using h
   obtain⟨v,hv⟩:∃v,b.params[n]?=some v:=⟨b.params[n],List.getElem?_eq_getElem Xr⟩
   have KV:=ri v;have fA:=pk (b.params.take n) v;have eo:b.params.take (n+1)=b.params.take n++[v]:=by rw[List.take_add_one,hv];rfl
   rw[bK hv,sE]at cq;refine aH (ah ?_);refine aQ ?_;simp -dsimp only[simprocAttr,↓aa,zp,hv]
   repeat(refine⟨by omega,?_⟩)
   refine ai ?_;refine ah ?_;cases He:jy v with
   | false =>
    rw[He]at KV;rw[if_pos He,gp (by omega)]at cq;refine ay ?_;refine zi KV ?_;refine ai ?_;refine cB rfl ?_;refine ay (ai ?_);refine aq ?_;simp -dsimp only[simprocAttr,↓aa,zp,zr,Tryz.results53];rw[cq]
   | true =>
    rw[He]at KV;rw[if_neg (by simp[He])]at cq;refine ay ?_;refine zi KV ?_;refine ai ?_;apply aN rfl<;>intro h
    ·cases h
    cases Ev:nP (b.params.take n) v with
    | true =>
     rw[Ev]at fA;rw[if_pos Ev,gp (by omega)]at cq;refine aQ ?_;simp -dsimp only[simprocAttr,↓aa,zp,<-List.map_take]
     repeat(refine⟨by omega,?_⟩)
     refine zi fA ?_;refine ai ?_;refine cB rfl ?_;refine ay (ai ?_);refine aq ?_;simp -dsimp only[simprocAttr,↓aa,zp,zr,Tryz.results53];rw[cq]
    | false =>
     rw[Ev]at fA;rw[if_neg (by simp[Ev]),<-eo]at cq;refine aQ ?_;simp -dsimp only[simprocAttr,↓aa,zp,<-List.map_take]
     repeat(refine⟨by omega,?_⟩)
     refine zi fA ?_;refine ai ?_;apply aN rfl<;>intro h
     ·cases h
     refine Wn ?_;refine cM ?_
     repeat(refine⟨by omega,?_⟩)
     refine eZ ?_;refine⟨⟨n+1,Xr,cq⟩,by show b.params.length-(n+1)<b.params.length-n;omega,?_⟩;refine zq rfl ?_ ?_;simp -dsimp only[simprocAttr,↓aa,zp,zc]
     ·exact Sub.int (by simp)
     rfl
  refine aK ?_;simp -dsimp only[bI,ne_eq,Nat.reduceEqDiff,reduceCtorEq];have C7:n=b.params.length:=by
   have:=of_decide_eq_false h;omega
  subst C7;rw[List.drop_length,sE,db rfl,Iw]at cq;obtain⟨T2,WV⟩:∃T2,T2=n7 (k7 f b.term) (n7 (if jy b.term.arg=true then 0 else 4) rest):=⟨_,rfl⟩
  rw[<-WV]at cq;refine bV (ai ?_);refine ah (aL (ι:={j:Nat // j<=b.ins.length∧R=n7 (nZ (b.ins.drop j)) T2}) (fun j=>⟨121,[(1,.ip none [aI f.name,aw f.blocks]),(2,aI 0),(60,aw f.blocks),(61,aI f.blocks.length),(62,aI k),(6,aI k),(7,.ip none [aJ b.params,a7 b.ins,aI b.term.kind,aI b.term.arg,aI b.term.n,aJ b.term.cases,aG b.term.to]),(96,a7 b.ins),(97,aI b.ins.length),(98,aI j.1)],[.gone]⟩) (fun j=>b.ins.length-j.1) ⟨0,by omega,cq⟩ ?_ ?_)
  ·refine zq rfl ?_ ?_;simp -dsimp only[simprocAttr,↓aa,zp,zc]
   all_goals rfl
  rintro⟨j,hj,gh⟩;refine ay (ai ?_);apply gJ rfl<;>intro h
  ·refine cj ?_;have xr:j<b.ins.length:=by simpa using h
   obtain⟨i,hi⟩:∃i,b.ins[j]?=some i:=⟨b.ins[j],List.getElem?_eq_getElem xr⟩
   have PZ:=Gm i;rw[bK hi,nZ,iz]at gh;obtain⟨e,hE⟩:∃e,e=pw i:=⟨_,rfl⟩
   rw[<-hE]at PZ gh;unfold Ins.enc at PZ;refine aH (ah ?_);refine aQ ?_;simp -dsimp only[simprocAttr,↓aa,zp,hi];refine ai ?_;refine aC 11 1 (.ip none [aI i.to,aI i.op,aI i.n,aJ i.args]) rfl (by simp[ak.aD]) trivial rfl ?_ ?_;rotate_left;simp -dsimp only[simprocAttr,↓aa,zp];rotate_left
   ·exact bM.mp rfl rfl
   refine bp 1 [(1,.ip none [aI f.name,aw f.blocks]),(2,aI 0),(60,aw f.blocks),(61,aI f.blocks.length),(62,aI k),(6,aI k),(7,.ip none [aJ b.params,a7 b.ins,aI b.term.kind,aI b.term.arg,aI b.term.n,aJ b.term.cases,aG b.term.to]),(96,a7 b.ins),(97,aI b.ins.length),(98,aI j),(11,.ip none [aI i.to,aI i.op,aI i.n,aJ i.args])] (by simp) (by omega) [.gone] ?_ ?_ ?_ ?_ ?_
   ·rfl
   ·simp[ak.upto]
   ·simp[eQ,St.get,bw,a8,Go.Av.look,Sub.refl]
   ·simp[ak.upto,av,ae.upto,ax,Block.ag,Ins.ag,Edge.ag]
   by_cases he:e=0
   ·have j5:decide (e=0)=true:=decide_eq_true he;rw[db he]at gh;refine ay ?_;refine zi PZ ?_;refine ai ?_;refine aQ ?_;simp -dsimp only[simprocAttr,↓aa,zp,j5];refine ai ?_;apply aN rfl<;>intro h
    ·cases h
    refine kp ?_;refine cM ?_
    repeat(refine⟨by omega,?_⟩)
    refine eZ ?_;refine⟨⟨j+1,xr,gh⟩,by show b.ins.length-(j+1)<b.ins.length-j;omega,?_⟩;refine zq rfl ?_ ?_;simp -dsimp only[simprocAttr,↓aa,zp,zc]
    ·exact Sub.int (by simp)
    rfl
   have j5:decide (e=0)=false:=decide_eq_false he;rw[gp he]at gh;refine ay ?_;refine zi PZ ?_;refine ai ?_;refine aQ ?_;simp -dsimp only[simprocAttr,↓aa,zp,j5];refine ai ?_;refine cB rfl ?_;refine ay (ai ?_);refine aq ?_;simp -dsimp only[simprocAttr,↓aa,zp,zr,Tryz.results53];rw[gh]
  refine aK ?_;simp -dsimp only[bI,ne_eq,Nat.reduceEqDiff,reduceCtorEq];have FY:j=b.ins.length:=by
   have:=of_decide_eq_false h;omega
  subst FY;rw[List.drop_length,nZ,db rfl,WV]at gh;unfold Func.enc Term.enc at xm;obtain⟨e,hE⟩:∃e,e=k7 f b.term:=⟨_,rfl⟩
  rw[<-hE]at xm gh;by_cases he:e=0
  ·have j5:decide (e=0)=true:=decide_eq_true he;rw[db he]at gh;refine bV ?_;refine zi xm ?_;refine ai ?_;refine aQ ?_;simp -dsimp only[simprocAttr,↓aa,zp,j5];refine ai ?_;apply aN rfl<;>intro h
   ·cases h
   refine cj ?_;cases He:jy b.term.arg with
   | true =>
    rw[He]at Ux;rw[if_pos He,db rfl,cG]at gh;refine ay ?_;refine zi Ux ?_;refine ai ?_;apply aN rfl<;>intro h
    ·cases h
    refine kp ?_;refine cM ?_
    repeat(refine⟨by omega,?_⟩)
    refine eZ ?_;refine⟨⟨k+1,bf,gh⟩,by show f.blocks.length-(k+1)<f.blocks.length-k;omega,?_⟩;refine zq rfl ?_ ?_;simp -dsimp only[simprocAttr,↓aa,zp,zc]
    ·exact Sub.int (by simp)
    rfl
   | false =>
    rw[He]at Ux;rw[if_neg (by simp[He]),gp (by omega)]at gh;refine ay ?_;refine zi Ux ?_;refine ai ?_;refine cB rfl ?_;refine ay (ai ?_);refine aq ?_;simp -dsimp only[simprocAttr,↓aa,zp,zr,Tryz.results53];rw[gh]
  have j5:decide (e=0)=false:=decide_eq_false he;rw[gp he]at gh;refine bV ?_;refine zi xm ?_;refine ai ?_;refine aQ ?_;simp -dsimp only[simprocAttr,↓aa,zp,j5];refine ai ?_;refine cB rfl ?_;refine ay (ai ?_);refine aq ?_;simp -dsimp only[simprocAttr,↓aa,zp,zr,Tryz.results53];rw[gh]
 refine aK ?_;simp -dsimp only[bI,ne_eq,Nat.reduceEqDiff,reduceCtorEq];have EB:k=f.blocks.length:=by
  have:=of_decide_eq_false h;omega
 subst EB;rw[List.drop_length,pU]at di;refine ay (ai ?_);refine aq ?_;simp -dsimp only[simprocAttr,↓aa,zp,zr,Tryz.results53];rw[di]
theorem A7:∀{l d:List Int},sE d l=0->∀v∈l,jy v=true
 | [],_,_,v,h=>by cases h
 | a::r,d,h,v,hv=>by
  rw[sE]at h;split at h
  ·simp at h
  rename_i h1;split at h
  ·simp at h
  rcases List.mem_cons.1 hv with q|q
  ·rw[q];simpa using h1
  exact A7 h v q
theorem xD:∀{l:List Ins},nZ l=0->∀i∈l,pw i=0
 | [],_,i,h=>by cases h
 | a::r,h,i,hi=>by
  have:=iR h;rcases List.mem_cons.1 hi with q|q
  ·rw[q];exact this.1
  exact xD this.2 i q
theorem xC{f:Func}:∀{l:List Block} {k:Nat},pU f k l=0->∀(j:Nat) b,l[j]?=some b->A6 f (k+j) b=0
 | [],_,_,j,b,h=>by simp at h
 | a::r,k,h,j,b,hj=>by
  have:=iR h;cases j with
  | zero =>
   simp only[List.getElem?_cons_zero,Option.some.injEq]at hj;subst hj;exact this.1
  | succ j =>
   rw[show k+(j+1)=k+1+j by omega];exact xC this.2 j b (by simpa using hj)
structure tL(f:Func):Prop where
 ne:f.blocks≠[]
 few:f.blocks.length<=128
 name:-1<=f.name∧f.name<=1048575
 args:(aF f 0).params.length<=6
 ins:∀b∈f.blocks,b.ins.length<=4096
 bare:∀(k:Nat) b,f.blocks[k]?=some b->0<k->b.params=[]
 DB:∀b∈f.blocks,∀v∈b.params,jy v=true
 il:∀b∈f.blocks,∀i∈b.ins,pw i=0
 fin:∀b∈f.blocks,k7 f b.term=0
 arg:∀b∈f.blocks,jy b.term.arg=true
theorem tL.form{f:Func}(h:tL f)(b:Block)(hb:b∈f.blocks)(i:Ins)(hi:i∈b.ins)(kH:i.op≠100):N5 i:=by
 have:=h.il b hb i hi;unfold pw at this;split at this
 ·simp at this
 skip
 exact tt this
theorem EV{f:Func}(bo:f.fit)(h:sD f=0):tL f:=by
 unfold sD at h;split at h
 ·simp at h
 rename_i h1;split at h
 ·simp at h
 rename_i h2;split at h
 ·simp at h
 rename_i h3;have hw:=zC f.blocks 0 (by omega) (by omega) (fun b hb=>(bo.2.2 b hb).2.2.1);have hB:∀(k:Nat) b,f.blocks[k]?=some b->A6 f k b=0:=fun k b hk=>by
  have:=xC h k b hk
  rwa [Nat.zero_add]at this
 have hM:∀b∈f.blocks,∃k:Nat,f.blocks[k]?=some b:=fun b hb=>List.mem_iff_getElem?.1 hb;have hP:∀(k:Nat) b,f.blocks[k]?=some b->¬(0<k∧0<b.params.length)∧sE [] b.params=0∧nZ b.ins=0∧k7 f b.term=0∧jy b.term.arg=true:=fun k b hk=>by
  have:=hB k b hk;unfold A6 at this;split at this
  ·simp at this
  rename_i hq;have h5:=iR this;have h6:=iR h5.2;have h7:=iR h6.2;refine⟨hq,h5.1,h6.1,h7.1,?_⟩;have h8:=h7.2;split at h8
  ·assumption
  simp at h8
 refine⟨fun e=>h1 (by rw[e];rfl),by omega,by omega,by omega,fun b hb=>?_,fun k b hk h0=>?_,fun b hb=>?_,fun b hb=>?_,fun b hb=>?_,fun b hb=>?_⟩
 ·have:=hw.2 b hb;omega
 ·have:=(hP k b hk).1;exact List.length_eq_zero_iff.1 (by omega)
 ·obtain⟨k,hk⟩:=hM b hb;exact A7 (hP k b hk).2.1
 ·obtain⟨k,hk⟩:=hM b hb;exact xD (hP k b hk).2.2.1
 ·obtain⟨k,hk⟩:=hM b hb;exact(hP k b hk).2.2.2.1
 obtain⟨k,hk⟩:=hM b hb;exact(hP k b hk).2.2.2.2
def pV:List Func->Int
 | []=>0
 | f::r=>n7 (sD f) (pV r)
theorem pW:∀{l:List Func},pV l=0->∀f∈l,sD f=0
 | [],_,f,h=>by simp at h
 | g::r,h,f,hf=>by
  have:=iR h;rcases List.mem_cons.1 hf with q|q
  ·subst q;exact this.1
  exact pW this.2 f q
def ia(u:cd):Int :=
 if u.fns.length=0 then 3
 else if 256<u.fns.length then 2
 else if u.main<0∨(u.fns.length:Int)<=u.main then 4
 else n7 (pV u.fns) (if 0<(aF (cx u u.main) 0).params.length then 3 else jh u u.fns)
theorem Ba(u:cd)(bo:u.fit):bA Tryz.prog 24 [u.enc] (aI (ia u)):=by
 obtain⟨R,hR⟩:∃R,R=ia u:=⟨_,rfl⟩
 rw[<-hR];unfold ia at hR;have uK:u.fns.length<=2 ^ 47:=bo.2.1;refine zf true 0 Tryz.func24 Tryz.ntmps24 ?_;dsimp only[Tmp,TypeId,slotsOf];refine ay (ai ?_);refine aC 1 0 (.ip none [bc u.fns,aI u.main]) rfl (by simp[ak.aD]) trivial rfl ?_ ?_;rotate_left;simp -dsimp only[simprocAttr,↓aa,zp]
 ·refine aH (ah ?_);by_cases h0:u.fns.length=0
  ·rw[if_pos h0]at hR;have hd:decide ((u.fns.length:Int)=0)=true:=decide_eq_true (by omega);refine aQ ?_;simp -dsimp only[simprocAttr,↓aa,zp,hd];refine ai ?_;refine cB rfl ?_;refine ay (ai ?_);refine aq ?_;simp -dsimp only[simprocAttr,↓aa,zp,zr,Tryz.results24];rw[hR]
  rw[if_neg h0]at hR;have hd:decide ((u.fns.length:Int)=0)=false:=decide_eq_false (by omega);refine aQ ?_;simp -dsimp only[simprocAttr,↓aa,zp,hd];refine ai ?_;apply aN rfl<;>intro h
  ·cases h
  by_cases h1:256<u.fns.length
  ·rw[if_pos h1]at hR;have hd:decide ((256:Int)<u.fns.length)=true:=decide_eq_true (by omega);refine aQ ?_;simp -dsimp only[simprocAttr,↓aa,zp,hd];refine ai ?_;refine cB rfl ?_;refine ay (ai ?_);refine aq ?_;simp -dsimp only[simprocAttr,↓aa,zp,zr,Tryz.results24];rw[hR]
  rw[if_neg h1]at hR;have hd:decide ((256:Int)<u.fns.length)=false:=decide_eq_false (by omega);refine aQ ?_;simp -dsimp only[simprocAttr,↓aa,zp,hd];refine ai ?_;apply aN rfl<;>intro h
  ·cases h
  by_cases EH:u.main<0∨(u.fns.length:Int)<=u.main
  ·rw[if_pos EH]at hR;cases nS:decide (u.main<0)with
   | true =>
    refine aQ ?_;simp -dsimp only[simprocAttr,↓aa,zp,nS];refine ai ?_;refine cB rfl ?_;refine ay (ai ?_);refine aq ?_;simp -dsimp only[simprocAttr,↓aa,zp,zr,Tryz.results24];rw[hR]
   | false =>
    have VI:=of_decide_eq_false nS;have vR:decide ((u.fns.length:Int)<=u.main)=true:=decide_eq_true (by omega);refine aQ ?_;simp -dsimp only[simprocAttr,↓aa,zp,nS,vR];refine ai ?_;refine cB rfl ?_;refine ay (ai ?_);refine aq ?_;simp -dsimp only[simprocAttr,↓aa,zp,zr,Tryz.results24];rw[hR]
  rw[if_neg EH]at hR;have xt:0<=u.main∧u.main<u.fns.length:=by omega
  have nS:decide (u.main<0)=false:=decide_eq_false (by omega);have vR:decide ((u.fns.length:Int)<=u.main)=false:=decide_eq_false (by omega);refine aQ ?_;simp -dsimp only[simprocAttr,↓aa,zp,nS,vR];refine ai ?_;apply aN rfl<;>intro h
  ·cases h
  refine kp ?_;refine bV (ai ?_);refine ah (aL (ι:={k:Nat // k<=u.fns.length∧pV u.fns=pV (u.fns.drop k)}) (fun k=>⟨90,[(1,.ip none [bc u.fns,aI u.main]),(2,aI 0),(36,bc u.fns),(37,aI u.fns.length),(38,aI k.1)],[.gone]⟩) (fun k=>u.fns.length-k.1) ⟨0,by omega,rfl⟩ ?_ ?_)
  ·refine zq rfl ?_ ?_;simp -dsimp only[simprocAttr,↓aa,zp,zc];rfl
  rintro⟨k,hk,di⟩;refine ay (ai ?_);apply gJ rfl<;>intro h
  ·refine cj ?_;have bf:k<u.fns.length:=by simpa using h
   obtain⟨f,hf⟩:∃f,u.fns[k]?=some f:=⟨u.fns[k],by simp[bf]⟩
   have FU:=Gl f (bo.2.2 f (List.mem_of_getElem? hf));rw[bK hf]at di;simp only[pV]at di;obtain⟨e,KO⟩:∃e,e=sD f:=⟨_,rfl⟩
   rw[<-KO]at di FU;refine aH (ah ?_);refine aQ ?_;simp -dsimp only[simprocAttr,↓aa,zp,hf];refine ai ?_;refine aC 4 1 (.ip none [aI f.name,aw f.blocks]) rfl (by simp[ak.aD]) trivial rfl ?_ ?_;rotate_left;simp -dsimp only[simprocAttr,↓aa,zp]
   ·refine bp 1 [(1,.ip none [bc u.fns,aI u.main]),(2,aI 0),(36,bc u.fns),(37,aI u.fns.length),(38,aI k),(4,.ip none [aI f.name,aw f.blocks])] (by simp) (by omega) [.gone] ?_ ?_ ?_ ?_ ?_
    ·rfl
    ·simp[ak.upto,av,ae.upto,ax,Func.ag,Block.ag,Edge.ag,Ins.ag]
    ·simp[eQ,St.get,bw,a8,Go.Av.look,Sub.refl]
    ·simp[ak.upto,av,ae.upto,ax,Func.ag,Block.ag,Edge.ag,Ins.ag]
    refine ay ?_;refine zi FU ?_;refine ai ?_;by_cases he:e=0
    ·have j5:decide (e=0)=true:=decide_eq_true he;rw[db he]at di;refine aQ ?_;simp -dsimp only[simprocAttr,↓aa,zp,j5];refine ai ?_;refine cv rfl ?_;refine kp ?_;refine cM ?_
     repeat(refine⟨by omega,?_⟩)
     refine eZ ?_;refine⟨⟨k+1,bf,di⟩,by simp;omega,?_⟩;refine zq rfl ?_ ?_;simp -dsimp only[simprocAttr,↓aa,zp,zc]
     ·exact Sub.int (by simp)
     rfl
    have j5:decide (e=0)=false:=decide_eq_false he;rw[gp he]at di;rw[di,gp he]at hR;refine aQ ?_;simp -dsimp only[simprocAttr,↓aa,zp,j5];refine ai ?_;refine cB rfl ?_;refine ay (ai ?_);refine aq ?_;simp -dsimp only[simprocAttr,↓aa,zp,zr,Tryz.results24];rw[hR]
   exact bM.mp rfl rfl
  refine aK ?_;simp -dsimp only[bI,ne_eq,Nat.reduceEqDiff,reduceCtorEq];have gi:k=u.fns.length:=by simp at h;omega
  subst gi;rw[List.drop_length]at di;have L4:pV u.fns=0:=by rw[di];rfl
  rw[db L4]at hR;have cr:∀f∈u.fns,tL f:=fun f hf=>EV (bo.2.2 f hf) (pW L4 f hf);have hM:=kh (u:=u) (k:=u.main) xt.1 (by omega);have Yi:0<(cx u u.main).blocks.length:=by
   have:=(cr _ (List.mem_of_getElem? hM)).ne;cases hb:(cx u u.main).blocks with
   | nil=>exact absurd hb this
   | cons=>simp
  have hB:(cx u u.main).blocks[0]?=some (aF (cx u u.main) 0):=dP (f:=cx u u.main) (k:=0) (by omega) (by omega);generalize aF (cx u u.main) 0=B at *;generalize cx u u.main=F at *;by_cases hp:0<B.params.length
  ·rw[if_pos hp]at hR;have PL:decide ((0:Int)<B.params.length)=true:=decide_eq_true (by omega);refine c7 ?_;simp -dsimp only[simprocAttr,↓aa,zp,hM,hB,PL]
   repeat(refine⟨by omega,?_⟩)
   refine ai ?_;refine cB rfl ?_;refine ay (ai ?_);refine aq ?_;simp -dsimp only[simprocAttr,↓aa,zp,zr,Tryz.results24];rw[hR]
  rw[if_neg hp]at hR;have PL:decide ((0:Int)<B.params.length)=false:=decide_eq_false (by omega);refine c7 ?_;simp -dsimp only[simprocAttr,↓aa,zp,hM,hB,PL]
  repeat(refine⟨by omega,?_⟩)
  refine ai ?_;apply aN rfl<;>intro h
  ·cases h
  refine cj ?_;refine bV (ai ?_);refine ah (aL (ι:={k:Nat // k<=u.fns.length∧R=jh u (u.fns.drop k)}) (fun k=>⟨90,[(1,.ip none [bc u.fns,aI u.main]),(2,aI 0),(61,bc u.fns),(62,aI u.fns.length),(63,aI k.1)],[.gone]⟩) (fun k=>u.fns.length-k.1) ⟨0,by omega,hR⟩ ?_ ?_)
  ·refine zq rfl ?_ ?_;simp -dsimp only[simprocAttr,↓aa,zp,zc];rfl
  rintro⟨k,hk,di⟩;refine ay (ai ?_);apply gJ rfl<;>intro h
  ·refine cj ?_;have bf:k<u.fns.length:=by simpa using h
   obtain⟨f,hf⟩:∃f,u.fns[k]?=some f:=⟨u.fns[k],by simp[bf]⟩
   have KP:=List.mem_of_getElem? hf;have pN:=(cr f KP).few;rw[bK hf]at di;simp only[jh]at di;refine aH (ah ?_);refine aQ ?_;simp -dsimp only[simprocAttr,↓aa,zp,hf];refine ai ?_;refine aC 7 1 (.ip none [aI f.name,aw f.blocks]) rfl (by simp[ak.aD]) trivial rfl ?_ ?_;rotate_left;simp -dsimp only[simprocAttr,↓aa,zp]
   ·refine bp 1 [(1,.ip none [bc u.fns,aI u.main]),(2,aI 0),(61,bc u.fns),(62,aI u.fns.length),(63,aI k),(7,.ip none [aI f.name,aw f.blocks])] (by simp) (by omega) [.gone] ?_ ?_ ?_ ?_ ?_
    ·rfl
    ·simp[ak.upto,av,ae.upto,ax,Func.ag,Block.ag,Edge.ag,Ins.ag]
    ·simp[eQ,St.get,bw,a8,Go.Av.look,Sub.refl]
    ·simp[ak.upto,av,ae.upto,ax,Func.ag,Block.ag,Edge.ag,Ins.ag]
    refine ay (ai ?_);refine ah (aL (ι:={j:Nat // j<=f.blocks.length∧R=n7 (mo u (f.blocks.drop j)) (jh u (u.fns.drop (k+1)))}) (fun j=>⟨90,[(1,.ip none [bc u.fns,aI u.main]),(2,aI 0),(61,bc u.fns),(62,aI u.fns.length),(63,aI k),(68,aw f.blocks),(69,aI f.blocks.length),(70,aI j.1)],[.gone]⟩) (fun j=>f.blocks.length-j.1) ⟨0,by omega,di⟩ ?_ ?_)
    ·refine zq rfl ?_ ?_;simp -dsimp only[simprocAttr,↓aa,zp,zc];rfl
    rintro⟨j,hj,gh⟩;refine ay (ai ?_);apply gJ rfl<;>intro h
    ·refine cj ?_;have xr:j<f.blocks.length:=by simpa using h
     obtain⟨b,hb⟩:∃b,f.blocks[j]?=some b:=⟨f.blocks[j],by simp[xr]⟩
     have mg:=List.mem_of_getElem? hb;have BZ:=(cr f KP).ins b mg;rw[bK hb]at gh;simp only[mo]at gh;rw[iz]at gh;refine aH (ah ?_);refine aQ ?_;simp -dsimp only[simprocAttr,↓aa,zp,hb];refine ai ?_;refine aC 9 1 (.ip none [aJ b.params,a7 b.ins,aI b.term.kind,aI b.term.arg,aI b.term.n,aJ b.term.cases,aG b.term.to]) rfl (by simp[ak.aD]) trivial rfl ?_ ?_;rotate_left;simp -dsimp only[simprocAttr,↓aa,zp]
     ·refine bp 1 [(1,.ip none [bc u.fns,aI u.main]),(2,aI 0),(61,bc u.fns),(62,aI u.fns.length),(63,aI k),(68,aw f.blocks),(69,aI f.blocks.length),(70,aI j),(9,.ip none [aJ b.params,a7 b.ins,aI b.term.kind,aI b.term.arg,aI b.term.n,aJ b.term.cases,aG b.term.to])] (by simp) (by omega) [.gone] ?_ ?_ ?_ ?_ ?_
      ·rfl
      ·simp[ak.upto,av,ae.upto,ax,Func.ag,Block.ag,Edge.ag,Ins.ag]
      ·simp[eQ,St.get,bw,a8,Go.Av.look,Sub.refl]
      ·simp[ak.upto,av,ae.upto,ax,Func.ag,Block.ag,Edge.ag,Ins.ag]
      refine ay (ai ?_);refine ah (aL (ι:={z:Nat // z<=b.ins.length∧R=n7 (pF u (b.ins.drop z)) (n7 (mo u (f.blocks.drop (j+1))) (jh u (u.fns.drop (k+1))))}) (fun z=>⟨90,[(1,.ip none [bc u.fns,aI u.main]),(2,aI 0),(61,bc u.fns),(62,aI u.fns.length),(63,aI k),(68,aw f.blocks),(69,aI f.blocks.length),(70,aI j),(75,a7 b.ins),(76,aI b.ins.length),(77,aI z.1)],[.gone]⟩) (fun z=>b.ins.length-z.1) ⟨0,by omega,gh⟩ ?_ ?_)
      ·refine zq rfl ?_ ?_;simp -dsimp only[simprocAttr,↓aa,zp,zc];rfl
      rintro⟨z,hz,lM⟩;refine ay (ai ?_);apply gJ rfl<;>intro h
      ·refine cj ?_;have vQ:z<b.ins.length:=by simpa using h
       obtain⟨i,hi⟩:∃i,b.ins[z]?=some i:=⟨b.ins[z],by simp[vQ]⟩
       rw[bK hi]at lM;simp only[pF]at lM;rw[iz]at lM;have Q7:=(cr f KP).form b mg i (List.mem_of_getElem? hi);have fA:=ue u i (fun q=>((Q7 (by omega)).call (by omega)).1) (fun f hf=>(cr f hf).ne);obtain⟨e,KO⟩:∃e,e=jZ u i:=⟨_,rfl⟩
       rw[<-KO]at lM fA;refine aH (ah ?_);refine aQ ?_;simp -dsimp only[simprocAttr,↓aa,zp,hi];refine ai ?_;refine aC 11 1 (.ip none [aI i.to,aI i.op,aI i.n,aJ i.args]) rfl (by simp[ak.aD]) trivial rfl ?_ ?_;rotate_left;simp -dsimp only[simprocAttr,↓aa,zp]
       ·refine bp 1 [(1,.ip none [bc u.fns,aI u.main]),(2,aI 0),(61,bc u.fns),(62,aI u.fns.length),(63,aI k),(68,aw f.blocks),(69,aI f.blocks.length),(70,aI j),(75,a7 b.ins),(76,aI b.ins.length),(77,aI z),(11,.ip none [aI i.to,aI i.op,aI i.n,aJ i.args])] (by simp) (by omega) [.gone] ?_ ?_ ?_ ?_ ?_
        ·rfl
        ·simp[ak.upto,av,ae.upto,ax,Func.ag,Block.ag,Edge.ag,Ins.ag]
        ·simp[eQ,St.get,bw,a8,Go.Av.look,Sub.refl]
        ·simp[ak.upto,av,ae.upto,ax,Func.ag,Block.ag,Edge.ag,Ins.ag]
        refine ay ?_;refine zi fA ?_;refine ai ?_;by_cases he:e=0
        ·have j5:decide (e=0)=true:=decide_eq_true he;rw[db he]at lM;refine aQ ?_;simp -dsimp only[simprocAttr,↓aa,zp,j5];refine ai ?_;refine cv rfl ?_;refine kp ?_;refine cM ?_
         repeat(refine⟨by omega,?_⟩)
         refine eZ ?_;refine⟨⟨z+1,vQ,lM⟩,by simp;omega,?_⟩;refine zq rfl ?_ ?_;simp -dsimp only[simprocAttr,↓aa,zp,zc]
         ·exact Sub.int (by simp)
         rfl
        have j5:decide (e=0)=false:=decide_eq_false he;rw[gp he]at lM;refine aQ ?_;simp -dsimp only[simprocAttr,↓aa,zp,j5];refine ai ?_;refine cB rfl ?_;refine ay (ai ?_);refine aq ?_;simp -dsimp only[simprocAttr,↓aa,zp,zr,Tryz.results24];rw[lM]
       exact bM.mp rfl rfl
      refine aK ?_;simp -dsimp only[bI,ne_eq,Nat.reduceEqDiff,reduceCtorEq];have Gb:z=b.ins.length:=by simp at h;omega
      subst Gb;rw[List.drop_length]at lM;rw[db (by rfl)]at lM;refine cM ?_
      repeat(refine⟨by omega,?_⟩)
      refine eZ ?_;refine⟨⟨j+1,xr,lM⟩,by simp;omega,?_⟩;refine zq rfl ?_ ?_;simp -dsimp only[simprocAttr,↓aa,zp,zc]
      ·exact Sub.int (by simp)
      rfl
     exact bM.mp rfl rfl
    refine aK ?_;simp -dsimp only[bI,ne_eq,Nat.reduceEqDiff,reduceCtorEq];have rL:j=f.blocks.length:=by simp at h;omega
    subst rL;rw[List.drop_length]at gh;rw[db (by rfl)]at gh;refine cM ?_
    repeat(refine⟨by omega,?_⟩)
    refine eZ ?_;refine⟨⟨k+1,bf,gh⟩,by simp;omega,?_⟩;refine zq rfl ?_ ?_;simp -dsimp only[simprocAttr,↓aa,zp,zc]
    ·exact Sub.int (by simp)
    rfl
   exact bM.mp rfl rfl
  refine aK ?_;simp -dsimp only[bI,ne_eq,Nat.reduceEqDiff,reduceCtorEq];have gi:k=u.fns.length:=by simp at h;omega
  subst gi;rw[List.drop_length]at di;refine ay (ai ?_);refine aq ?_;simp -dsimp only[simprocAttr,↓aa,zp,zr,Tryz.results24];rw[di];rfl
 exact bM.mp rfl rfl
end Go.Proofs.YtjdnhamngpafmaaGreat
namespace Go.Proofs.YtjdnhamngpafmaaGreat
open Go.Av
theorem Jf{m v:Int}:m<=mR m v∧v+1<=mR m v:=by unfold mR;omega
theorem tE:∀(l:List Int) (m:Int),m<=l.foldl mR m∧∀v∈l,v+1<=l.foldl mR m
 | [],m=>⟨Int.le_refl _,fun v hv=>by cases hv⟩
 | a::r,m=>by
  obtain⟨h1,h2⟩:=tE r (mR m a);obtain⟨h3,h4⟩:=Jf (m:=m) (v:=a);rw[List.foldl_cons];refine⟨by omega,fun v hv=>?_⟩;rcases List.mem_cons.1 hv with q|q
  ·subst q;omega
  exact h2 v q
theorem I'(m:Int)(i:Ins):m<=kN m i∧i.to+1<=kN m i∧∀a∈i.args,a+1<=kN m i:=by
 unfold kN;obtain⟨h1,h2⟩:=tE i.args (mR m i.to);obtain⟨h3,h4⟩:=Jf (m:=m) (v:=i.to);exact⟨by omega,by omega,h2⟩
theorem xF:∀(l:List Ins) (m:Int),m<=l.foldl kN m∧∀i∈l,i.to+1<=l.foldl kN m∧∀a∈i.args,a+1<=l.foldl kN m
 | [],m=>⟨Int.le_refl _,fun v hv=>by cases hv⟩
 | i::r,m=>by
  obtain⟨h1,h2⟩:=xF r (kN m i);obtain⟨h3,h4,h5⟩:=I' m i;rw[List.foldl_cons];refine⟨by omega,fun j hj=>?_⟩;rcases List.mem_cons.1 hj with q|q
  ·subst q;exact⟨by omega,fun a ha=>by have:=h5 a ha;omega⟩
  exact h2 j q
theorem I8(m:Int)(b:Block):m<=jd m b∧b.term.arg+1<=jd m b∧(∀v∈b.params,v+1<=jd m b)∧∀i∈b.ins,i.to+1<=jd m b∧∀a∈i.args,a+1<=jd m b:=by
 unfold jd;obtain⟨h1,h2⟩:=tE b.params (mR m b.term.arg);obtain⟨h3,h4⟩:=Jf (m:=m) (v:=b.term.arg);obtain⟨h5,h6⟩:=xF b.ins (b.params.foldl mR (mR m b.term.arg));exact⟨by omega,by omega,fun v hv=>by have:=h2 v hv;omega,h6⟩
theorem lY:∀(l:List Block) (m:Int),m<=l.foldl jd m∧∀b∈l,b.term.arg+1<=l.foldl jd m∧(∀v∈b.params,v+1<=l.foldl jd m)∧∀i∈b.ins,i.to+1<=l.foldl jd m∧∀a∈i.args,a+1<=l.foldl jd m
 | [],m=>⟨Int.le_refl _,fun v hv=>by cases hv⟩
 | b::r,m=>by
  obtain⟨h1,h2⟩:=lY r (jd m b);obtain⟨h3,h4,h5,h6⟩:=I8 m b;rw[List.foldl_cons];refine⟨by omega,fun j hj=>?_⟩;rcases List.mem_cons.1 hj with q|q
  ·subst q;exact⟨by omega,fun v hv=>by have:=h5 v hv;omega,fun i hi=>⟨by have:=(h6 i hi).1;omega,fun a ha=>by have:=(h6 i hi).2 a ha;omega⟩⟩
  exact h2 j q
theorem EZ{c:Int}:∀(l:List Int) {m:Int},m<=c->(∀v∈l,v<c)->l.foldl mR m<=c
 | [],_,h,_=>h
 | a::r,m,h,hl=>by
  rw[List.foldl_cons];refine EZ r ?_ fun v hv=>hl v (List.mem_cons_of_mem _ hv);have:=hl a List.mem_cons_self;unfold mR;omega
theorem Ja{c m:Int}{i:Ins}(h:m<=c)(h1:i.to<c)(h2:∀a∈i.args,a<c):kN m i<=c:=by
 unfold kN;exact EZ _ (by unfold mR;omega) h2
theorem xG{c:Int}:∀(l:List Ins) {m:Int},m<=c->(∀i∈l,i.to<c∧∀a∈i.args,a<c)->l.foldl kN m<=c
 | [],_,h,_=>h
 | a::r,m,h,hl=>by
  rw[List.foldl_cons];have:=hl a List.mem_cons_self;exact xG r (Ja h this.1 this.2) fun v hv=>hl v (List.mem_cons_of_mem _ hv)
theorem I9{c m:Int}{b:Block}(h:m<=c)(h1:b.term.arg<c)(h2:∀v∈b.params,v<c)(h3:∀i∈b.ins,i.to<c∧∀a∈i.args,a<c):jd m b<=c:=by
 unfold jd;exact xG _ (EZ _ (by unfold mR;omega) h2) h3
theorem xE{c:Int}:∀(l:List Block) {m:Int},m<=c->(∀b∈l,b.term.arg<c∧(∀v∈b.params,v<c)∧∀i∈b.ins,i.to<c∧∀a∈i.args,a<c)->l.foldl jd m<=c
 | [],_,h,_=>h
 | a::r,m,h,hl=>by
  rw[List.foldl_cons];have:=hl a List.mem_cons_self;exact xE r (I9 h this.1 this.2.1 this.2.2) fun v hv=>hl v (List.mem_cons_of_mem _ hv)
theorem tD{f:Func}(h:tL f){b:Block}(hb:b∈f.blocks){i:Ins}(hi:i∈b.ins):(0<=i.to∧i.to<=4095)∧(∀a∈i.args,0<=a∧a<=4095)∧i.args.length<=16∧(i.op=100->i.args.length=1):=by
 have h0:=h.il b hb i hi;by_cases e:i.op=100
 ·unfold pw at h0;split at h0
  ·simp at h0
  rename_i h1;simp only[Bool.or_eq_true,not_or,Bool.not_eq_true',Bool.not_eq_false,List.any_eq_true,not_exists,not_and]at h1;rw[if_neg (by simp[e])]at h0;split at h0
  ·simp at h0
  rename_i h2;exact⟨gx.1 (by simpa using h1.1),fun a ha=>gx.1 (by simpa using h1.2 a ha),by omega,fun _=>by omega⟩
 have hf:=h.form b hb i hi e;unfold pw at h0;split at h0
 ·simp at h0
 rename_i h1;simp only[Bool.or_eq_true,not_or,Bool.not_eq_true',Bool.not_eq_false,List.any_eq_true,not_exists,not_and]at h1;exact⟨gx.1 (by simpa using h1.1),fun a ha=>gx.1 (by simpa using h1.2 a ha),hf.len,fun q=>absurd q e⟩
theorem xH{f:Func}(h:tL f):0<lZ f∧lZ f<=4096:=by
 have hc:lZ f<=4096:=xE f.blocks (by decide) fun b hb=>⟨by have:=gx.1 (h.arg b hb);omega,fun v hv=>by have:=gx.1 (h.DB b hb v hv);omega,fun i hi=>by
  obtain⟨q1,q2,_⟩:=tD h hb hi;exact⟨by omega,fun a ha=>by have:=q2 a ha;omega⟩⟩
 obtain⟨b,hb⟩:=List.exists_mem_of_ne_nil _ h.ne;have:=((lY f.blocks 0).2 b hb).1;have:=gx.1 (h.arg b hb);unfold lZ at *;omega
theorem za{f:Func}(bo:f.fit):(ko f).fit:=by
 refine⟨by unfold ko ca;simp,by rw[r9];exact bo.2.1,fun c hc=>?_⟩;obtain⟨k,hk⟩:=List.mem_iff_getElem?.1 hc;have hl:=I hk;rw[r9]at hl;have hb:f.blocks[k]?=some f.blocks[k]:=List.getElem?_eq_getElem hl;rw[OR hb,Option.some.injEq]at hk;obtain⟨b1,b2,b3,b4,t1,t2,t3,t4,t5,t6,t7⟩:=bo.2.2 _ (List.mem_of_getElem? hb);have EB:=bo.2.1;have Xm:ca (k:Int):=by unfold ca;omega
 have hz:ca 0:=by unfold ca;omega
 generalize f.blocks[k]=b at *;subst hk;have hT:ca (BH b).kind∧ca (BH b).n∧iv (BH b).cases∧(BH b).cases.length<=2 ^ 47∧(BH b).to.length<=2 ^ 47∧∀e∈(BH b).to,e.fit:=by
  unfold BH;split
  ·exact⟨by unfold ca;simp,by unfold ca;simp,by simp[iv],by simp,by simp,fun e he=>by cases he⟩
  exact⟨t1,t3,t4,t5,t6,t7⟩
 obtain⟨u1,u2,u3,u4,u5,u6⟩:=hT;refine⟨by simp[iv,xW],by simp[xW],?_,fun i hi=>?_,u1,?_,u2,u3,u4,u5,u6⟩
 ·unfold xW;simp only;split<;>simp
 ·unfold xW at hi;simp only at hi;split at hi
  ·rw[List.mem_singleton]at hi;subst hi;exact⟨Xm,hz,hz,by simp[iv],by simp⟩
  cases hi
 unfold xW;simp only;split
 ·exact Xm
 exact hz
theorem Gw{c:Nat}(k:Nat){ls:List (List Int)}(e:Edge)(h:∀l∈ls,l.length<=c):∀l∈nk k ls e,l.length<=c+1:=fun l hl=>by
 unfold nk at hl;rcases List.mem_or_eq_of_mem_set hl with q|q
 ·have:=h l q;omega
 rw[q,List.length_append,List.length_singleton];cases hq:ls[e.block.toNat]? with
 | none=>simp
 | some m =>
  have:=h m (List.mem_of_getElem? hq);simpa using this
theorem xN{c:Nat}(k:Nat):∀(es:List Edge) {ls:List (List Int)},(∀l∈ls,l.length<=c)->∀l∈nj k ls es,l.length<=c+es.length
 | [],_,h=>h
 | e::r,ls,h=>by
  intro l hl;have:=xN (c:=c+1) k r (Gw k e h) l hl;rw[List.length_cons];omega
theorem xQ:∀(bs:List Block) {k c:Nat} {ls:List (List Int)},(∀b∈bs,b.term.to.length<=257)->(∀l∈ls,l.length<=c)->∀l∈oe k ls bs,l.length<=c+bs.length*257
 | [],_,c,_,_,h=>by simpa[oe]using h
 | b::r,k,c,ls,hb,h=>by
  intro l hl;have h1:=hb b List.mem_cons_self;have:=xQ r (k:=k+1) (c:=c+b.term.to.length) (fun x hx=>hb x (List.mem_cons_of_mem _ hx)) (xN k b.term.to h) l hl;rw[List.length_cons];omega
section
variable {f:Func} (bo:f.fit) (hm:tL f) (hc:aZ (ko f)=0)
include bo hm hc
theorem vB:tK (ko f):=(cS (za bo) hc).gr
theorem DC:(bH (ko f)).fit:=Gz (za bo) (vB bo hm hc)
theorem Bl:aZ (bH (ko f))=0:=Bo (za bo) hc
theorem Bn:tK (bH (ko f)):=(cS (DC bo hm hc) (Bl bo hm hc)).gr
theorem pM:(nO f).blocks.length=(bH (ko f)).blocks.length:=by
 unfold nO;rw[List.length_map,ep]
theorem xj{j:Nat}{b:Block}(h:(nO f).blocks[j]?=some b):∃(k:Nat) (c:Block),(dh (ko f))[j]?=some (k:Int)∧f.blocks[k]?=some c∧b=px c (aF (bH (ko f)) (j:Int)).term.to:=by
 have hw:=kP (vB bo hm hc);unfold nO at h;rw[List.getElem?_map,Option.map_eq_some_iff]at h;obtain⟨k,hk,rfl⟩:=h;have hr:=hw.range k (dE.1 (List.mem_of_getElem? hk));rw[r9]at hr;refine⟨k.toNat,aF f k,by rw[hk];congr 1;omega,jY hr.1 hr.2,?_⟩;rw[rZ hw hk]
theorem Bm{j:Nat}(hj:j<(bH (ko f)).blocks.length):(aF (bH (ko f)) (j:Int)).term.to.length<=257∧∀e∈(aF (bH (ko f)) (j:Int)).term.to,1<=e.block∧e.block<(nO f).blocks.length∧e.args=[]:=by
 have hg:=Bn bo hm hc;have hb:=jY (f:=bH (ko f)) (k:=(j:Int)) (by omega) (by omega);rw[Int.toNat_natCast]at hb;have mg:=List.mem_of_getElem? hb;refine⟨hg.to _ mg,fun e he=>?_⟩;have:=hg.gG _ mg e he;rw[pM bo hm hc];refine⟨this.1,this.2,?_⟩;obtain⟨k,q1,q2⟩:=jt.1 hb;rw[q2,iU]at he;obtain⟨x,hx,rfl⟩:=List.mem_map.1 he;show x.args=[]
 have hw:=kP (vB bo hm hc);have hr:=hw.range k (dE.1 (List.mem_of_getElem? q1));rw[r9]at hr;have hk:=jY hr.1 hr.2;have zI:=OR hk;have Rg:aF (ko f) k=xW k.toNat (aF f k):=by
  unfold aF at zI ⊢;rw[zI];rfl
 rw[Rg]at hx;have yI:x∈(BH (aF f k)).to:=hx;unfold BH at yI;split at yI
 ·cases yI
 have hE:=mD (hm.fin _ (List.mem_of_getElem? hk));obtain⟨⟨p1,p2⟩,p3⟩:=hE.gG x yI;have pN:=jY (f:=f) (k:=x.block) (by omega) (by omega);rw[hm.bare _ _ pN (by omega)]at p3;exact List.length_eq_zero_iff.1 p3
theorem RO:Ru (nO f) (lZ f).toNat:=by
 have hw:=kP (vB bo hm hc);have hg:=Bn bo hm hc;have hl:=pM bo hm hc;have KU:=xH hm;have FQ:∀b∈(nO f).blocks,∃c∈f.blocks,b.params=c.params∧b.ins=c.ins∧b.term.arg=c.term.arg:=fun b hb=>by
  obtain⟨j,hj⟩:=List.mem_iff_getElem?.1 hb;obtain⟨k,c,_,h2,rfl⟩:=xj bo hm hc hj;exact⟨c,List.mem_of_getElem? h2,rfl,rfl,rfl⟩
 have xq:∀v:Int,0<=v->v+1<=lZ f->G3 (lZ f).toNat v:=fun v h0 h1=>by
  unfold G3;omega
 refine⟨?_,by omega,fun j b hj h0=>?_,fun b hb=>?_,fun b hb=>?_,fun b hb=>?_,fun b hb=>?_⟩
 ·rw[hl];exact⟨by have:=List.length_pos_iff.2 hg.ne;omega,hg.few⟩
 ·obtain⟨k,c,h1,h2,rfl⟩:=xj bo hm hc hj;have hk:k≠0:=fun e=>by
   subst e;have:=tH hw h1 (vu hw);omega
  exact hm.bare k c h2 (by omega)
 ·obtain⟨c,s8,h1,_⟩:=FQ b hb;rw[h1];refine⟨?_,fun v hv=>?_⟩
  ·obtain⟨k,hk⟩:=List.mem_iff_getElem?.1 s8;by_cases e:k=0
   ·subst e;have:=hm.args;unfold aF at this;rw[show((0:Int).toNat)=0 from rfl,hk]at this;simp only[Option.getD_some]at this;omega
   rw[hm.bare k c hk (by omega)];simp
  exact xq v (gx.1 (hm.DB c s8 v hv)).1 (((lY f.blocks 0).2 c s8).2.1 v hv)
 ·obtain⟨c,s8,_,h2,_⟩:=FQ b hb;rw[h2];refine⟨by have:=hm.ins c s8;omega,fun i hi=>?_⟩;obtain⟨q1,q2,q3,_⟩:=tD hm s8 hi;have hM:=((lY f.blocks 0).2 c s8).2.2 i hi;exact⟨xq _ q1.1 hM.1,fun a ha=>xq a (q2 a ha).1 (hM.2 a ha),by omega⟩
 ·obtain⟨c,s8,_,_,h3⟩:=FQ b hb;rw[h3];exact xq _ (gx.1 (hm.arg c s8)).1 ((lY f.blocks 0).2 c s8).1
 obtain⟨j,hj⟩:=List.mem_iff_getElem?.1 hb;have FY:=I hj;rw[hl]at FY;obtain⟨k,c,_,_,rfl⟩:=xj bo hm hc hj;exact Bm bo hm hc FY
theorem Ps:Hj (nO f) (bO (bH (ko f))) (fU (bH (ko f))) (j0 f) (lZ f).toNat (nO f).blocks.length:=by
 have hg:=Bn bo hm hc;have hw:=kP hg;have hl:=pM bo hm hc;have fL:∀k∈bO (bH (ko f)),0<=k∧k<(nO f).blocks.length:=fun k hk=>by
  obtain⟨i,hi⟩:=List.mem_iff_getElem?.1 hk;have:=hw.range k (by rw[hw.at_ i k hi];omega);rw[hl];exact this
 have hN:=Bd (g:=nO f) (many:=(lZ f).toNat) fL;have FQ:∀b∈(nO f).blocks,∃c∈f.blocks,b.ins=c.ins∧b.term.cases=c.term.cases:=fun b hb=>by
  obtain⟨j,hj⟩:=List.mem_iff_getElem?.1 hb;obtain⟨k,c,_,h2,rfl⟩:=xj bo hm hc hj;exact⟨c,List.mem_of_getElem? h2,rfl,rfl⟩
 refine⟨RO bo hm hc,rfl,fL,fun i j k hi hj=>?_,fun i k p hi hk hp=>?_,hw.few,by rw[Gx,hl],fun l Uq=>?_,hN.1,hN.2,fun b hb=>?_,fun b hb i hi=>?_⟩
 ·have h1:=hw.at_ i k hi;have h2:=hw.at_ j k hj;omega
 ·have:=Bh hg hi;rw[hp]at this;simp only[Bool.or_eq_true,Bool.and_eq_true,decide_eq_true_eq,Option.getD_some,List.any_cons,List.any_nil,Bool.or_false]at this;rcases this with q|q
  ·exact absurd q.2 hk
  exact Ay.1 q
 ·have:=xQ (bH (ko f)).blocks (k:=0) (c:=0) (ls:=List.replicate (bH (ko f)).blocks.length []) hg.to (fun l hl=>by rw[(List.mem_replicate.1 hl).2];simp) l Uq;have hf:=hg.few;omega
 ·obtain⟨c,s8,_,h2⟩:=FQ b hb;rw[h2];have:=(mD (hm.fin c s8)).cases;omega
 obtain⟨c,s8,h1,_⟩:=FQ b hb;rw[h1]at hi;exact(tD hm s8 hi).2.2.2
theorem Pp{j:Nat}(hj:j<(nO f).blocks.length):(j:Int)∈bO (bH (ko f)):=by
 have hw:=kP (Bn bo hm hc);have cr:=xS (vB bo hm hc) hw;rw[pM bo hm hc]at hj;rw[vt hw]at cr;have:=List.length_filter_eq_length_iff.1 (cr.trans (by rw[List.length_map,List.length_range])) (j:Int) (List.mem_map.2 ⟨j,List.mem_range.2 hj,rfl⟩);exact List.mem_of_getElem? (hw.get _ (of_decide_eq_true this))
end
end Go.Proofs.YtjdnhamngpafmaaGreat
namespace Go.Proofs.YtjdnhamngpafmaaGreat
open Go.Av

end Go.Proofs.YtjdnhamngpafmaaGreat
namespace Go.Av
def Bb{ι:Type}(τ:ι->St)(Q:dt->St->Prop):dt->St->Prop
 | .norm,σ=>∃i,ba σ (τ i)
 | e,σ=>Q e σ
theorem Fh{P:Program}{kb:Nat}{x y:Code}{Q:dt->St->Prop}{σ:St}{ι:Type}(τ:ι->St)(h1:bX P kb x (Bb τ Q) σ)(h2:∀i,bX P kb y Q (τ i)):bX P kb x (bC P kb y Q) σ :=
 h1.mono fun e fw h=>by
  cases e with
  | norm =>
   obtain⟨i,hi⟩:=h;exact(h2 i).cover hi
  | _=>exact h
theorem Ht{P:Program}{kb:Nat}{x y:Code}{Q:dt->St->Prop}{σ:St}{ι:Type}(τ:ι->St)(h1:bX P kb x (Bb τ Q) σ)(h2:∀i,bX P kb y Q (τ i)):bX P kb (.seq x y) Q σ:=aH (Fh τ h1 h2)
end Go.Av
namespace Go.Proofs.YtjdnhamngpafmaaGreat
open Go.Av
theorem wO(f:Func)(hn:f.blocks.length<=128):bA Tryz.prog 71 [f.enc] (ko f).enc:=by
 obtain⟨K,hK⟩:∃K,K=f.blocks.mapIdx xW:=⟨_,rfl⟩
 have Z7:K.length=f.blocks.length:=by rw[hK,List.length_mapIdx]
 have UW:∀(k:Nat) b,f.blocks[k]?=some b->K[k]?=some (xW k b):=fun k b h=>by
  rw[hK,List.getElem?_mapIdx,h];rfl
 have zI:ko f=⟨-1,K⟩:=by rw[hK];rfl
 rw[zI];clear hK zI;refine zf true 0 Tryz.func71 Tryz.ntmps71 ?_;dsimp only[Tmp,TypeId,slotsOf];refine ay (ai ?_);refine aC 1 0 (.ip none [aI f.name,aw f.blocks]) rfl (by simp[ak.aD]) trivial rfl ?_ ?_;rotate_left;simp -dsimp only[simprocAttr,↓aa,zp];rotate_left
 ·exact bM.mp rfl rfl
 refine ay (ai ?_);refine cY 2 1 rfl rfl ?_;simp -dsimp only[simprocAttr,↓aa,zp];refine bV (ai ?_);refine ah (aL (ι:={k:Nat // k<=f.blocks.length}) (fun k=>⟨60,[(2,.mp 1 0),(3,.mp 2 0),(10,aw f.blocks),(11,aI f.blocks.length),(12,aI k.1)],[.gone,.cells [aI 0,.aA 7 [] .ex],.cells [aI (-1),.aA 7 ((K.take k.1).map Block.enc) (.tok 3)],.spare k.1]⟩) (fun k=>f.blocks.length-k.1) ⟨0,Nat.zero_le _⟩ ?_ ?_)
 ·refine zq rfl ?_ ?_;simp -dsimp only[simprocAttr,↓aa,zp,zc]
  all_goals rfl
 rintro⟨k,hk⟩;refine ay (ai ?_);apply gJ rfl<;>intro h
 ·refine cj ?_;have C5:k<f.blocks.length:=by simpa using h
  obtain⟨b,hb⟩:∃b,f.blocks[k]?=some b:=⟨f.blocks[k],by simp[C5]⟩
  have eo:(K.take (k+1)).map Block.enc=(K.take k).map Block.enc++[(xW k b).enc]:=by
   rw[List.take_add_one,UW k b hb];simp
  have jc:((K.take k).map Block.enc).length=k:=by
   rw[List.length_map,List.length_take];omega
  have Q2:∀n,av n ((K.take k).map Block.enc):=fun n=>Block.ag n _;have LP:∀n,av n ((K.take k).map Block.enc++[(xW k b).enc]):=fun n=>by
   rw[<-eo];exact Block.ag n _
  generalize (K.take k).map Block.enc=T at *;obtain⟨t,ht⟩:∃t,t=BH b:=⟨_,rfl⟩
  have Rg:xW k b=⟨[],if TO t=true then [⟨(k:Int),0,0,[]⟩]else [],⟨t.kind,if TO t=true then(k:Int)else 0,t.n,t.cases,t.to⟩⟩:=by rw[ht];rfl
  unfold BH at ht;have PN:(xW k b).enc=.agg [.aA 1 [] .sh,.aA 4 ((xW k b).ins.map Ins.enc) .sh,aI t.kind,aI (xW k b).term.arg,aI t.n,aJ t.cases,aG t.to]:=by
   rw[Rg];rfl
  rw[PN]at eo LP;refine aH (ah ?_);refine aQ ?_;simp -dsimp only[simprocAttr,↓aa,zp,hb];refine ai ?_;refine aC 5 4 (.ip none [aJ b.params,a7 b.ins,aI b.term.kind,aI b.term.arg,aI b.term.n,aJ b.term.cases,aG b.term.to]) rfl (by simp[ak.aD]) trivial rfl ?_ ?_;rotate_left;simp -dsimp only[simprocAttr,↓aa,zp];rotate_left
  ·exact bM.mp rfl rfl
  refine ay (ai ?_);refine Ht (ι:=m9×m9) (fun i=>⟨60,[(2,.mp 1 0),(3,.mp 2 0),(10,aw f.blocks),(11,aI f.blocks.length),(12,aI k),(4,aI k),(6,.mp 5 0)],[.gone,.cells [aI 0,.aA 7 [] .ex],.cells [aI (-1),.aA 7 T (.tok 3)],.spare k,.gone,.cells [aI t.kind,aI 0,aI t.n,.aA 1 (t.cases.map aI) i.1,.aA 2 (t.to.map Edge.enc) i.2]]⟩) ?_ ?_
  ·by_cases q:b.term.kind=0
   ·have d:decide (b.term.kind=0)=true:=decide_eq_true q;rw[if_pos q]at ht;subst ht;refine aQ ?_;simp -dsimp only[simprocAttr,↓aa,zp,d];refine ai ?_;refine cB rfl ?_;refine eC hT hm ?_;simp -dsimp only[simprocAttr,↓aa,zp];refine a6 ?_;refine⟨(.ex,.ex),?_⟩;refine zq rfl ?_ ?_;simp -dsimp only[simprocAttr,↓aa,zp,zc]
    all_goals rfl
   have d:decide (b.term.kind=0)=false:=decide_eq_false q;rw[if_neg q]at ht;subst ht;refine aQ ?_;simp -dsimp only[simprocAttr,↓aa,zp,d];refine ai ?_;refine cv rfl ?_;refine aX ?_;refine⟨(.sh,.sh),?_⟩;refine zq rfl ?_ ?_;simp -dsimp only[simprocAttr,↓aa,zp,zc]
   all_goals rfl
  rintro⟨o1,o2⟩;refine dX 5 [aI t.kind,aI 0,aI t.n,aJ t.cases,aG t.to] rfl rfl (by intro d hd;simp at hd;rcases hd with rfl|rfl|rfl|rfl|rfl<;>trivial) (fun j c d hc hd=>?_) ?_
  ·match j,hc,hd with
   | 0,hc,hd | 1,hc,hd | 2,hc,hd=>simp at hc hd;rw[<-hc,<-hd];exact Sub.refl _
   | 3,hc,hd | 4,hc,hd=>simp at hc hd;rw[<-hc,<-hd];exact Sub.sh rfl
   | j+5,hc,hd=>simp at hc
  simp -dsimp only[simprocAttr,↓aa,zp];refine ay (ai ?_);refine fY (⟨60,[(2,.mp 1 0),(3,.mp 2 0),(10,aw f.blocks),(11,aI f.blocks.length),(12,aI k),(7,.mp 6 0)],[.gone,.cells [aI 0,.aA 7 [] .ex],.cells [aI (-1),.aA 7 T (.tok 3)],.spare k,.gone,.cells [aI t.kind,aI 0,aI t.n,aJ t.cases,aG t.to],.cells [.aA 1 [] .ex,.aA 4 ((xW k b).ins.map Ins.enc) .ex,aI t.kind,aI (xW k b).term.arg,aI t.n,aJ t.cases,aG t.to]]⟩) ?_ ?_
  ·rw[Rg];unfold TO;by_cases q2:t.kind=2
   ·have d2:decide (t.kind=2)=true:=decide_eq_true q2;refine aQ ?_;simp -dsimp only[simprocAttr,↓aa,zp,d2];refine ai ?_;refine cB rfl ?_;refine ay (ai ?_);refine eC hT hm ?_;simp -dsimp only[simprocAttr,↓aa,zp];refine a6 ?_;show ba _ _;refine zq rfl ?_ ?_;simp -dsimp only[simprocAttr,↓aa,zp,zc]
    all_goals (simp[d2];rfl)
   have d2:decide (t.kind=2)=false:=decide_eq_false q2;by_cases q3:t.kind=3
   ·have d3:decide (t.kind=3)=true:=decide_eq_true q3;refine aQ ?_;simp -dsimp only[simprocAttr,↓aa,zp,d2,d3];refine ai ?_;refine cB rfl ?_;refine ay (ai ?_);refine eC hT hm ?_;simp -dsimp only[simprocAttr,↓aa,zp];refine a6 ?_;show ba _ _;refine zq rfl ?_ ?_;simp -dsimp only[simprocAttr,↓aa,zp,zc]
    all_goals (simp[d2,d3];rfl)
   have d3:decide (t.kind=3)=false:=decide_eq_false q3;refine aQ ?_;simp -dsimp only[simprocAttr,↓aa,zp,d2,d3];refine ai ?_;refine cv rfl ?_;refine aX ?_;show ba _ _;refine zq rfl ?_ ?_;simp -dsimp only[simprocAttr,↓aa,zp,zc]
   all_goals (simp[d2,d3];done)
  refine jX ?_;simp -dsimp only[simprocAttr,↓aa,zp,jc]
  repeat(refine⟨by omega,?_⟩)
  refine ai ?_;refine bp 4 [(2,.mp 1 0),(3,.mp 2 0),(10,aw f.blocks),(11,aI f.blocks.length),(12,aI k)] (by simp) (by omega) [.gone,.cells [aI 0,.aA 7 [] .ex],.cells [aI (-1),.aA 7 (T++[.agg [.aA 1 [] .sh,.aA 4 ((xW k b).ins.map Ins.enc) .sh,aI t.kind,aI (xW k b).term.arg,aI t.n,aJ t.cases,aG t.to]]) (.tok 3)],.spare (k+1)] ?_ ?_ ?_ ?_ ?_
  ·rfl
  ·simp[ak.upto,av,ae.upto,ax,LP,Ins.ag,Edge.ag]
  ·simp[eQ,St.get,bw,a8,Go.Av.look,Sub.refl]
  ·simp[ak.upto,av,ae.upto,ax,Func.ag,Block.ag]
  refine cM ?_
  repeat(refine⟨by omega,?_⟩)
  refine eZ ?_;refine⟨⟨k+1,C5⟩,by simp;omega,?_⟩;dsimp only;rw[eo];refine zq rfl ?_ ?_;simp -dsimp only[simprocAttr,↓aa,zp,zc]
  ·exact Sub.int (by simp)
  rfl
 refine aK ?_;simp -dsimp only[bI,ne_eq,Nat.reduceEqDiff,reduceCtorEq];have EB:f.blocks.length<=k:=by simpa using h
 rw[List.take_of_length_le (by omega)];refine ay (ai ?_);refine aq ?_;simp -dsimp only[simprocAttr,↓aa,zp,zr,Tryz.results71];exact⟨⟨trivial,⟨Block.ag _ _,trivial⟩,trivial⟩,rfl⟩
structure Cx where
 k:Nat
 dO:Nat
 ids:List Nat
 O:List ak
structure Ci where
 j:Nat
 O:List ak
structure Ce where
 z:Nat
 tid:Nat
 O:List ak
theorem I3{l:List Ins}{j:Nat}{i:Ins}(h:l[j]?=some i):(l.take (j+1)).map Ins.enc=(l.take j).map Ins.enc++[i.enc]:=by
 rw[List.take_add_one,h,List.map_append];rfl
theorem Jy(O:List ak)(C0:List ae):(O++[ak.cells C0]++[ak.spare 0]).set O.length (.cells (C0.set 1 (.aA 4 [] (.tok (O++[ak.cells C0]).length))))=O++[.cells (C0.set 1 (.aA 4 [] (.tok (O.length+1)))),.spare 0]:=by simp
abbrev tW(id:Nat)(b:Block)(l:List ae)(t:ae):List ae:=[aJ b.params,.aA 4 l (.tok id),aI b.term.kind,aI b.term.arg,aI b.term.n,aJ b.term.cases,t]
abbrev lN(id:Nat)(b:Block)(l:List Ins)(t:ae):List ae:=[aJ b.params,.aA 4 (l.map Ins.enc) (.tok id),aI b.term.kind,aI b.term.arg,aI b.term.n,aJ b.term.cases,t]
theorem lO{n id:Nat}(b:Block)(l:List Ins){t:ae}(h:id<n)(ht:t.upto n):av n (lN id b l t):=⟨⟨ax _ _,trivial⟩,⟨Ins.ag _ _,h⟩,trivial,trivial,trivial,⟨ax _ _,trivial⟩,ht,trivial⟩
theorem Fx(f:Func)(hs:Wu f)(cq:f.blocks≠[]):bd Tryz.prog 33 [.gone,.cells [aI 0,.aA 7 [] .ex]] [f.enc] (UE f):=by
 have gg:=fun(l:List Int) (h:l.length<=4096)=>uw l (by omega);have Pz:=CA f;have hn:=hs.few;obtain⟨N,hN⟩:∃N,N=f.blocks.length:=⟨_,rfl⟩
 rw[<-hN]at hn;refine xe hT Tryz.func33 rfl (by kernel_rfl) (by simp[Tryz.ntmps33]) ?_;show bX Tryz.prog _ _ _ ⟨83,_,_⟩;dsimp only[Tmp,TypeId,slotsOf];refine ay (ai ?_);refine aC 1 2 (.ip none [aI f.name,aw f.blocks]) rfl (by simp[ak.aD]) trivial rfl ?_ ?_;rotate_left;simp -dsimp only[simprocAttr,↓aa,zp]
 ·refine ay (ai ?_);refine c7 ?_;simp -dsimp only[simprocAttr,↓aa,zp,<-hN];refine ai ?_;show bX Tryz.prog _ _ _ ⟨_,_,[.gone,.cells [aI 0,.aA 7 [] .ex],.gone,.cells [aI 0,.aA 7 [] .ex],.cells [aI f.name,.aA 7 [] .ex]]⟩;generalize [ak.gone,.cells [aI 0,.aA 7 [] .ex],.gone,.cells [aI 0,.aA 7 [] .ex],.cells [aI f.name,.aA 7 [] .ex]]=O0 at *;refine ah (aL (ι:={X:Cx // X.k<=N∧K5 f (f.blocks.take X.k) X.dO X.ids X.O}) (fun X=>⟨83,[(1,.ip none [aI f.name,aw f.blocks]),(2,.mp 3 0),(3,.mp 4 0),(15,aw f.blocks),(16,aI N),(17,aI X.1.k)],X.1.O⟩) (fun X=>N-X.1.k) ⟨⟨0,0,[],O0⟩,by simp,Pz⟩ ?_ ?_)
  ·refine zq rfl ?_ ?_;simp -dsimp only[simprocAttr,↓aa,zp,zc]
   all_goals rfl
  rintro⟨⟨k,dO,ids,O⟩,hk,hS⟩;simp only at hk hS;refine ay (ai ?_);apply gJ rfl<;>intro h
  ·refine cj ?_;have bf:k<N:=by simpa using h
   obtain⟨b,hb⟩:∃b,f.blocks[k]?=some b:=⟨f.blocks[k]'(by omega),List.getElem?_eq_getElem _⟩
   have mg:=List.mem_of_getElem? hb;have eo:f.blocks.take (k+1)=f.blocks.take k++[b]:=by rw[List.take_add_one,hb];rfl
   have hbp:=hs.params b mg;have YB:=hs.ins b mg;have YA:=hs.OL b mg;have U7:=hs.cases b mg;have YD:=hs.to b mg;have Ix:=hs.Oe b mg;have PH:=gg b.params (by omega);have Q5:=gg b.term.cases (by omega);have UO:=I hS.r3;have X3:=I hS.out;refine aH (ah ?_);refine aQ ?_;simp -dsimp only[simprocAttr,↓aa,zp,hb];refine ai ?_;refine aV 5 ([aJ b.params,a7 b.ins,aI b.term.kind,aI b.term.arg,aI b.term.n,aJ b.term.cases,aG b.term.to]) [(1,.ip none [aI f.name,aw f.blocks]),(2,.mp 3 0),(3,.mp 4 0),(15,aw f.blocks),(16,aI N),(17,aI k),(5,.ip none [aJ b.params,a7 b.ins,aI b.term.kind,aI b.term.arg,aI b.term.n,aJ b.term.cases,aG b.term.to])] (by simp[bw,a8,Go.Av.look]) (by rfl) (by omega) (by simp[bw,a8,Go.Av.look]) ?_ ?_ ?_
   ·exact hS.up
   ·simp[ae.upto,av,ax,Edge.ag,Ins.ag,Block.ag,UO,X3]
   refine ay ?_;refine zi PH ?_;refine⟨ob (by kernel_rfl),?_⟩;refine ai ?_;refine cY O.length 1 (sz:=4) (xs:=[]) (kT _ _) rfl ?_;show bX Tryz.prog _ _ _ ⟨_,_,(O++[ak.cells [aJ b.params,.aA 4 [] .ex,aI b.term.kind,aI b.term.arg,aI b.term.n,aJ b.term.cases,aG b.term.to]]++[ak.spare 0]).set O.length (.cells ([aJ b.params,.aA 4 [] .ex,aI b.term.kind,aI b.term.arg,aI b.term.n,aJ b.term.cases,aG b.term.to].set 1 (.aA 4 [] (.tok (O++[ak.cells [aJ b.params,.aA 4 [] .ex,aI b.term.kind,aI b.term.arg,aI b.term.n,aJ b.term.cases,aG b.term.to]]).length))))⟩;rw[Jy];have hI:=G2.start hS.up (cs:=lN (O.length+1) b [] (aG b.term.to)) (lO b [] (by omega) ⟨Edge.ag _ _,trivial⟩);show bX Tryz.prog _ _ _ ⟨_,_,O++[ak.cells (lN (O.length+1) b [] (aG b.term.to)),.spare 0]⟩;generalize O++[ak.cells (lN (O.length+1) b [] (aG b.term.to)),.spare 0]=O2 at *;refine bV (ai ?_);refine ah (aL (ι:={X:Ci // X.j<=b.ins.length∧G2 O (lN (O.length+1) b (b.ins.take X.j) (aG b.term.to)) X.j X.O}) (fun X=>⟨83,[(1,.ip none [aI f.name,aw f.blocks]),(2,.mp 3 0),(3,.mp 4 0),(15,aw f.blocks),(16,aI N),(17,aI k),(5,.ip none [aJ b.params,a7 b.ins,aI b.term.kind,aI b.term.arg,aI b.term.n,aJ b.term.cases,aG b.term.to]),(6,.mp O.length 0),(28,a7 b.ins),(29,aI b.ins.length),(30,aI X.1.j)],X.1.O⟩) (fun X=>b.ins.length-X.1.j) ⟨⟨0,O2⟩,by simp,hI⟩ ?_ ?_)
   ·refine zq rfl ?_ ?_;simp -dsimp only[simprocAttr,↓aa,zp,zc]
    all_goals rfl
   rintro⟨⟨j,O2⟩,hj,hI⟩;simp only at hj hI;have WN:=hI.len;refine ay (ai ?_);apply gJ rfl<;>intro h
   ·refine cj ?_;have xr:j<b.ins.length:=by simpa using h
    obtain⟨i,hi⟩:∃i,b.ins[j]?=some i:=⟨b.ins[j],by simp[xr]⟩
    have YF:=gg i.args (by have:=YA i (List.mem_of_getElem? hi);omega);have eS:=hI.cell;have nh:=hI.sp;have jc:(b.ins.take j).length=j:=by rw[List.length_take];omega
    refine aH (ah ?_);refine aQ ?_;simp -dsimp only[simprocAttr,↓aa,zp,hi];refine ai ?_;refine ay ?_;refine zi YF ?_;refine ai ?_;refine aV 8 ([aI i.to,aI i.op,aI i.n,aJ i.args]) [(1,.ip none [aI f.name,aw f.blocks]),(2,.mp 3 0),(3,.mp 4 0),(15,aw f.blocks),(16,aI N),(17,aI k),(5,.ip none [aJ b.params,a7 b.ins,aI b.term.kind,aI b.term.arg,aI b.term.n,aJ b.term.cases,aG b.term.to]),(6,.mp O.length 0),(28,a7 b.ins),(29,aI b.ins.length),(30,aI j),(8,.ip none [aI i.to,aI i.op,aI i.n,aJ i.args])] (by simp[bw,a8,Go.Av.look]) (by rfl) (by omega) (by simp[bw,a8,Go.Av.look]) ?_ ?_ ?_
    ·exact hI.up
    ·have T7:=I eS;simp[ae.upto,av,ax,Edge.ag,Ins.ag,Block.ag,T7,show 3<O2.length by omega,show 4<O2.length by omega]
    have pO:∀y,(O2.set (O.length+1) y)[O.length]?=some (.cells (lN (O.length+1) b (b.ins.take j) (aG b.term.to))):=fun y=>by rw[List.getElem?_set_ne (by omega)];exact eS
    refine jX ?_;simp -dsimp only[simprocAttr,↓aa,zp,eS,pO,nh,lN,List.length_map,jc]
    repeat(refine⟨by omega,?_⟩)
    refine ai ?_;have hIn:=(hI.room (j+1)).one (cs':=lN (O.length+1) b (b.ins.take (j+1)) (aG b.term.to)) (lO b _ (by omega) ⟨Edge.ag _ _,trivial⟩);show bX Tryz.prog _ _ _ ⟨_,_,(O2.set (O.length+1) (ak.spare (j+1))).set O.length (.cells (tW (O.length+1) b ((b.ins.take j).map Ins.enc++[i.enc]) (aG b.term.to)))⟩;rw[<-I3 hi];have hIn:G2 O _ _ ((O2.set (O.length+1) (ak.spare (j+1))).set O.length (.cells (tW (O.length+1) b ((b.ins.take (j+1)).map Ins.enc) (aG b.term.to)))):=hIn;generalize (O2.set (O.length+1) (ak.spare (j+1))).set O.length (.cells (tW (O.length+1) b ((b.ins.take (j+1)).map Ins.enc) (aG b.term.to)))=O5 at *;refine cM ?_
    repeat(refine⟨by omega,?_⟩)
    refine eZ ?_;refine⟨⟨⟨j+1,O5⟩,xr,hIn⟩,by simp;omega,?_⟩;refine zq rfl ?_ ?_;simp -dsimp only[simprocAttr,↓aa,zp,zc]
    ·exact Sub.int (by simp)
    rfl
   refine aK ?_;simp -dsimp only[bI,ne_eq,Nat.reduceEqDiff,reduceCtorEq];have FY:b.ins.length<=j:=by
    have:=of_decide_eq_false h;omega
   rw[List.take_of_length_le FY]at hI;have eS:=hI.cell;refine aQ ?_;simp -dsimp only[simprocAttr,↓aa,zp,eS];refine .inl ⟨_,Q5,by simp only[av,ae.upto,zt,zu,ax],ao ?_⟩;simp -dsimp only[simprocAttr,↓aa,zp,eS];refine ai ?_;have hIn:=hI.one (cs':=lN (O.length+1) b b.ins (aG b.term.to)) (lO b _ (by omega) ⟨Edge.ag _ _,trivial⟩);show bX Tryz.prog _ _ _ ⟨_,_,O2.set O.length (.cells (lN (O.length+1) b b.ins (aG b.term.to)))⟩;generalize O2.set O.length (.cells (lN (O.length+1) b b.ins (aG b.term.to)))=O5 at *;have eS:=hIn.cell;refine aQ ?_;simp -dsimp only[simprocAttr,↓aa,zp,eS];refine ai ?_;have Z5:=hIn.len;have Mg:lN (O.length+1) b b.ins (.aA 2 [] .ex)=[aJ b.params,.aA 4 (b.ins.map Ins.enc) (.tok (O.length+1)),aI b.term.kind,aI b.term.arg,aI b.term.n,aJ b.term.cases,.aA 2 [] .ex]:=rfl;refine dX O.length (lN (O.length+1) b b.ins (.aA 2 [] .ex)) (List.getElem?_set_self (by omega)) rfl (fun d hd=>?_) (fun j c d hc hd=>?_) ?_
   ·simp only[lN,tW,List.mem_cons,List.not_mem_nil,or_false]at hd;rcases hd with rfl|rfl|rfl|rfl|rfl|rfl|rfl<;>trivial
   ·match j,hc,hd with
    | 0,hc,hd=>exact Sub.of_eq (by simpa[lN,tW]using hc.symm.trans hd)
    | 1,hc,hd=>exact Sub.of_eq (by simpa[lN,tW]using hc.symm.trans hd)
    | 2,hc,hd=>exact Sub.of_eq (by simpa[lN,tW]using hc.symm.trans hd)
    | 3,hc,hd=>exact Sub.of_eq (by simpa[lN,tW]using hc.symm.trans hd)
    | 4,hc,hd=>exact Sub.of_eq (by simpa[lN,tW]using hc.symm.trans hd)
    | 5,hc,hd=>exact Sub.of_eq (by simpa[lN,tW]using hc.symm.trans hd)
    | 6,hc,hd =>
     simp only[lN,tW,List.getElem?_cons_succ,List.getElem?_cons_zero,Option.some.injEq]at hc hd;subst hc;subst hd;exact Sub.MA 2
    | j+7,hc,hd=>simp at hc
   rw[List.set_set];have hE:=K4.start (cs:=lN (O.length+1) b b.ins) (hIn.one (cs':=lN (O.length+1) b b.ins (.aA 2 [] .ex)) (lO b _ (by omega) ⟨trivial,trivial⟩));generalize O5.set O.length (.cells (lN (O.length+1) b b.ins (.aA 2 [] .ex)))=O6 at *;refine bV (ai ?_);refine ah (aL (ι:={X:Ce // X.z<=b.term.to.length∧K4 O (lN (O.length+1) b b.ins) X.tid (b.term.to.take X.z) X.O}) (fun X=>⟨83,[(1,.ip none [aI f.name,aw f.blocks]),(2,.mp 3 0),(3,.mp 4 0),(15,aw f.blocks),(16,aI N),(17,aI k),(5,.ip none [aJ b.params,a7 b.ins,aI b.term.kind,aI b.term.arg,aI b.term.n,aJ b.term.cases,aG b.term.to]),(6,.mp O.length 0),(55,aG b.term.to),(56,aI b.term.to.length),(57,aI X.1.z)],X.1.O⟩) (fun X=>b.term.to.length-X.1.z) ⟨⟨0,0,O6⟩,by simp,hE⟩ ?_ ?_)
   ·refine zq rfl ?_ ?_;simp -dsimp only[simprocAttr,↓aa,zp,zc]
    all_goals rfl
   rintro⟨⟨z,tid,O3⟩,hz,hE⟩;simp only at hz hE;have Er:=hE.len;refine ay (ai ?_);apply gJ rfl<;>intro h
   ·refine cj ?_;have vQ:z<b.term.to.length:=by simpa using h
    obtain⟨e,he⟩:∃e,b.term.to[z]?=some e:=⟨b.term.to[z],by simp[vQ]⟩
    have FT:=gg e.args (Ix e (List.mem_of_getElem? he));have eS:=hE.cell;have Tz:b.term.to.take (z+1)=b.term.to.take z++[e]:=by rw[List.take_add_one,he];rfl
    have jc:(b.term.to.take z).length=z:=by rw[List.length_take];omega
    have T7:=I eS;refine aH (ah ?_);refine aQ ?_;simp -dsimp only[simprocAttr,↓aa,zp,he];refine ai ?_;refine aV 10 ([aI e.block,aJ e.args]) [(1,.ip none [aI f.name,aw f.blocks]),(2,.mp 3 0),(3,.mp 4 0),(15,aw f.blocks),(16,aI N),(17,aI k),(5,.ip none [aJ b.params,a7 b.ins,aI b.term.kind,aI b.term.arg,aI b.term.n,aJ b.term.cases,aG b.term.to]),(6,.mp O.length 0),(55,aG b.term.to),(56,aI b.term.to.length),(57,aI z),(10,.ip none [aI e.block,aJ e.args])] (by simp[bw,a8,Go.Av.look]) (by rfl) (by omega) (by simp[bw,a8,Go.Av.look]) ?_ ?_ ?_
    ·exact hE.up
    ·simp[ae.upto,av,ax,Edge.ag,Ins.ag,Block.ag,T7,show 3<O3.length by omega,show 4<O3.length by omega]
    by_cases Ro:b.term.to.take z=[]
    ·have VN:Bj tid (b.term.to.take z)=.aA 2 [] .ex:=if_pos Ro;rw[VN]at eS;have pO:∀X,(O3++X)[O.length]?=some (.cells (lN (O.length+1) b b.ins (.aA 2 [] .ex))):=fun X=>cm eS;refine N1 ?_;simp -dsimp only[simprocAttr,↓aa,zp,eS,pO,lN,dL,eN]
     repeat(refine⟨by omega,?_⟩)
     refine .inl ⟨_,FT,by simp only[av,ae.upto,zt,zu,ax],ao ?_⟩;simp -dsimp only[simprocAttr,↓aa,zp,eS,pO,lN,dL,eN]
     repeat(refine⟨by omega,?_⟩)
     refine⟨trivial,?_⟩;refine⟨ob (by kernel_rfl),?_⟩;refine ai ?_;have jn:K4 O (lN (O.length+1) b b.ins) O3.length (b.term.to.take z++[e]) ((O3++[ak.cells [aI e.block,aJ e.args]]).set O.length (.cells (lN (O.length+1) b b.ins (.os O3.length 1 2)))):=hE.push e (fun v n hv hn=>lO b _ (by omega) hv) rfl hE.up (fun _ _=>rfl) (by rw[Ro];rfl) (by rw[Ro];rfl);show bX Tryz.prog _ _ _ ⟨_,_,(O3++[ak.cells [aI e.block,aJ e.args]]).set O.length (.cells (lN (O.length+1) b b.ins (.os O3.length 1 2)))⟩;generalize (O3++[ak.cells [aI e.block,aJ e.args]]).set O.length (.cells (lN (O.length+1) b b.ins (.os O3.length 1 2)))=O7 at *;refine cM ?_
     repeat(refine⟨by omega,?_⟩)
     refine eZ ?_;refine⟨⟨⟨z+1,O3.length,O7⟩,vQ,by rw[Tz];exact jn⟩,by simp;omega,?_⟩;refine zq rfl ?_ ?_;simp -dsimp only[simprocAttr,↓aa,zp,zc]
     ·exact Sub.int (by simp)
     rfl
    obtain⟨o1,o2⟩:=hE.own Ro;have VN:Bj tid (b.term.to.take z)=.os tid z 2:=by
     unfold Bj;rw[if_neg Ro,jc]
    rw[VN]at eS;have pO:∀X,(O3.set tid .gone++X)[O.length]?=some (.cells (lN (O.length+1) b b.ins (.os tid z 2))):=fun X=>cm (br eS (by omega));have yA:(gy (b.term.to.take z)).take (z*2)=gy (b.term.to.take z):=List.take_of_length_le (by rw[mA];omega);have L0:=mA (b.term.to.take z);rw[jc]at L0;refine jX ?_;simp -dsimp only[simprocAttr,↓aa,zp,eS,pO,lN,o2,yA,L0,dL,eN]
    repeat(refine⟨by omega,?_⟩)
    refine .inl ⟨_,FT,by simp only[av,ae.upto,zt,zu,ax],ao ?_⟩;simp -dsimp only[simprocAttr,↓aa,zp,eS,pO,lN,o2,yA,L0,dL,eN]
    repeat(refine⟨by omega,?_⟩)
    refine⟨trivial,?_⟩;refine⟨ob (by kernel_rfl),?_⟩;refine ai ?_;have jn:K4 O (lN (O.length+1) b b.ins) O3.length (b.term.to.take z++[e]) ((O3.set tid .gone++[ak.cells (gy (b.term.to.take z)++[aI e.block,aJ e.args])]).set O.length (.cells (lN (O.length+1) b b.ins (.os O3.length (z+1) 2)))):=hE.push (O4:=O3.set tid .gone) e (fun v n hv hn=>lO b _ (by omega) hv) (List.length_set) (bt hE.up trivial) (fun k hk=>by rw[List.getElem?_set_ne (Ne.symm (hk Ro))]) (by rw[H3]) (by rw[jc]);show bX Tryz.prog _ _ _ ⟨_,_,(O3.set tid .gone++[ak.cells (gy (b.term.to.take z)++[aI e.block,aJ e.args])]).set O.length (.cells (lN (O.length+1) b b.ins (.os O3.length (z+1) 2)))⟩;generalize (O3.set tid .gone++[ak.cells (gy (b.term.to.take z)++[aI e.block,aJ e.args])]).set O.length (.cells (lN (O.length+1) b b.ins (.os O3.length (z+1) 2)))=O7 at *;refine cM ?_
    repeat(refine⟨by omega,?_⟩)
    refine eZ ?_;refine⟨⟨⟨z+1,O3.length,O7⟩,vQ,by rw[Tz];exact jn⟩,by simp;omega,?_⟩;refine zq rfl ?_ ?_;simp -dsimp only[simprocAttr,↓aa,zp,zc]
    ·exact Sub.int (by simp)
    rfl
   refine aK ?_;simp -dsimp only[bI,ne_eq,Nat.reduceEqDiff,reduceCtorEq];have zJ:b.term.to.length<=z:=by
    have:=of_decide_eq_false h;omega
   rw[List.take_of_length_le zJ]at hE;have eS:=hE.cell;have ik:=hS.out;have P6:=hE.lF 4 (by omega);rw[ik]at P6;have wB:(f.blocks.take k).length=k:=by rw[List.length_take];omega
   have nT:=hE.own;have T7:=I eS;by_cases po:f.blocks.take k=[]
   ·have mJ:je dO (f.blocks.take k)=.aA 7 [] .ex:=if_pos po;rw[mJ]at P6;have P7:∀X,(O3++X)[4]?=some (.cells [aI f.name,.aA 7 [] .ex]):=fun X=>cm P6;refine N1 ?_;simp -dsimp only[simprocAttr,↓aa,zp,eS,lN,P6,P7,dL,eN,vl,vk]
    repeat(refine⟨by omega,?_⟩)
    refine⟨trivial,?_⟩;refine ai ?_;have jn:K5 f (f.blocks.take k++[b]) O3.length (ids++[tid]) ((O3++[ak.cells (tq tid b)]).set 4 (.cells [aI f.name,.os O3.length 1 7])):=hS.snoc (by omega) hE.up (fun k hk _=>hE.lF k hk) (fun q=>⟨by have:=(nT q).1;omega,(nT q).2⟩) (by rw[ry hS.cp.li,po];simp[fh]) (by rw[po];rfl);show bX Tryz.prog _ _ _ ⟨_,_,(O3++[ak.cells (tq tid b)]).set 4 (.cells [aI f.name,.os O3.length 1 7])⟩;generalize (O3++[ak.cells (tq tid b)]).set 4 (.cells [aI f.name,.os O3.length 1 7])=O7 at *;refine cM ?_
    repeat(refine⟨by omega,?_⟩)
    refine eZ ?_;refine⟨⟨⟨k+1,O3.length,ids++[tid],O7⟩,bf,by rw[eo];exact jn⟩,by simp;omega,?_⟩;refine zq rfl ?_ ?_;simp -dsimp only[simprocAttr,↓aa,zp,zc]
    ·exact Sub.int (by simp)
    rfl
   obtain⟨b1,b2⟩:=hS.blk po;have pN:=I b2;have b3:=hE.lF dO pN;rw[b2]at b3;have mJ:je dO (f.blocks.take k)=.os dO k 7:=by
    unfold je;rw[if_neg po,wB]
   rw[mJ]at P6;have P7:∀X,(O3.set dO .gone++X)[4]?=some (.cells [aI f.name,.os dO k 7]):=fun X=>cm (br P6 (by omega));have AB:=lQ hS.cp.li;rw[wB]at AB;have yA:(fh ids (f.blocks.take k)).take (k*7)=fh ids (f.blocks.take k):=List.take_of_length_le (by omega);refine jX ?_;simp -dsimp only[simprocAttr,↓aa,zp,eS,lN,P6,P7,b3,yA,AB,dL,eN,vl,vk]
   repeat(refine⟨by omega,?_⟩)
   refine⟨trivial,?_⟩;refine ai ?_;have jn:K5 f (f.blocks.take k++[b]) O3.length (ids++[tid]) ((O3.set dO .gone++[ak.cells (fh ids (f.blocks.take k)++tq tid b)]).set 4 (.cells [aI f.name,.os O3.length (k+1) 7])):=by
    have:=hS.snoc (O1:=O3.set dO .gone) (b:=b) (tid:=tid) (by rw[List.length_set];omega) (by rw[List.length_set];exact bt hE.up trivial) (fun k hk FZ=>by rw[List.getElem?_set_ne (Ne.symm (FZ po))];exact hE.lF k hk) (fun q=>⟨by have:=(nT q).1;omega,by rw[List.getElem?_set_ne (by have:=(nT q).1;omega)];exact(nT q).2⟩) (ry hS.cp.li tid b).symm rfl;rw[List.length_set,wB]at this;exact this
   show bX Tryz.prog _ _ _ ⟨_,_,(O3.set dO .gone++[ak.cells (fh ids (f.blocks.take k)++tq tid b)]).set 4 (.cells [aI f.name,.os O3.length (k+1) 7])⟩;generalize (O3.set dO .gone++[ak.cells (fh ids (f.blocks.take k)++tq tid b)]).set 4 (.cells [aI f.name,.os O3.length (k+1) 7])=O7 at *;refine cM ?_
   repeat(refine⟨by omega,?_⟩)
   refine eZ ?_;refine⟨⟨⟨k+1,O3.length,ids++[tid],O7⟩,bf,by rw[eo];exact jn⟩,by simp;omega,?_⟩;refine zq rfl ?_ ?_;simp -dsimp only[simprocAttr,↓aa,zp,zc]
   ·exact Sub.int (by simp)
   rfl
  refine aK ?_;simp -dsimp only[bI,ne_eq,Nat.reduceEqDiff,reduceCtorEq];have SI:k=N:=by
   have:=of_decide_eq_false h;omega
  subst SI;rw[List.take_of_length_le (by omega)]at hS;have ik:=hS.out;have Uv:=hS.r3;have mJ:je dO f.blocks=.os dO f.blocks.length 7:=if_neg cq;rw[mJ]at ik;have pN:=I (hS.blk cq).2;have hR:=hS.done cq (cs:=[aI f.name,.os dO f.blocks.length 7]) ⟨trivial,pN,trivial⟩;have UO:=I Uv;have VQ:(O.set 3 (.cells [aI f.name,.os dO f.blocks.length 7]))[3]?=some (.cells [aI f.name,.os dO f.blocks.length 7]):=List.getElem?_set_self UO;refine aQ ?_;simp -dsimp only[simprocAttr,↓aa,zp,ik,Uv];refine ai ?_;refine aq ?_;simp -dsimp only[simprocAttr,↓aa,zp,B7,Tryz.results33,fH,oh,iQ,lp,jB,kl,VQ];exact hR
 exact bM.mp rfl rfl
end Go.Proofs.YtjdnhamngpafmaaGreat
namespace Go.Proofs.YtjdnhamngpafmaaGreat
open Go.Av Go.Sort
def A3:Go.Shelf.Ren:=⟨fun|125=>68|128=>102|129=>103|189=>40|215=>93|216=>64|257=>67|294=>94|295=>95|296=>96|297=>97|298=>98|299=>99|300=>100|301=>101|328=>122|329=>123|330=>124|331=>125|332=>126|343=>147|n=>n,fun|0=>0|3=>3|4=>4|5=>5|9=>9|28=>41|46=>110|51=>158|53=>140|131=>88|182=>152|183=>153|218=>191|222=>195|228=>211|229=>212|n=>n,fun n=>n⟩
theorem ET:Go.Proofs.Lays.n189 Tryz.prog A3:={
 mixed:=by kernel_rfl,
 f125:=Tryz.func68.trans (congrArg some (by kernel_rfl)),
 f128:=Tryz.func102.trans (congrArg some (by kernel_rfl)),
 f129:=Tryz.func103.trans (congrArg some (by kernel_rfl)),
 f189:=Tryz.func40.trans (congrArg some (by kernel_rfl)),
 f215:=Tryz.func93.trans (congrArg some (by kernel_rfl)),
 f216:=Tryz.func64.trans (congrArg some (by kernel_rfl)),
 f257:=Tryz.func67.trans (congrArg some (by kernel_rfl)),
 f294:=Tryz.func94.trans (congrArg some (by kernel_rfl)),
 f295:=Tryz.func95.trans (congrArg some (by kernel_rfl)),
 f296:=Tryz.func96.trans (congrArg some (by kernel_rfl)),
 f297:=Tryz.func97.trans (congrArg some (by kernel_rfl)),
 f298:=Tryz.func98.trans (congrArg some (by kernel_rfl)),
 f299:=Tryz.func99.trans (congrArg some (by kernel_rfl)),
 f300:=Tryz.func100.trans (congrArg some (by kernel_rfl)),
 f301:=Tryz.func101.trans (congrArg some (by kernel_rfl)),
 f328:=Tryz.func122.trans (congrArg some (by kernel_rfl)),
 f329:=Tryz.func123.trans (congrArg some (by kernel_rfl)),
 f330:=Tryz.func124.trans (congrArg some (by kernel_rfl)),
 f331:=Tryz.func125.trans (congrArg some (by kernel_rfl)),
 f332:=Tryz.func126.trans (congrArg some (by kernel_rfl)),
 f343:=Tryz.func147.trans (congrArg some (by kernel_rfl)),
 t0:=Tryz.underlying0,
 a0:=Tryz.isAgg0,
 z0:=Tryz.sizeOf0,
 v0:=Tryz.zeroValue0,
 t3:=Tryz.underlying3,
 a3:=Tryz.isAgg3,
 z3:=Tryz.sizeOf3,
 v3:=Tryz.zeroValue3,
 t4:=Tryz.underlying4,
 a4:=Tryz.isAgg4,
 z4:=Tryz.sizeOf4,
 v4:=Tryz.zeroValue4,
 t5:=Tryz.underlying5,
 a5:=Tryz.isAgg5,
 z5:=Tryz.sizeOf5,
 v5:=Tryz.zeroValue5,
 t9:=Tryz.underlying9,
 a9:=Tryz.isAgg9,
 z9:=Tryz.sizeOf9,
 v9:=Tryz.zeroValue9,
 t28:=Tryz.underlying41,
 a28:=Tryz.isAgg41,
 z28:=Tryz.sizeOf41,
 v28:=Tryz.zeroValue41,
 t46:=Tryz.underlying110,
 a46:=Tryz.isAgg110,
 z46:=Tryz.sizeOf110,
 v46:=Tryz.zeroValue110,
 t51:=Tryz.underlying158,
 a51:=Tryz.isAgg158,
 z51:=Tryz.sizeOf158,
 v51:=Tryz.zeroValue158,
 t53:=Tryz.underlying140,
 a53:=Tryz.isAgg140,
 z53:=Tryz.sizeOf140,
 v53:=Tryz.zeroValue140,
 t131:=Tryz.underlying88,
 a131:=Tryz.isAgg88,
 z131:=Tryz.sizeOf88,
 v131:=Tryz.zeroValue88,
 t182:=Tryz.underlying152,
 a182:=Tryz.isAgg152,
 z182:=Tryz.sizeOf152,
 v182:=Tryz.zeroValue152,
 t183:=Tryz.underlying153,
 a183:=Tryz.isAgg153,
 z183:=Tryz.sizeOf153,
 v183:=Tryz.zeroValue153,
 t218:=Tryz.underlying191,
 a218:=Tryz.isAgg191,
 z218:=Tryz.sizeOf191,
 v218:=Tryz.zeroValue191,
 t222:=Tryz.underlying195,
 a222:=Tryz.isAgg195,
 z222:=Tryz.sizeOf195,
 v222:=Tryz.zeroValue195,
 t228:=Tryz.underlying211,
 a228:=Tryz.isAgg211,
 z228:=Tryz.sizeOf211,
 v228:=Tryz.zeroValue211,
 t229:=Tryz.underlying212,
 a229:=Tryz.isAgg212,
 z229:=Tryz.sizeOf212,
 v229:=Tryz.zeroValue212 }
theorem DT:wT Tryz.prog 40:=fun blk off cap zs w h1 h2 h3=>Any.slices_Sort_int ET blk off cap zs w h1 h2 h3
theorem sO:Go.Av.Enters Tryz.prog 40:=⟨_,Tryz.func40,by kernel_rfl,by kernel_rfl⟩
theorem GP{O:List ak}{id:Nat}{zs:List Int}(ho:O[id]?=some (.cells (zs.map aI)))(hl:zs.length<=1000) :
  bd Tryz.prog 40 O [.os id zs.length 1] (fun r O'=>r=.cw []∧O'=O.set id (.cells ((oq zs).map aI))):=BJ sO DT ho hl
theorem vE(p:Option Addr)(cap:Nat)(w:World):Calls Tryz.prog 40 #[.slice p 0 cap] w fun e w'=>e=.returned (.tuple #[])∧w'=w:=Any.slices_Sort_int_none ET p cap w
theorem JR(O:List ak):bd Tryz.prog 40 O [.aA 1 [] .sh] (fun r O'=>r=.cw []∧O'=O):=by
 refine⟨sO,fun g vs hg Ex KV=>?_⟩;obtain⟨h1,h2⟩:=KV;simp only[List.length_singleton]at h1;have Mo:vs[0]?=some (vs[0]'(by omega)):=Array.getElem?_eq_getElem _;have hr:=h2 0 _ _ rfl Mo;have hv:∃p cap,vs = #[.slice p 0 cap]:=by
  have:∃p cap,vs[0]'(by omega)=.slice p 0 cap:=by
   generalize vs[0]'(by omega)=u at hr;cases hr with
   | nil=>exact⟨_,_,rfl⟩
   | aA=>exact⟨_,_,rfl⟩
  obtain⟨p,cap,e⟩:=this;refine⟨p,cap,?_⟩;apply Array.ext
  ·simpa using h1
  intro i PW KQ;have:i=0:=by omega
  subst this;exact e
 obtain⟨p,cap,rfl⟩:=hv;refine(vE p cap g.w).mono ?_;rintro e w' ⟨rfl,rfl⟩;exact⟨g,_,.cw [],rfl,rfl,Le.refl g,hg,.cw rfl (by simp),rfl,Ex⟩
end Go.Proofs.YtjdnhamngpafmaaGreat
namespace Go.Proofs.YtjdnhamngpafmaaGreat
open Go.Av
theorem mQ(to op n:Int)(l:List Int):bA Tryz.prog 56 [aI to,aI op,aI n,aJ l] (.agg [aI to,aI op,aI n,aJ l]):=by
 refine zf true 0 Tryz.func56 Tryz.ntmps56 ?_;dsimp only[Tmp,TypeId,slotsOf];refine ay (ai ?_);refine ay (ai ?_);refine aq ?_;simp -dsimp only[simprocAttr,↓aa,zp,zr,Tryz.results56];simp[av,ae.upto,ax]
theorem sH(k:Int)(l:List Int):bA Tryz.prog 57 [aI k,aJ l] (.agg [aI 1,aI 0,aI 0,aJ [],.aA 2 [.agg [aI k,aJ l]] .sh]):=by
 refine zf true 0 Tryz.func57 Tryz.ntmps57 ?_;dsimp only[Tmp,TypeId,slotsOf];refine ay (ai ?_);refine ay (ai ?_);refine aq ?_;simp -dsimp only[simprocAttr,↓aa,zp,zr,Tryz.results57];simp[av,ae.upto,ax]
theorem rT(to op n:Int):bA Tryz.prog 56 [aI to,aI op,aI n,.v (.slice none 0 0)] (.agg [aI to,aI op,aI n,aJ []]):=by
 have h:=mQ to op n [];exact⟨h.1,fun g vs hg ho ha=>h.2 g vs hg ho ⟨ha.1,fun i c u hc hu=>by
  match i,hc,hu with
  | 0,hc,hu=>exact ha.2 0 c u hc hu
  | 1,hc,hu=>exact ha.2 1 c u hc hu
  | 2,hc,hu=>exact ha.2 2 c u hc hu
  | 3,hc,hu =>
   simp only[List.getElem?_cons_succ,List.getElem?_cons_zero,Option.some.injEq]at hc;subst hc;have:=(ha.2 3 _ u rfl hu).bZ.1;subst this;exact .nil (fun id e=>by cases e) (by simp)
  | i+4,hc,_=>simp at hc⟩⟩
def rE:cd:=⟨[⟨-1,[
 ⟨[],[⟨0,0,0,[]⟩],⟨1,0,0,[],[⟨1,[0]⟩]⟩⟩,
 ⟨[1],[⟨2,0,3,[]⟩,⟨3,6,0,[1,2]⟩],⟨2,3,0,[],[⟨2,[]⟩,⟨3,[]⟩]⟩⟩,
 ⟨[],[⟨4,15,0,[1]⟩,⟨5,0,1,[]⟩,⟨6,1,0,[1,5]⟩],⟨1,0,0,[],[⟨1,[6]⟩]⟩⟩,
 ⟨[],[],⟨0,1,0,[],[]⟩⟩]⟩],0⟩
theorem Fy:runM rE 27=⟨[0,1,2],0,3,27,0⟩:=by kernel_rfl
theorem CD:bA Tryz.prog 29 [] rE.enc:=by
 refine zf true 0 Tryz.func29 Tryz.ntmps29 ?_;dsimp only[Tmp,TypeId,slotsOf];refine ay (ai ?_);refine ay (ai ?_);refine ay (ai ?_);refine ay ?_;refine zi ((rT 0 0 0)) ?_;refine zi ((sH 1 [0])) ?_;refine zi ((rT 2 0 3)) ?_;refine zi ((mQ 3 6 0 [1,2])) ?_;refine zi ((mQ 4 15 0 [1])) ?_;refine zi ((rT 5 0 1)) ?_;refine zi ((mQ 6 1 0 [1,5])) ?_;refine zi ((sH 1 [6])) ?_;refine ai ?_;refine aq ?_;simp -dsimp only[simprocAttr,↓aa,zp,zr,Tryz.results29];exact⟨by simp[av,ae.upto,ax],rfl⟩
theorem CC:rE.fit:=by
 simp[rE,cd.fit,Func.fit,Block.fit,Ins.fit,Term.fit,Edge.fit,ca,iv]
theorem D8:bA Tryz.prog 8 [] (.v (.bool true)):=by
 have bF:=JG rE CC 27;rw[Fy]at bF;have xw:=tn [0,1,2] [0,1,2] 0 0 3 3;have CY:=CD;unfold QY.enc at bF;unfold Pn at xw;simp only[List.map_cons,List.map_nil,decide_true,Bool.and_self]at bF xw;generalize rE=u at *;refine zf true 0 Tryz.func8 Tryz.ntmps8 ?_;dsimp only[Tmp,TypeId,slotsOf];refine ay (ai ?_);refine ay ?_;refine zi CY ?_;refine zi bF ?_;refine ai ?_;refine ay ?_;refine zi xw ?_;refine ai ?_;refine aq ?_;simp -dsimp only[simprocAttr,↓aa,zp,zr,Tryz.results8]

def Ku(v w:Nat)(s:List Bool):Bool:=s[v]?.getD false&&s[w]?.getD false
def yK(v w:Nat)(x:Bool)(_:Nat)(s:List Bool):Bool:=x ||Ku v w s
theorem inBlock{f:Func}{S:List (List Bool)}{k v w:Nat}{s0:List Bool}(Ml:S[k]?=some s0)(x0:Bool) :
  tp (yK v w) (aF f k).ins (aF f k).ins.length x0 s0=true↔x0=true∨∃n,n<=(aF f k).ins.length∧Ku v w (setAt f S k n)=true:=by
 obtain⟨x',s',⟨j1,j2,j3⟩,he⟩:=sm (step:=yK v w) (l:=(aF f k).ins) (J:=fun n x s=>s=setAt f S k n∧n<=(aF f k).ins.length∧(x=true↔x0=true∨∃m,n<m∧m<=(aF f k).ins.length∧Ku v w (setAt f S k m)=true)) (fun n x s i hi ⟨j1,j2,j3⟩=>by
   subst j1;refine⟨(DP hi).symm,by omega,?_⟩;rw[yK,Bool.or_eq_true,j3];constructor
   ·rintro((q|⟨m,q1,q2,q3⟩)|q)
    ·exact .inl q
    ·exact .inr ⟨m,by omega,q2,q3⟩
    exact .inr ⟨n+1,by omega,j2,q⟩
   rintro(q|⟨m,q1,q2,q3⟩)
   ·exact .inl (.inl q)
   by_cases e:m=n+1
   ·subst e;exact .inr q3
   exact .inl (.inr ⟨m,by omega,q2,q3⟩))
  (aF f k).ins.length x0 s0 (Nat.le_refl _) ⟨by simp[setAt,Ml,ja],Nat.le_refl _,⟨fun q=>.inl q,fun q=>by
   rcases q with q|⟨m,q1,q2,_⟩
   ·exact q
   omega⟩⟩
 subst j1;rw[he,yK,Bool.or_eq_true,j3];constructor
 ·rintro((q|⟨m,q1,q2,q3⟩)|q)
  ·exact .inl q
  ·exact .inr ⟨m,q2,q3⟩
  exact .inr ⟨0,by omega,q⟩
 rintro(q|⟨m,q2,q3⟩)
 ·exact .inl (.inl q)
 by_cases e:m=0
 ·subst e;exact .inr q3
 exact .inl (.inr ⟨m,by omega,q2,q3⟩)



end Go.Proofs.YtjdnhamngpafmaaGreat
