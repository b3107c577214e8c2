/-
  Texts bound together by a program of mine: YtkkookchlddbkaaGreatPn, YtkkookchlddbkaaGreatT36, YtkkookchlddbkaaGreatPs, YtkkookchlddbkaaGreatPt, YtkkookchlddbkaaGreatT18, YtkkookchlddbkaaGreatT19, YtkkookchlddbkaaGreatT20, YtkkookchlddbkaaGreatT21, YtkkookchlddbkaaGreatT22, YtkkookchlddbkaaGreatPu, YtkkookchlddbkaaGreatPv, YtkkookchlddbkaaGreatPw, YtkkookchlddbkaaGreatPx, YtkkookchlddbkaaGreatT23, YtkkookchlddbkaaGreatT37, YtkkookchlddbkaaGreatT360, YtkkookchlddbkaaGreatT301, YtkkookchlddbkaaGreatT302, YtkkookchlddbkaaGreatT303, YtkkookchlddbkaaGreatT304, YtkkookchlddbkaaGreatT305, YtkkookchlddbkaaGreatT306, YtkkookchlddbkaaGreatT307, YtkkookchlddbkaaGreatT308, YtkkookchlddbkaaGreatT309, YtkkookchlddbkaaGreatT310, YtkkookchlddbkaaGreatT311, YtkkookchlddbkaaGreatT312, YtkkookchlddbkaaGreatT313, YtkkookchlddbkaaGreatT314, YtkkookchlddbkaaGreatT315, YtkkookchlddbkaaGreatT316.
-/
import Derived.Test.YtkkookchlddbkaaGreatA3
set_option linter.all false
set_option maxRecDepth 100000
set_option maxHeartbeats 4000000

namespace Go.Proofs.YtkkookchlddbkaaGreat
open Go.Av
theorem EW:∀(l:List Block) (m:Int),0<=m->m+2 ^ 48*(l.length:Int)<=2 ^ 60->(∀b∈l,b.ins.length<=2 ^ 47)->m<=xd m l∧∀b∈l,(b.ins.length:Int)<=xd m l
 | [],m,_,_,_=>⟨by simp[xd],by simp⟩
 | b::r,m,h0,h1,h2=>by
  have hb:=h2 b (by simp);simp only[List.length_cons]at h1;have hw:IntKind.i64.wrap (m+b.ins.length)=m+b.ins.length:=pD _ _ (by simp[IntKind.min,IntKind.bits,IntKind.signed];omega) (by simp[IntKind.max,IntKind.bits,IntKind.signed];omega);have ih:=EW r (m+b.ins.length) (by omega) (by omega) (fun x hx=>h2 x (by simp[hx]));simp only[xd,hw];refine⟨by omega,fun x hx=>?_⟩;rcases List.mem_cons.1 hx with q|q
  ·subst q;omega
  exact ih.2 x q
structure Tv(f:Func):Prop where
 ne:f.blocks≠[]
 By:f.blocks.length<=128
 name:-1<=f.name∧f.name<=1048575
 args:(bU f 0).params.length<=6
 ins:∀b∈f.blocks,b.ins.length<=1024
 blk:∀b∈f.blocks,Lj f b
 Xy:Bn f (gL f f.blocks.length 0 []).2=0
theorem qY{f:Func}(iA:f.fit)(h:g6 f=0):Tv f:=by
 unfold g6 at h;split at h
 ·simp at h
 rename_i h1;split at h
 ·simp at h
 rename_i h2;split at h
 ·simp at h
 rename_i h3;split at h
 ·rename_i h4;exact absurd h h4
 rename_i h4;have hw:=EW f.blocks 0 (by omega) (by omega) (fun b hb=>(iA.2.2 b hb).2.2.1);refine⟨fun e=>h1 (by rw[e];rfl),by omega,by simpa[within]using h3,by omega,fun b hb=>?_,sV (by simpa using h4),h⟩;have:=hw.2 b hb;omega
structure Q0(i:db):Prop where
 op:0<=i.op∧i.op<=24
 len:i.args.length<=16
 c0:i.op=0->gh i.n∧i.args.length=0
 c2:(1<=i.op∧i.op<=7)∨i.op=16∨i.op=18∨i.op=19∨i.op=21∨i.op=23->i.args.length=2
 c1:i.op=10∨i.op=11∨i.op=12∨i.op=15∨i.op=17∨i.op=24->i.args.length=1
 c3:i.op=20->i.args.length=3
 gu:i.op=8->0<=i.n∧i.n<=255
 call:i.op=9∨i.op=13->0<=i.n∧i.n<=255
 app:i.op=14->1<=i.args.length
 Tq:i.op=11∨i.op=24->0<=i.n
 pack:i.op=22->(i.n=2∨i.n=4)∧(i.args.length:Int)=i.n
 vec:i.op=23->i.n=1∨i.n=2∨i.n=3
theorem DH{i:db}(h:rm i=0):Q0 i:=by
 unfold rm at h;split at h
 ·simp at h
 rename_i hA;split at h
 ·simp at h
 rename_i TO;split at h
 ·rename_i hN;have Wd:(bl i).2=true∧(0<=(bl i).1->(i.args.length:Int)=(bl i).1)∧(i.op=14->¬(i.args.length:Int)=0):=by
   simp only[Ax,Bool.or_eq_true,Bool.not_eq_true',Bool.and_eq_true,decide_eq_true_eq,decide_eq_false_iff_not,not_or,not_and,Bool.not_eq_false,Decidable.not_not]at hA;exact⟨hA.1.1,hA.1.2,hA.2⟩
  obtain⟨a1,a2,a3⟩:=Wd;have hB:(i.op=8∨i.op=9->i.args.length<=16)∧(i.op=13∨i.op=14->i.args.length<=6):=by
   simp only[va,Ay,Bool.or_eq_true,Bool.and_eq_true,decide_eq_true_eq,not_or,not_and]at TO;exact⟨fun q=>by have:=TO.1 q;omega,fun q=>by have:=TO.2 q;omega⟩
  obtain⟨b1,b2⟩:=hB;have kq:0<=i.op∧i.op<=24:=by
   unfold bl at a1;split at a1
   ·omega
   split at a1
   ·omega
   split at a1
   ·omega
   split at a1
   ·omega
   split at a1
   ·omega
   split at a1
   ·omega
   simp at a1
  have o0:i.op=0->bl i=(0,true):=fun q=>by unfold bl;rw[if_pos q]
  have o2:(1<=i.op∧i.op<=7)∨i.op=16∨i.op=18∨i.op=19∨i.op=21∨i.op=23->bl i=(2,true):=fun q=>by unfold bl;rw[if_neg (by omega),if_pos q]
  have o3:i.op=20->bl i=(3,true):=fun q=>by unfold bl;rw[if_neg (by omega),if_neg (by omega),if_pos q]
  have o1:i.op=10∨i.op=11∨i.op=12∨i.op=15∨i.op=17∨i.op=24->bl i=(1,true):=fun q=>by unfold bl;rw[if_neg (by omega),if_neg (by omega),if_neg (by omega),if_pos q]
  have Xu:i.op=22->bl i=(i.n,decide (i.n=2∨i.n=4)):=fun q=>by unfold bl;rw[if_neg (by omega),if_neg (by omega),if_neg (by omega),if_neg (by omega),if_neg (by omega),if_pos q]
  have l0:i.op=0->i.args.length=0:=fun q=>by rw[o0 q]at a2;have:=a2 (by decide);simp only at this;omega
  have l2:=fun q=>by have:=a2;rw[o2 q]at this;exact this (by decide)
  have l3:=fun q=>by have:=a2;rw[o3 q]at this;exact this (by decide)
  have l1:=fun q=>by have:=a2;rw[o1 q]at this;exact this (by decide)
  have V5:i.op=22->(i.n=2∨i.n=4)∧(i.args.length:Int)=i.n:=fun q=>by
   rw[Xu q]at a1 a2;have:i.n=2∨i.n=4:=of_decide_eq_true a1;exact⟨this,a2 (by simp only;omega)⟩
  have n0:i.op=0->gh i.n:=fun q=>by unfold cI at hN;rw[if_pos q]at hN;exact of_decide_eq_true hN
  have n8:i.op=8->0<=i.n∧i.n<=255:=fun q=>by unfold cI at hN;rw[if_neg (by omega),if_pos q]at hN;exact ja.1 hN
  have Xp:i.op=11->0<=i.n∧i.n<=15:=fun q=>by unfold cI at hN;rw[if_neg (by omega),if_neg (by omega),if_pos q]at hN;exact ja.1 hN
  have n9:i.op=9∨i.op=13->0<=i.n∧i.n<=255:=fun q=>by unfold cI at hN;rw[if_neg (by omega),if_neg (by omega),if_neg (by omega),if_pos q]at hN;exact ja.1 hN
  have Xq:i.op=23->i.n=1∨i.n=2∨i.n=3:=fun q=>by unfold cI at hN;rw[if_neg (by omega),if_neg (by omega),if_neg (by omega),if_neg (by omega),if_pos q]at hN;exact of_decide_eq_true hN
  have Xr:i.op=24->0<=i.n∧i.n<=3:=fun q=>by unfold cI at hN;rw[if_neg (by omega),if_neg (by omega),if_neg (by omega),if_neg (by omega),if_neg (by omega),if_pos q]at hN;exact ja.1 hN
  have L2:(1<=i.op∧i.op<=7)∨i.op=16∨i.op=18∨i.op=19∨i.op=21∨i.op=23->i.args.length=2:=fun q=>by have:=l2 q;omega
  have L1:i.op=10∨i.op=11∨i.op=12∨i.op=15∨i.op=17∨i.op=24->i.args.length=1:=fun q=>by have:=l1 q;omega
  have L3:i.op=20->i.args.length=3:=fun q=>by have:=l3 q;omega
  refine⟨kq,?_,fun q=>⟨n0 q,l0 q⟩,L2,L1,L3,n8,n9,fun q=>by have:=a3 q;omega,fun q=>?_,V5,Xq⟩
  ·rcases(show i.op=0∨((1<=i.op∧i.op<=7)∨i.op=16∨i.op=18∨i.op=19∨i.op=21∨i.op=23)∨i.op=20∨(i.op=10∨i.op=11∨i.op=12∨i.op=15∨i.op=17∨i.op=24)∨(i.op=8∨i.op=9)∨(i.op=13∨i.op=14)∨i.op=22 by omega)with q|q|q|q|q|q|q
   ·have:=l0 q;omega
   ·have:=L2 q;omega
   ·have:=L3 q;omega
   ·have:=L1 q;omega
   ·have:=b1 q;omega
   ·have:=b2 q;omega
   have:=V5 q;omega
  rcases q with q|q
  ·exact(Xp q).1
  exact(Xr q).1
 simp at h
structure Tu(f:Func)(t:Term):Prop where
 kind:0<=t.kind∧t.kind<=4
 to:t.kind=0∨t.kind=4->t.to=[]
 Mu:t.kind=1->t.to.length=1
 cond:t.kind=2->t.to.length=2
 switch:t.kind=3->t.to.length=t.cases.length+1
 cases:t.cases.length<=256
 N8:t.kind=4->1<=t.n∧t.n<=6
 n:t.kind≠4->t.n=0
 xo:∀e∈t.to,(1<=e.block∧e.block<=(f.blocks.length:Int)-1)∧e.args.length=(bU f e.block).params.length
theorem Pe{f:Func}{t:Term}(h:Am f t=0):Tu f t:=by
 obtain⟨h1,h2,h3,h4⟩:=rf h;simp only[gJ,Bool.and_eq_true,Bool.or_eq_true,decide_eq_true_eq]at h1;obtain⟨hk,⟨⟨he,_⟩,hn⟩,hc⟩:=h1;refine⟨hk,fun q=>?_,fun q=>?_,fun q=>?_,fun q=>?_,h2,h3,fun q=>hn.resolve_left q,h4⟩
 ·have:gj t=0:=by rcases q with q|q<;>simp[gj,q]
  rw[this]at he;exact List.length_eq_zero_iff.1 (by omega)
 ·have:gj t=1:=by simp[gj,q]
  omega
 ·have:gj t=2:=by simp[gj,q]
  omega
 have:gj t=t.cases.length+1:=by simp[gj,q]
 omega
def A1(a b:Int):Int:=if a≠0 then a else b
theorem ky{a b:Int}(h:a=0):A1 a b=b:=by simp[A1,h]
theorem qz{a b:Int}(h:¬a=0):A1 a b=a:=by simp[A1,h]
theorem xJ(a b c:Int):A1 (A1 a b) c=A1 a (A1 b c):=by
 by_cases h:a=0
 ·rw[ky h,ky h]
 rw[qz h,qz h,qz h]
theorem vD{a b:Int}(h:A1 a b=0):a=0∧b=0:=by
 by_cases q:a=0
 ·exact⟨q,by rwa [ky q]at h⟩
 rw[qz q]at h;exact absurd h q
def qj:List Func->Int
 | []=>0
 | f::r=>A1 (g6 f) (qj r)
def uI(u:cW):List db->Int
 | []=>0
 | i::r=>A1 (lk u i) (uI u r)
def sf(u:cW):List Block->Int
 | []=>0
 | b::r=>A1 (uI u b.ins) (sf u r)
def qb(u:cW):List Func->Int
 | []=>0
 | f::r=>A1 (sf u f.blocks) (qb u r)
def mg(u:cW):Int :=
 if u.fns.length=0 then 3
 else if 256<u.fns.length then 2
 else if within u.main 0 ((u.fns.length:Int)-1)=false then 4
 else A1 (qj u.fns) (if 0<(bU (dg u u.main) 0).params.length then 3 else qb u u.fns)
theorem qk:∀{l:List Func},qj l=0->∀f∈l,g6 f=0
 | [],_,f,h=>by simp at h
 | g::r,h,f,hf=>by
  have:=vD h;rcases List.mem_cons.1 hf with q|q
  ·subst q;exact this.1
  exact qk this.2 f q
theorem nf(u:cW)(iA:u.fit):aV Tryz.prog 22 [u.enc] (aI (mg u)):=by
 obtain⟨R,hR⟩:∃R,R=mg u:=⟨_,rfl⟩
 rw[<-hR];unfold mg at hR;have hw:=eh u.main 0 ((u.fns.length:Int)-1);have T8:u.fns.length<=2 ^ 47:=iA.2.1;refine zf true 0 Tryz.func22 Tryz.ntmps22 ?_;dsimp only[Tmp,TypeId,ax];refine aB (av ?_);refine aR 1 0 (.ip none [cc u.fns,aI u.main]) rfl (by simp[ay.aP]) trivial rfl ?_ ?_;rotate_left;simp -dsimp only[simprocAttr,↓aa,zp]
 ·refine aG (aj ?_);by_cases h0:u.fns.length=0
  ·rw[if_pos h0]at hR;have hd:decide ((u.fns.length:Int)=0)=true:=decide_eq_true (by omega);refine aH ?_;simp -dsimp only[simprocAttr,↓aa,zp,hd];refine av ?_;refine de rfl ?_;refine aB (av ?_);refine ak ?_;simp -dsimp only[simprocAttr,↓aa,zp,zr,Tryz.results22];rw[hR]
  rw[if_neg h0]at hR;have hd:decide ((u.fns.length:Int)=0)=false:=decide_eq_false (by omega);refine aH ?_;simp -dsimp only[simprocAttr,↓aa,zp,hd];refine av ?_;apply aQ rfl<;>intro h
  ·cases h
  by_cases h1:256<u.fns.length
  ·rw[if_pos h1]at hR;have hd:decide ((256:Int)<u.fns.length)=true:=decide_eq_true (by omega);refine aH ?_;simp -dsimp only[simprocAttr,↓aa,zp,hd];refine av ?_;refine de rfl ?_;refine aB (av ?_);refine ak ?_;simp -dsimp only[simprocAttr,↓aa,zp,zr,Tryz.results22];rw[hR]
  rw[if_neg h1]at hR;have hd:decide ((256:Int)<u.fns.length)=false:=decide_eq_false (by omega);refine aH ?_;simp -dsimp only[simprocAttr,↓aa,zp,hd];refine av ?_;apply aQ rfl<;>intro h
  ·cases h
  cases H7:within u.main 0 ((u.fns.length:Int)-1)with
  | false =>
   rw[if_pos H7]at hR;rw[H7]at hw;refine aB ?_
   repeat(refine⟨by omega,?_⟩)
   refine zi hw ?_;refine av ?_;refine de rfl ?_;refine aB (av ?_);refine ak ?_;simp -dsimp only[simprocAttr,↓aa,zp,zr,Tryz.results22];rw[hR]
  | true =>
   have DN:=ja.1 H7;rw[if_neg (by simp[H7])]at hR;rw[H7]at hw;refine aB ?_
   repeat(refine⟨by omega,?_⟩)
   refine zi hw ?_;refine av ?_;apply aQ rfl<;>intro h
   ·cases h
   refine pV ?_;refine cj (av ?_);refine aj (aO (ι:={k:Nat // k<=u.fns.length∧qj u.fns=qj (u.fns.drop k)}) (fun k=>⟨87,[(1,.ip none [cc u.fns,aI u.main]),(2,aI 0),(33,cc u.fns),(34,aI u.fns.length),(35,aI k.1)],[.gone]⟩) (fun k=>u.fns.length-k.1) ⟨0,by omega,rfl⟩ ?_ ?_)
   ·refine zq rfl ?_ ?_;simp -dsimp only[simprocAttr,↓aa,zp,zc];rfl
   rintro⟨k,hk,mv⟩;refine aB (av ?_);apply gr rfl<;>intro h
   ·refine eH ?_;have aN:k<u.fns.length:=by simpa using h
    obtain⟨f,hf⟩:∃f,u.fns[k]?=some f:=⟨u.fns[k],by simp[aN]⟩
    have RE:=uU f (iA.2.2 f (List.mem_of_getElem? hf));rw[iT hf]at mv;simp only[qj]at mv;obtain⟨e,QK⟩:∃e,e=g6 f:=⟨_,rfl⟩
    rw[<-QK]at mv RE;refine aG (aj ?_);refine aH ?_;simp -dsimp only[simprocAttr,↓aa,zp,hf];refine av ?_;refine aR 4 1 (.ip none [aI f.name,bf f.blocks]) rfl (by simp[ay.aP]) trivial rfl ?_ ?_;rotate_left;simp -dsimp only[simprocAttr,↓aa,zp]
    ·refine ba 1 [(1,.ip none [cc u.fns,aI u.main]),(2,aI 0),(33,cc u.fns),(34,aI u.fns.length),(35,aI k),(4,.ip none [aI f.name,bf f.blocks])] (by simp) (by omega) [.gone] ?_ ?_ ?_ ?_ ?_
     ·rfl
     ·simp[ay.upto,aq,ae.upto,aL,Func.an,Block.an,Edge.an,db.an]
     ·simp[dy,St.get,cq,bL,Go.Av.look,Sub.refl]
     ·simp[ay.upto,aq,ae.upto,aL,Func.an,Block.an,Edge.an,db.an]
     refine aB ?_;refine zi RE ?_;refine av ?_;by_cases he:e=0
     ·have Bz:decide (e=0)=true:=decide_eq_true he;rw[ky he]at mv;refine aH ?_;simp -dsimp only[simprocAttr,↓aa,zp,Bz];refine av ?_;refine cB rfl ?_;refine pV ?_;refine du ?_
      repeat(refine⟨by omega,?_⟩)
      refine r7 ?_;refine⟨⟨k+1,aN,mv⟩,by simp;omega,?_⟩;refine zq rfl ?_ ?_;simp -dsimp only[simprocAttr,↓aa,zp,zc]
      ·exact Sub.int (by simp)
      rfl
     have Bz:decide (e=0)=false:=decide_eq_false he;rw[qz he]at mv;rw[mv,qz he]at hR;refine aH ?_;simp -dsimp only[simprocAttr,↓aa,zp,Bz];refine av ?_;refine de rfl ?_;refine aB (av ?_);refine ak ?_;simp -dsimp only[simprocAttr,↓aa,zp,zr,Tryz.results22];rw[hR]
    exact da.mp rfl rfl
   refine aM ?_;simp -dsimp only[ai,ne_eq,Nat.reduceEqDiff,reduceCtorEq];have gg:k=u.fns.length:=by simp at h;omega
   subst gg;rw[List.drop_length]at mv;have VD:qj u.fns=0:=by rw[mv];rfl
   rw[ky VD]at hR;have bq:∀f∈u.fns,Tv f:=fun f hf=>qY (iA.2.2 f hf) (qk VD f hf);have hM:=lQ (u:=u) (k:=u.main) DN.1 (by omega);have XN:0<(dg u u.main).blocks.length:=by
    have:=(bq _ (List.mem_of_getElem? hM)).ne;cases hb:(dg u u.main).blocks with
    | nil=>exact absurd hb this
    | cons=>simp
   have hB:(dg u u.main).blocks[0]?=some (bU (dg u u.main) 0):=gx (f:=dg u u.main) (k:=0) (by omega) (by omega);generalize bU (dg u u.main) 0=B at *;generalize dg u u.main=F at *;by_cases hp:0<B.params.length
   ·rw[if_pos hp]at hR;have T5:decide ((0:Int)<B.params.length)=true:=decide_eq_true (by omega);refine cg ?_;simp -dsimp only[simprocAttr,↓aa,zp,hM,hB,T5]
    repeat(refine⟨by omega,?_⟩)
    refine av ?_;refine de rfl ?_;refine aB (av ?_);refine ak ?_;simp -dsimp only[simprocAttr,↓aa,zp,zr,Tryz.results22];rw[hR]
   rw[if_neg hp]at hR;have T5:decide ((0:Int)<B.params.length)=false:=decide_eq_false (by omega);refine cg ?_;simp -dsimp only[simprocAttr,↓aa,zp,hM,hB,T5]
   repeat(refine⟨by omega,?_⟩)
   refine av ?_;apply aQ rfl<;>intro h
   ·cases h
   refine eH ?_;refine cj (av ?_);refine aj (aO (ι:={k:Nat // k<=u.fns.length∧R=qb u (u.fns.drop k)}) (fun k=>⟨87,[(1,.ip none [cc u.fns,aI u.main]),(2,aI 0),(58,cc u.fns),(59,aI u.fns.length),(60,aI k.1)],[.gone]⟩) (fun k=>u.fns.length-k.1) ⟨0,by omega,hR⟩ ?_ ?_)
   ·refine zq rfl ?_ ?_;simp -dsimp only[simprocAttr,↓aa,zp,zc];rfl
   rintro⟨k,hk,mv⟩;refine aB (av ?_);apply gr rfl<;>intro h
   ·refine eH ?_;have aN:k<u.fns.length:=by simpa using h
    obtain⟨f,hf⟩:∃f,u.fns[k]?=some f:=⟨u.fns[k],by simp[aN]⟩
    have QM:=List.mem_of_getElem? hf;have zF:=(bq f QM).By;rw[iT hf]at mv;simp only[qb]at mv;refine aG (aj ?_);refine aH ?_;simp -dsimp only[simprocAttr,↓aa,zp,hf];refine av ?_;refine aR 7 1 (.ip none [aI f.name,bf f.blocks]) rfl (by simp[ay.aP]) trivial rfl ?_ ?_;rotate_left;simp -dsimp only[simprocAttr,↓aa,zp]
    ·refine ba 1 [(1,.ip none [cc u.fns,aI u.main]),(2,aI 0),(58,cc u.fns),(59,aI u.fns.length),(60,aI k),(7,.ip none [aI f.name,bf f.blocks])] (by simp) (by omega) [.gone] ?_ ?_ ?_ ?_ ?_
     ·rfl
     ·simp[ay.upto,aq,ae.upto,aL,Func.an,Block.an,Edge.an,db.an]
     ·simp[dy,St.get,cq,bL,Go.Av.look,Sub.refl]
     ·simp[ay.upto,aq,ae.upto,aL,Func.an,Block.an,Edge.an,db.an]
     refine aB (av ?_);refine aj (aO (ι:={j:Nat // j<=f.blocks.length∧R=A1 (sf u (f.blocks.drop j)) (qb u (u.fns.drop (k+1)))}) (fun j=>⟨87,[(1,.ip none [cc u.fns,aI u.main]),(2,aI 0),(58,cc u.fns),(59,aI u.fns.length),(60,aI k),(65,bf f.blocks),(66,aI f.blocks.length),(67,aI j.1)],[.gone]⟩) (fun j=>f.blocks.length-j.1) ⟨0,by omega,mv⟩ ?_ ?_)
     ·refine zq rfl ?_ ?_;simp -dsimp only[simprocAttr,↓aa,zp,zc];rfl
     rintro⟨j,hj,lC⟩;refine aB (av ?_);apply gr rfl<;>intro h
     ·refine eH ?_;have Ox:j<f.blocks.length:=by simpa using h
      obtain⟨b,hb⟩:∃b,f.blocks[j]?=some b:=⟨f.blocks[j],by simp[Ox]⟩
      have Rx:=List.mem_of_getElem? hb;have Tc:=(bq f QM).ins b Rx;rw[iT hb]at lC;simp only[sf]at lC;rw[xJ]at lC;refine aG (aj ?_);refine aH ?_;simp -dsimp only[simprocAttr,↓aa,zp,hb];refine av ?_;refine aR 9 1 (.ip none [ct b.params,dA b.ins,aI b.term.kind,aI b.term.arg,aI b.term.n,ct b.term.cases,bx b.term.to]) rfl (by simp[ay.aP]) trivial rfl ?_ ?_;rotate_left;simp -dsimp only[simprocAttr,↓aa,zp]
      ·refine ba 1 [(1,.ip none [cc u.fns,aI u.main]),(2,aI 0),(58,cc u.fns),(59,aI u.fns.length),(60,aI k),(65,bf f.blocks),(66,aI f.blocks.length),(67,aI j),(9,.ip none [ct b.params,dA b.ins,aI b.term.kind,aI b.term.arg,aI b.term.n,ct b.term.cases,bx b.term.to])] (by simp) (by omega) [.gone] ?_ ?_ ?_ ?_ ?_
       ·rfl
       ·simp[ay.upto,aq,ae.upto,aL,Func.an,Block.an,Edge.an,db.an]
       ·simp[dy,St.get,cq,bL,Go.Av.look,Sub.refl]
       ·simp[ay.upto,aq,ae.upto,aL,Func.an,Block.an,Edge.an,db.an]
       refine aB (av ?_);refine aj (aO (ι:={z:Nat // z<=b.ins.length∧R=A1 (uI u (b.ins.drop z)) (A1 (sf u (f.blocks.drop (j+1))) (qb u (u.fns.drop (k+1))))}) (fun z=>⟨87,[(1,.ip none [cc u.fns,aI u.main]),(2,aI 0),(58,cc u.fns),(59,aI u.fns.length),(60,aI k),(65,bf f.blocks),(66,aI f.blocks.length),(67,aI j),(72,dA b.ins),(73,aI b.ins.length),(74,aI z.1)],[.gone]⟩) (fun z=>b.ins.length-z.1) ⟨0,by omega,lC⟩ ?_ ?_)
       ·refine zq rfl ?_ ?_;simp -dsimp only[simprocAttr,↓aa,zp,zc];rfl
       rintro⟨z,hz,wX⟩;refine aB (av ?_);apply gr rfl<;>intro h
       ·refine eH ?_;have VN:z<b.ins.length:=by simpa using h
        obtain⟨i,hi⟩:∃i,b.ins[z]?=some i:=⟨b.ins[z],by simp[VN]⟩
        rw[iT hi]at wX;simp only[uI]at wX;rw[xJ]at wX;have WA:=DH (((bq f QM).blk b Rx).Og i (List.mem_of_getElem? hi));have iq:=BZ u i (fun q=>(WA.call (by omega)).1) (fun f hf=>(bq f hf).ne);obtain⟨e,QK⟩:∃e,e=lk u i:=⟨_,rfl⟩
        rw[<-QK]at wX iq;refine aG (aj ?_);refine aH ?_;simp -dsimp only[simprocAttr,↓aa,zp,hi];refine av ?_;refine aR 11 1 (.ip none [aI i.to,aI i.op,aI i.n,ct i.args]) rfl (by simp[ay.aP]) trivial rfl ?_ ?_;rotate_left;simp -dsimp only[simprocAttr,↓aa,zp]
        ·refine ba 1 [(1,.ip none [cc u.fns,aI u.main]),(2,aI 0),(58,cc u.fns),(59,aI u.fns.length),(60,aI k),(65,bf f.blocks),(66,aI f.blocks.length),(67,aI j),(72,dA b.ins),(73,aI b.ins.length),(74,aI z),(11,.ip none [aI i.to,aI i.op,aI i.n,ct i.args])] (by simp) (by omega) [.gone] ?_ ?_ ?_ ?_ ?_
         ·rfl
         ·simp[ay.upto,aq,ae.upto,aL,Func.an,Block.an,Edge.an,db.an]
         ·simp[dy,St.get,cq,bL,Go.Av.look,Sub.refl]
         ·simp[ay.upto,aq,ae.upto,aL,Func.an,Block.an,Edge.an,db.an]
         refine aB ?_;refine zi iq ?_;refine av ?_;by_cases he:e=0
         ·have Bz:decide (e=0)=true:=decide_eq_true he;rw[ky he]at wX;refine aH ?_;simp -dsimp only[simprocAttr,↓aa,zp,Bz];refine av ?_;refine cB rfl ?_;refine pV ?_;refine du ?_
          repeat(refine⟨by omega,?_⟩)
          refine r7 ?_;refine⟨⟨z+1,VN,wX⟩,by simp;omega,?_⟩;refine zq rfl ?_ ?_;simp -dsimp only[simprocAttr,↓aa,zp,zc]
          ·exact Sub.int (by simp)
          rfl
         have Bz:decide (e=0)=false:=decide_eq_false he;rw[qz he]at wX;refine aH ?_;simp -dsimp only[simprocAttr,↓aa,zp,Bz];refine av ?_;refine de rfl ?_;refine aB (av ?_);refine ak ?_;simp -dsimp only[simprocAttr,↓aa,zp,zr,Tryz.results22];rw[wX]
        exact da.mp rfl rfl
       refine aM ?_;simp -dsimp only[ai,ne_eq,Nat.reduceEqDiff,reduceCtorEq];have SJ:z=b.ins.length:=by simp at h;omega
       subst SJ;rw[List.drop_length]at wX;rw[ky (by rfl)]at wX;refine du ?_
       repeat(refine⟨by omega,?_⟩)
       refine r7 ?_;refine⟨⟨j+1,Ox,wX⟩,by simp;omega,?_⟩;refine zq rfl ?_ ?_;simp -dsimp only[simprocAttr,↓aa,zp,zc]
       ·exact Sub.int (by simp)
       rfl
      exact da.mp rfl rfl
     refine aM ?_;simp -dsimp only[ai,ne_eq,Nat.reduceEqDiff,reduceCtorEq];have tN:j=f.blocks.length:=by simp at h;omega
     subst tN;rw[List.drop_length]at lC;rw[ky (by rfl)]at lC;refine du ?_
     repeat(refine⟨by omega,?_⟩)
     refine r7 ?_;refine⟨⟨k+1,aN,lC⟩,by simp;omega,?_⟩;refine zq rfl ?_ ?_;simp -dsimp only[simprocAttr,↓aa,zp,zc]
     ·exact Sub.int (by simp)
     rfl
    exact da.mp rfl rfl
   refine aM ?_;simp -dsimp only[ai,ne_eq,Nat.reduceEqDiff,reduceCtorEq];have gg:k=u.fns.length:=by simp at h;omega
   subst gg;rw[List.drop_length]at mv;refine aB (av ?_);refine ak ?_;simp -dsimp only[simprocAttr,↓aa,zp,zr,Tryz.results22];rw[mv];rfl
 exact da.mp rfl rfl
theorem gK.mono{u:cW}{m m':Mach}(h:∀a∈m.heap,∃b∈m'.heap,b.l9=a.l9){v:SV}(k:gK u m v):gK u m' v :=
 SV.Wf.mono (fun id ⟨a,ha,e⟩=>by
  obtain⟨b,hb,e'⟩:=h a ha;exact⟨b,hb,e'.trans e⟩) k
theorem gK.of_heap{u:cW}{m m':Mach}(h:m'.heap=m.heap){v:SV}(k:gK u m v):gK u m' v :=
 k.mono fun a ha=>⟨a,by rw[h];exact ha,rfl⟩
theorem gK.word{u:cW}{m:Mach}{n:Int}(h:gh n):gK u m (.word n):=SV.Wf.word h
theorem gK.zero{u:cW}{m:Mach}:gK u m .zero:=SV.Wf.zero
theorem j3{u:cW}{m:Mach}{l:List SV}(h:∀v∈l,gK u m v)(k:Nat):gK u m (cR l k):=by
 unfold cR;cases hk:l[k]? with
 | none=>exact gK.zero
 | some v=>exact h v (List.mem_of_getElem? hk)
theorem yx{u:cW}{m:Mach}{es:List (Int×SV)}(h:∀e∈es,gK u m e.2)(k:Int):gK u m (jN es k):=by
 unfold jN;cases hl:jy es k with
 | none=>exact gK.zero
 | some v =>
  obtain⟨e,h1,rfl⟩:=xI hl;exact h e h1
theorem r3{u:cW}{m:Mach}{es:List (Int×SV)}(h:∀e∈es,gK u m e.2)(l:List Int):∀v∈gR es l,gK u m v:=fun v hv=>by
 obtain⟨k,_,rfl⟩:=List.mem_map.1 hv;exact yx h k
theorem sL(es:List (Int×SV))(l:List Int):(gR es l).length=l.length:=by simp[gR]
theorem y8{u:cW}{m:Mach}{es:List (Int×SV)}(h:∀e∈es,gK u m e.2){k:Int}{v:SV}(hv:gK u m v):∀e∈fZ es k v,gK u m e.2:=fun e he=>by
 rcases jT he with q|q
 ·exact h e q
 rw[q];exact hv
theorem zV{u:cW}{m:Mach}{es:List (Int×SV)}(h:∀e∈es,gK u m e.2){ps:List Int}{l:List SV}(hl:∀v∈l,gK u m v):∀e∈g5 es ps l,gK u m e.2:=fun e he=>by
 rcases la he with q|q
 ·exact h e q
 exact hl _ q
theorem qQ(op a b:Int)(hb:gh b):(∃n,gh n∧(dp op a b).1=.word n)∧0<=(dp op a b).2∧(dp op a b).2<=6:=by
 have w1:=kG (a+b);have w2:=kG (a-b);have w3:=kG (a*b);have w4:=kG (a.tdiv b);have w0:gh 0:=by unfold gh;omega
 have Xz:gh 1:=by unfold gh;omega
 unfold dp
 repeat' split
 all_goals first
  | exact⟨⟨_,w1,rfl⟩,by simp⟩
  | exact⟨⟨_,w2,rfl⟩,by simp⟩
  | exact⟨⟨_,w3,rfl⟩,by simp⟩
  | exact⟨⟨_,w4,rfl⟩,by simp⟩
  | exact⟨⟨_,w0,rfl⟩,by simp⟩
  | exact⟨⟨_,Xz,rfl⟩,by simp⟩
  | exact⟨⟨_,vU hb (by assumption),rfl⟩,by simp⟩
theorem vB{u:cW}{m:Mach}{i:db}{args:List SV}(h:∀v∈args,gK u m v):gK u m (dc i args).1∧0<=(dc i args).2∧(dc i args).2<=6:=by
 have h0:=j3 h 0;have hk:∀k,gK u m (cR (cR args 0).list k):=j3 (SV.Wf.kids h0);have hl:=SV.Wf.len h0;unfold dc
 repeat' split
 all_goals first
  | exact⟨gK.zero,by simp⟩
  | exact⟨hk _,by simp⟩
  | exact⟨gK.word (SV.Wf.num h0 (by omega)),by simp⟩
  | exact⟨gK.word (by unfold gh;omega),by simp⟩
theorem EZ{u:cW}{m:Mach}{op:Int}:∀(l r:List SV),(∀v∈r,gh v.n)->∀v∈k9 op l r,gK u m v∧v.kind=0
 | [],_,_,v,h=>by simp[k9]at h
 | _::_,[],_,v,h=>by simp[k9]at h
 | a::l,b::r,hr,v,h=>by
  simp only[k9,List.mem_cons]at h;rcases h with rfl|h
  ·obtain⟨⟨n,h1,h2⟩,_⟩:=qQ op a.n b.n (hr b (by simp));rw[h2];exact⟨gK.word h1,rfl⟩
  exact EZ l r (fun v hv=>hr v (by simp[hv])) v h
theorem sO{u:cW}{m:Mach}{v:SV}(h:gK u m v)(hk:v.kind=4):v.list.length<=1000∧∀x∈v.list,gh x.n :=
 ⟨SV.Wf.len h,fun x hx=>SV.Wf.num (SV.Wf.kids h x hx) (.inl (SV.Wf.vec h hk x hx))⟩
theorem wi{u:cW}{m:Mach}{i:db}{args:List SV}(h:∀v∈args,gK u m v)(hl:i.op=22->args.length<=1000)(h2:i.op≠22->i.op≠24->∃x y,args=[x,y]) :
  gK u m (dq i args).1∧0<=(dq i args).2∧(dq i args).2<=6:=by
 have h0:=j3 h 0;have hk:∀k,gK u m (cR (cR args 0).list k):=j3 (SV.Wf.kids h0);by_cases KY:i.op=22
 ·unfold dq;rw[if_pos KY];split
  ·rename_i ha;refine⟨.mk (by omega) (by omega) (by omega) (by omega) (fun _ v hv=>?_) (hl KY) (by simp) h,by simp⟩;simp only[lh,List.all_eq_true,decide_eq_true_eq]at ha;exact ha v hv
  exact⟨gK.zero,by simp⟩
 by_cases Of:i.op=24
 ·unfold dq;rw[if_neg KY,if_pos Of];split
  ·exact⟨gK.zero,by simp⟩
  exact⟨hk _,by simp⟩
 obtain⟨x,y,e⟩:=h2 KY Of;subst e;unfold dq;rw[if_neg KY,if_neg Of];split
 ·exact⟨gK.zero,by simp⟩
 rename_i hn;have bq:lh [x,y] 4=true:=by
  cases hh:lh [x,y] 4
  ·exact absurd (.inl (by simp[hh])) hn
  rfl
 have gg:x.kind=4∧y.kind=4:=by simpa[lh]using bq
 have hx:=sO (h x (by simp)) gg.1;have hy:=sO (h y (by simp)) gg.2;have hz:=fun v hv=>EZ (u:=u) (m:=m) (op:=i.n) x.list y.list hy.2 v hv;refine⟨.mk (by omega) (by omega) (by omega) (by omega) (fun _ v hv=>(hz v hv).2) ?_ (by simp) (fun v hv=>(hz v hv).1),by simp⟩;show(k9 i.n x.list y.list).length<=1000;rw[wo];omega
structure eB(u:cW)(m:Mach)(r:Mach×SV×Int):Prop where
 frames:r.1.frames=m.frames
 AQ:∀a∈m.heap,∃b∈r.1.heap,b.l9=a.l9
 val:gK u r.1 r.2.1
 N8:0<=r.2.2∧r.2.2<=6
 iH:∀a∈r.1.heap,a.l.length<=1024∧∀v∈a.l,gK u r.1 v
 left:0<=r.1.left∧r.1.left<=m.left
 out:r.1.out.length<=1000
 words:∀n∈r.1.out,gh n
 fin:r.1.fin=m.fin∧r.1.val=m.val
 over:r.1.over=false->m.over=false∧r.1.short=false
theorem eB.same{u:cW}{m:Mach}(hm:cz u m){v:SV}{t:Int}(hv:gK u m v)(ht:0<=t∧t<=6):eB u m (m,v,t) where
 frames:=rfl
 AQ:=fun a ha=>⟨a,ha,rfl⟩
 val:=hv
 N8:=ht
 iH:=hm.iH
 left:=⟨hm.left,Int.le_refl _⟩
 out:=hm.out
 words:=hm.words
 fin:=⟨rfl,rfl⟩
 over:=fun h=>⟨h,(hm.over h).2⟩
theorem tq:∀(l:List BC) (id:Option Nat) (x:List SV),(∀a∈l,∃b∈Mach.kN l id x,b.l9=a.l9)∧(∀b∈Mach.kN l id x,∃a∈l,a.l9=b.l9∧a.ou=b.ou∧(b=a∨b.l=x))
 | [],_,_=>⟨by simp,by simp[Mach.kN]⟩
 | a::r,id,x=>by
  obtain⟨h1,h2⟩:=tq r id x;unfold Mach.kN;split
  ·exact⟨fun c hc=>by
    rcases List.mem_cons.1 hc with rfl|hc
    ·exact⟨⟨c.l9,c.ou,x⟩,List.mem_cons_self,rfl⟩
    ·exact⟨c,by simp[hc],rfl⟩,fun b hb=>by
    rcases List.mem_cons.1 hb with rfl|hb
    ·exact⟨a,by simp,rfl,rfl,.inr rfl⟩
    exact⟨b,by simp[hb],rfl,rfl,.inl rfl⟩⟩
  exact⟨fun c hc=>by
   rcases List.mem_cons.1 hc with rfl|hc
   ·exact⟨_,by simp,rfl⟩
   ·obtain⟨b,hb,e⟩:=h1 c hc;exact⟨b,by simp[hb],e⟩,fun b hb=>by
   rcases List.mem_cons.1 hb with rfl|hb
   ·exact⟨b,by simp,rfl,rfl,.inl rfl⟩
   obtain⟨c,hc,e⟩:=h2 b hb;exact⟨c,by simp[hc],e⟩⟩
theorem pb:∀(l:List BC) (id:Nat),(∃a∈l,a.l9=id)->∃a∈l,a.l9=id∧Mach.kh l (some id)=a.l
 | [],_,h=>by simp at h
 | a::r,id,h=>by
  unfold Mach.kh;by_cases e:id=a.l9
  ·exact⟨a,by simp,e.symm,by simp[e]⟩
  obtain⟨b,hb,hv⟩:=h;rcases List.mem_cons.1 hb with rfl|hb
  ·exact absurd hv.symm e
  obtain⟨c,hc,h1,h2⟩:=pb r id ⟨b,hb,hv⟩;exact⟨c,by simp[hc],h1,by simp[e,h2]⟩
theorem GP{u:cW}{m:Mach}(hm:cz u m){v:SV}(hv:gK u m v)(hk:v.kind=3):∃a∈m.heap,v.arr=some a.l9∧Mach.kh m.heap v.arr=a.l:=by
 obtain⟨id,e⟩:=SV.Wf.array hv hk;obtain⟨a,ha,h1,h2⟩:=pb m.heap id (SV.Wf.ref hv id e);exact⟨a,ha,by rw[h1];exact e,by rw[e];exact h2⟩
theorem ib(m:Mach)(n:Int):(m.gp n).frames=m.frames∧(m.gp n).heap=m.heap∧(m.gp n).out=m.out∧(m.gp n).fin=m.fin∧(m.gp n).val=m.val∧(m.gp n).sid=m.sid∧(m.gp n).next=m.next:=by
 unfold Mach.gp;split<;>simp
theorem Is{m:Mach}{n:Int}(h:0<=m.left)(hn:0<=n):0<=(m.gp n).left∧(m.gp n).left<=m.left:=by
 unfold Mach.gp;split<;>simp<;>omega
theorem zT{u:cW}{m:Mach}(hm:cz u m){x y:SV}(hy:gK u m y):eB u m (m.bQ x y):=by
 obtain⟨p1,p2,p3,p4,p5,p6,p7⟩:=ib m x.n;unfold Mach.bQ;split
 ·exact eB.same hm gK.zero (by omega)
 split
 ·exact eB.same hm gK.zero (by omega)
 rename_i hx hr;have xy:0<=x.n∧x.n<=1024:=by omega
 obtain⟨q1,q2⟩:=Is hm.left xy.1;split
 ·rename_i hs;exact⟨p1,fun a ha=>⟨a,by rw[p2];exact ha,rfl⟩,gK.zero,by simp,fun a ha=>by
   have GB:a∈m.heap:=p2 ▸ ha;exact⟨(hm.iH a GB).1,fun v hv=>((hm.iH a GB).2 v hv).of_heap p2⟩,⟨q1,q2⟩,by rw[p3];exact hm.out,by rw[p3];exact hm.words,⟨p4,p5⟩,fun h=>by
   exfalso;unfold Mach.gp at hs h;split at hs
   ·rename_i aN;rw[if_pos aN]at h;cases h
   rename_i aN;rw[if_neg aN]at h;have:=(hm.over h).2;simp only at hs;rw[this]at hs;cases hs⟩
 rename_i hs;refine⟨p1,fun a ha=>⟨a,by simp[ha],rfl⟩,?_,by simp,fun a ha=>?_,⟨q1,q2⟩,by simp only[p3];exact hm.out,by simp only[p3];exact hm.words,⟨p4,p5⟩,fun h=>⟨?_,by simpa using hs⟩⟩
 ·exact .mk (by omega) (by omega) (by omega) (fun _=>⟨_,rfl⟩) (by omega) (by simp) (fun id e=>by
   simp only[Option.some.injEq]at e;exact⟨_,List.mem_append_right _ (List.mem_singleton.2 rfl),e⟩) (by simp)
 ·have hk:∀v,gK u m v->gK u ({ m.gp x.n with heap:=m.heap++[⟨m.next+8,m.next+7,List.replicate x.n.toNat y⟩],next:=m.next+9 }:Mach) v:=fun v hv=>hv.mono fun b hb=>⟨b,by simp[hb],rfl⟩
  simp only[List.mem_append,List.mem_singleton]at ha;rcases ha with ha|rfl
  ·exact⟨(hm.iH a ha).1,fun v hv=>hk v ((hm.iH a ha).2 v hv)⟩
  refine⟨by simp;omega,fun v hv=>?_⟩;rw[(List.mem_replicate.1 hv).2];exact hk y hy
 simp only at h;unfold Mach.gp at h;split at h
 ·cases h
 exact h
theorem xp{u:cW}{m:Mach}(hm:cz u m){i:db}{args:List SV}(h:∀v∈args,gK u m v):eB u m (m.effect i args):=by
 have w0:gh 0:=by unfold gh;omega
 have h0:=j3 h 0;have h1:=j3 h 1;have h2:=j3 h 2;unfold Mach.effect;split
 ·split
  ·exact eB.same hm gK.zero (by omega)
  split
  ·exact eB.same hm gK.zero (by omega)
  rename_i hk hl;refine⟨rfl,fun a ha=>⟨a,ha,rfl⟩,gK.word w0,by simp,fun a ha=>⟨(hm.iH a ha).1,fun v hv=>((hm.iH a ha).2 v hv).of_heap rfl⟩,⟨hm.left,Int.le_refl _⟩,?_,fun n hn=>?_,⟨rfl,rfl⟩,fun h=>⟨h,(hm.over h).2⟩⟩
  ·have:=hm.out;simp;omega
  simp only[List.mem_append,List.mem_singleton]at hn;rcases hn with hn|rfl
  ·exact hm.words n hn
  exact SV.Wf.num h0 (.inl (by omega))
 split
 ·exact zT hm h1
 split
 ·split
  ·exact eB.same hm gK.zero (by omega)
  split
  ·exact eB.same hm gK.zero (by omega)
  exact eB.same hm (gK.word w0) (by omega)
 split
 ·exact eB.same hm gK.zero (by omega)
 rename_i hk;obtain⟨a,ha,e1,e2⟩:=GP hm h0 (by omega);rw[e2];have mT:=(hm.iH a ha).1;split
 ·exact eB.same hm (gK.word (by unfold gh;omega)) (by omega)
 split
 ·exact eB.same hm gK.zero (by omega)
 split
 ·exact eB.same hm (j3 (hm.iH a ha).2 _) (by omega)
 obtain⟨s1,s2⟩:=tq m.heap (cR args 0).arr (a.l.set (cR args 1).n.toNat (cR args 2));have FF:∀v,gK u m v->gK u ({ m with heap:=Mach.kN m.heap (cR args 0).arr (a.l.set (cR args 1).n.toNat (cR args 2)) }:Mach) v:=fun v hv=>hv.mono s1;refine⟨rfl,s1,gK.word w0,by simp,fun b hb=>?_,⟨hm.left,Int.le_refl _⟩,hm.out,hm.words,⟨rfl,rfl⟩,fun h=>⟨h,(hm.over h).2⟩⟩;obtain⟨c,hc,_,_,e⟩:=s2 b hb;rcases e with e|e
 ·rw[e];exact⟨(hm.iH c hc).1,fun v hv=>FF v ((hm.iH c hc).2 v hv)⟩
 rw[e];refine⟨by simpa using mT,fun v hv=>FF v ?_⟩;rcases List.mem_or_eq_of_mem_set hv with q|q
 ·exact(hm.iH a ha).2 v q
 rw[q];exact h2
theorem yv{u:cW}{m:Mach}(hm:cz u m){i:db}(hi:GH u i){args:List SV}(hl:args.length=i.args.length)(h:∀v∈args,gK u m v):eB u m (m.exec i args):=by
 have h0:=j3 h 0;unfold Mach.exec;split
 ·exact eB.same hm (gK.word (hi.c0 (by assumption))) (by omega)
 split
 ·split
  ·exact eB.same hm gK.zero (by omega)
  rename_i ho hk;have bq:lh args 0=true:=by simpa using hk
  have sc:=hi.c2 (.inl ho);have Vh:cR args 1∈args:=by
   unfold cR;rw[List.getElem?_eq_getElem (by omega)];exact List.getElem_mem _
  simp only[lh,List.all_eq_true,decide_eq_true_eq]at bq;obtain⟨⟨n,q1,q2⟩,q3⟩:=qQ i.op (cR args 0).n (cR args 1).n (SV.Wf.num (h _ Vh) (.inl (bq _ Vh)));have:dp i.op (cR args 0).n (cR args 1).n=(.word n,(dp i.op (cR args 0).n (cR args 1).n).2):=by rw[<-q2]
  rw[this];exact eB.same hm (gK.word q1) q3
 split
 ·rename_i ho;exact eB.same hm (.mk (by omega) (fun _=>(hi.gu ho).1) (by omega) (by omega) (by omega) (by have:=(hi.gu ho).2;omega) (by simp) h) (by omega)
 split
 ·rename_i ho;obtain⟨c1,c2,c3⟩:=hi.TB ho;exact eB.same hm (.mk (by omega) (by omega) (fun _=>⟨c1,c2⟩) (by omega) (by omega) (by omega) (by simp) h) (by omega)
 split
 ·obtain⟨q1,q2⟩:=vB (i:=i) h;exact eB.same hm q1 q2
 split
 ·rename_i ho;obtain⟨q1,q2⟩:=wi (i:=i) h (fun e=>by have:=hi.pack e;omega) (fun e1 e2=>by
   have:=hi.c2 (by omega)
   match args,hl with
   | [x,y],_=>exact⟨x,y,rfl⟩
   | [],hl=>simp at hl;omega
   | [x],hl=>simp at hl;omega
   | x::y::z::r,hl=>simp at hl;omega)
  exact eB.same hm q1 q2
 split
 ·exact eB.same hm h0 (by omega)
 exact xp hm h
theorem n7.mono{u:cW}{m m':Mach}(h:∀a∈m.heap,∃b∈m'.heap,b.l9=a.l9){f:Fr}(k:n7 u m f):n7 u m' f :=
 ⟨k.fn,k.blk,k.pos,fun e he=>(k.vals e he).mono h⟩
theorem n7.of_heap{u:cW}{m m':Mach}(h:m'.heap=m.heap){f:Fr}(k:n7 u m f):n7 u m' f:=k.mono fun a ha=>⟨a,by rw[h];exact ha,rfl⟩
theorem mE{u:cW}{k:Int}(h0:0<=k)(h1:k<u.fns.length):dg u k∈u.fns:=List.mem_of_getElem? (lQ h0 h1)
theorem pc{f:Func}{k:Int}(h0:0<=k)(h1:k<f.blocks.length):bU f k∈f.blocks:=List.mem_of_getElem? (gx h0 h1)
theorem Re{u:cW}(hu:mX u){k:Int}(h0:0<=k)(h1:k<u.fns.length):(0:Int)<=0∧(0:Int)<(dg u k).blocks.length:=by
 have:=List.length_pos_iff.2 (hu.ne _ (mE h0 h1)).1;omega
theorem cz.stop{u:cW}{m:Mach}(hm:cz u m){e n:Int}(he:0<=e∧e<=6)(hn:gh n)(hz:e≠0->n=0):cz u (m.stop e n) where
 frames:=fun f hf=>(hm.frames f hf).of_heap (by rfl)
 iH:=fun a ha=>⟨(hm.iH a ha).1,fun v hv=>((hm.iH a ha).2 v hv).of_heap (by rfl)⟩
 left:=hm.left
 depth:=hm.depth
 out:=hm.out
 words:=hm.words
 fin:=he
 val:=hn
 done:=hz
 over:=fun h=>by cases h
theorem cz.bY{u:cW}{m:Mach}(hm:cz u m){f:Fr}(cA:m.frames≠[])(hf:n7 u m f):cz u (m.bY f) where
 frames:=fun g hg=>by
  rcases List.mem_cons.1 hg with rfl|hg
  ·exact hf.of_heap (by rfl)
  exact(hm.frames g (List.mem_of_mem_tail hg)).of_heap (by rfl)
 iH:=fun a ha=>⟨(hm.iH a ha).1,fun v hv=>((hm.iH a ha).2 v hv).of_heap (by rfl)⟩
 left:=hm.left
 depth:=by
  have h1:=hm.depth;have h2:=List.length_pos_iff.2 cA;have h3:(m.bY f).frames.length=m.frames.length:=by
   simp only[Mach.bY,List.length_cons,List.length_tail];omega
  rw[h3];exact h1
 out:=hm.out
 words:=hm.words
 fin:=hm.fin
 val:=hm.val
 done:=hm.done
 over:=fun h=>⟨by simp[Mach.bY],(hm.over h).2⟩
theorem cz.enter{u:cW}{m:Mach}(hu:mX u)(hm:cz u m)(hs:m.over=false->m.short=false)(hd:m.frames.length+m.left+1<=2 ^ 40){fn:Int}(rA:0<=fn∧fn<u.fns.length){args:List SV}(ha:∀v∈args,gK u m v)(to:Int) :
  cz u (m.enter u fn args to) where
 frames:=fun g hg=>by
  rcases List.mem_cons.1 hg with rfl|hg
  ·exact⟨rA,Re hu rA.1 rA.2,Nat.zero_le _,zV (by simp) (fun v hv=>(ha v hv).of_heap (by rfl))⟩
  exact(hm.frames g hg).of_heap (by rfl)
 iH:=fun a ha=>⟨(hm.iH a ha).1,fun v hv=>((hm.iH a ha).2 v hv).of_heap (by rfl)⟩
 left:=hm.left
 depth:=by
  simp only[Mach.enter,List.length_cons];omega
 out:=hm.out
 words:=hm.words
 fin:=hm.fin
 val:=hm.val
 done:=hm.done
 over:=fun h=>⟨by simp[Mach.enter],hs h⟩
theorem cz.follow{u:cW}{m:Mach}(hm:cz u m)(cA:m.frames≠[]){f:Fr}(hf:n7 u m f){e:Edge}(he:xT (dg u f.fn) e):cz u (m.follow u f e) :=
 hm.bY cA ⟨hf.fn,⟨he.lo,he.hi⟩,Nat.zero_le _,zV hf.vals (r3 hf.vals _)⟩
theorem cz.leave{u:cW}{m:Mach}(hm:cz u m)(cA:m.frames≠[]){f:Fr}{v:SV}(hv:gK u m v)(ho:m.over=false):cz u (m.leave f v):=by
 have hz:gh 0:=by unfold gh;omega
 unfold Mach.leave;cases ht:m.frames.tail with
 | nil =>
  simp only;have h0:cz u ({ m with frames:=[],over:=true }:Mach) :=
   ⟨by simp,fun a ha=>⟨(hm.iH a ha).1,fun v hv=>((hm.iH a ha).2 v hv).of_heap (by rfl)⟩,hm.left,by have:=hm.depth;simp;omega,hm.out,hm.words,hm.fin,hm.val,hm.done,fun h=>by cases h⟩
  refine h0.stop (e:=0) (by omega) ?_ (by simp);split
  ·exact SV.Wf.num hv (by assumption)
  exact hz
 | cons g r =>
  simp only;have hg:g∈m.frames:=List.mem_of_mem_tail (by rw[ht];simp);have hr:∀x∈r,x∈m.frames:=fun x hx=>List.mem_of_mem_tail (by rw[ht];simp[hx]);have hl:r.length+1<=m.frames.length:=by
   have h1:m.frames.tail.length=r.length+1:=by rw[ht];rfl
   simp at h1;omega
  have Ta:=hm.frames g hg;exact⟨fun x hx=>by
   rcases List.mem_cons.1 hx with rfl|hx
   ·exact⟨Ta.fn,Ta.blk,Ta.pos,fun e he=>(y8 Ta.vals hv e he).of_heap (by rfl)⟩
   exact(hm.frames x (hr x hx)).of_heap (by rfl),fun a ha=>⟨(hm.iH a ha).1,fun v hv=>((hm.iH a ha).2 v hv).of_heap (by rfl)⟩,hm.left,by have:=hm.depth;simp only[List.length_cons];omega,hm.out,hm.words,hm.fin,hm.val,hm.done,fun h=>⟨by simp,(hm.over h).2⟩⟩
theorem xk{f:Func}{t:Term}(ht:xZ f t)(h0:t.kind≠0)(h1:t.kind≠1)(h4:t.kind≠4)(n:Int):∃e,t.to[jo t n]?=some e:=by
 have hk:=ht.kind;have aN:jo t n<t.to.length:=by
  unfold jo;by_cases h2:t.kind=2
  ·rw[if_pos h2,ht.cond h2];split<;>omega
  rw[if_neg h2,ht.switch (by omega)];have:=List.findIdx_le_length (xs:=t.cases) (p:=(· == n));omega
 exact⟨_,List.getElem?_eq_getElem aN⟩
theorem cz.finish{u:cW}{m:Mach}(hm:cz u m)(ho:m.over=false){f:Fr}(hf:n7 u m f){t:Term}(ht:xZ (dg u f.fn) t):cz u (m.finish u f t):=by
 have hz:gh 0:=by unfold gh;omega
 have cA:=(hm.over ho).1;unfold Mach.finish;split
 ·exact hm.stop ht.n hz (fun _=>rfl)
 rename_i h4;split
 ·rename_i h1;have hl:=ht.Mu h1;have he:t.to[0]?=some (t.to[0]'(by omega)):=List.getElem?_eq_getElem _;rw[he];exact hm.follow cA hf (ht.xo _ (List.getElem_mem _))
 rename_i h1;split
 ·exact hm.leave cA (yx hf.vals _) ho
 rename_i h0;split
 ·exact hm.stop (by omega) hz (fun _=>rfl)
 obtain⟨e,he⟩:=xk ht h0 h1 h4 (jN f.vals t.arg).n;rw[he];exact hm.follow cA hf (ht.xo _ (List.mem_of_getElem? he))
theorem cz.settle{u:cW}{m:Mach}(hm:cz u m)(cA:m.frames≠[]){f:Fr}(hf:n7 u m f){r:Mach×SV×Int}(hr:eB u m r)(to:Int):cz u (Mach.settle f to r):=by
 have hz:gh 0:=by unfold gh;omega
 have h1:cz u r.1:=⟨fun g hg=>(hm.frames g (hr.frames ▸ hg)).mono hr.AQ,hr.iH,hr.left.1,by
  have:=hm.depth;have:=hr.left.2;rw[hr.frames];omega,hr.out,hr.words,by rw[hr.fin.1];exact hm.fin,by rw[hr.fin.2];exact hm.val,by rw[hr.fin.1,hr.fin.2];exact hm.done,fun h=>⟨by rw[hr.frames];exact cA,(hr.over h).2⟩⟩
 have cx:n7 u r.1 f:=hf.mono hr.AQ;have Mc:r.1.frames≠[]:=by rw[hr.frames];exact cA
 unfold Mach.settle;split
 ·refine(h1.stop hr.N8 hz (fun _=>rfl)).bY Mc ?_;have tM:n7 u (r.1.stop r.2.2 0) f:=cx.of_heap (by rfl);exact⟨tM.fn,tM.blk,tM.pos,y8 tM.vals (hr.val.of_heap (by rfl))⟩
 exact h1.bY Mc ⟨cx.fn,cx.blk,cx.pos,y8 cx.vals hr.val⟩
theorem cz.step{u:cW}{m:Mach}(hu:mX u)(hm:cz u m)(ho:m.over=false)(hd:m.frames.length+m.left+1<=2 ^ 40):cz u (m.step u):=by
 have hz:gh 0:=by unfold gh;omega
 obtain⟨cA,ml⟩:=hm.over ho;unfold Mach.step;cases cx:m.frames with
 | nil=>exact absurd cx cA
 | cons f r =>
  have hf:=hm.frames f (by rw[cx];simp);have hF:=mE hf.fn.1 hf.fn.2;have hB:=pc hf.blk.1 hf.blk.2;have hb:=hu.blocks _ hF _ hB;simp only;cases hi:(bU (dg u f.fn) f.blk).ins[f.pos]? with
  | none=>exact hm.finish ho hf hb.term
  | some i =>
   simp only;have CC:=hb.ins i (List.mem_of_getElem? hi);have aN:=ag hi;have ni:n7 u m { f with pos:=f.pos+1 }:=⟨hf.fn,hf.blk,aN,hf.vals⟩
   have h1:=hm.bY cA ni;have HI:n7 u (m.bY { f with pos:=f.pos+1 }) { f with pos:=f.pos+1 }:=ni.of_heap (by rfl);have Ot:(m.bY { f with pos:=f.pos+1 }).frames.length=m.frames.length:=by
    simp[Mach.bY,cx]
   have ha:=r3 HI.vals i.args;have mT:=sL f.vals i.args;unfold Mach.act;split
   ·rename_i K2;obtain⟨c1,c2,c3⟩:=CC.call K2;exact h1.enter hu (fun _=>ml) (by rw[Ot];exact hd) ⟨c1,c2⟩ ha _
   split
   ·split
    ·rename_i hk;exact h1.enter hu (fun _=>ml) (by rw[Ot];exact hd) (SV.Wf.fn (j3 ha 0) hk.1) ha _
    exact h1.stop (by omega) hz (fun _=>rfl)
   exact h1.settle (by simp[Mach.bY]) HI (yv h1 CC mT ha) _
theorem Gm(u:cW)(m:Mach)(hm:cz u m)(hu:mX u)(ho:m.over=false):(m.step u).left<=m.left:=by
 obtain⟨cA,ml⟩:=hm.over ho;have PJ:∀(m:Mach) f v,(m.leave f v).left=m.left:=fun m f v=>by
  unfold Mach.leave;split<;>rfl
 unfold Mach.step;cases cx:m.frames with
 | nil=>exact absurd cx cA
 | cons f r =>
  have hf:=hm.frames f (by rw[cx];simp);have hb:=hu.blocks _ (mE hf.fn.1 hf.fn.2) _ (pc hf.blk.1 hf.blk.2);simp only;cases hi:(bU (dg u f.fn) f.blk).ins[f.pos]? with
  | none =>
   simp only;unfold Mach.finish
   repeat' split
   all_goals first
    | exact Int.le_refl _
    | exact Int.le_of_eq (PJ _ _ _)
  | some i =>
   simp only;have CC:=hb.ins i (List.mem_of_getElem? hi);have aN:=ag hi;have ni:n7 u m { f with pos:=f.pos+1 }:=⟨hf.fn,hf.blk,aN,hf.vals⟩
   have h1:=hm.bY cA ni;unfold Mach.act;split
   ·exact Int.le_refl _
   split
   ·split<;>exact Int.le_refl _
   have hx:=yv h1 CC (sL f.vals i.args) (r3 (fun e he=>(hf.vals e he).of_heap (by rfl)) i.args);have hl:=hx.left.2;unfold Mach.settle;split<;>exact hl
def mP(cs:List ae)(n:Nat)(id:Nat):List ae:=cs.take n++[.mp id 0]
theorem mA(a b c:Nat):(ae.os a b c).cells=[.os a b c]:=rfl
theorem sX(a b:Nat):ar [.mp a b]=[.mp a b]:=rfl
theorem Cn{u:cW}{m:Mach}{O:List ay}(bD:∀o∈O,o.upto O.length)(h0:O[2]?=some (.cells (aD u m))){cs:List ae}(eo:O[m.sid]?=some (.cells cs))(iq:m.frames.length<=cs.length)(cA:m.sid≠2)(hN:O.length=m.next)
  (hd:m.frames.length<=2 ^ 41) (fn:Int) (rA:0<=fn∧fn<u.fns.length) (hb:(dg u fn).blocks≠[]) (args:List SV) (hl:∀v∈args,SV.bk O.length v) (hp:(bU (dg u fn) 0).params.length=args.length) (to:Int) :
  aY Tryz.prog 48 O [.mp 2 0,aI fn,.aC 4 (args.map SV.enc) .sh,aI to] (fun r O'=>r=.c5 []∧O'=((O.set m.sid .gone).set 2 (.cells (aD u (m.enter u fn args to)))) ++
   [.map (.int .i64) ((g5 [] (bU (dg u fn) 0).params args).map il),.cells [aI fn,aI 0,aI 0,aI to,.mm O.length],.cells (mP cs m.frames.length (O.length+1))]):=by
 have hF:=lQ rA.1 rA.2;have hB:=gx (f:=dg u fn) (k:=0) (by omega) (by
  have:=List.length_pos_iff.2 hb;omega)
 generalize TN:bU (dg u fn) 0=B at *;generalize Wh:dg u fn=F at *;have hB:F.blocks[0]?=some B:=hB;have GA:∀X,(O++X)[2]?=some (.cells (aD u m)):=fun X=>eU h0;unfold aD at GA;have fj:=ag h0;have rD:∀X,(O++X)[m.sid]?=some (.cells cs):=fun X=>eU eo;have R1:(O.set m.sid .gone)[2]?=some (.cells (aD u m)):=cb h0 cA;have e1:∀X,(O++X).set m.sid .gone=O.set m.sid .gone++X:=fun X=>lx eo;have e2:∀X,(O.set m.sid .gone++X)[2]?=some (.cells (aD u m)):=fun X=>eU R1;have e3:∀X y,(O.set m.sid .gone++X).set 2 y=(O.set m.sid .gone).set 2 y++X:=fun X y=>lx R1;unfold aD at e2;have Ot:m.frames.length*1<=cs.length:=by omega
 have eZ:((m.frames.length:Nat):Int)+1=((m.frames.length+1:Nat):Int):=by omega
 have FN:[cc u.fns,aI u.main,.os (O.length+2) (m.frames.length+1) 1,aI m.left,.v (.bool m.short),.v (.bool m.over),.aC 1 (m.out.map aI) (.tok 3),aI m.fin,aI m.val]=aD u (m.enter u fn args to):=by
  simp[aD,Mach.enter,hN]
 have jF:=bo (n:=O.length+3) (ds:=aD u (m.enter u fn args to)) (dH (k:=m.sid) (x:=.gone) (fun o ho=>ay.ep (by omega) (bD o ho)) trivial) R1 (fun h=>by
  simp only[aD,aq,ae.upto,aL,Func.an,true_and,and_true,Mach.enter]at h ⊢;omega)
 obtain⟨O2,oI⟩:∃O2,O2=(O.set m.sid .gone).set 2 (.cells (aD u (m.enter u fn args to))):=⟨_,rfl⟩
 have hlen:O.length=O2.length:=by rw[oI];simp
 simp only[<-oI]at jF ⊢;rw[hlen]at jF;refine zf true (O.length+3) Tryz.func48 Tryz.ntmps48 ?_;dsimp only[Tmp,TypeId,ax];refine aB (av ?_);refine cg ?_;simp -dsimp only[simprocAttr,↓aa,zp,GA,hF,hB]
 repeat(refine⟨by omega,?_⟩)
 refine av ?_;refine bT 2 rfl (fun mT=>?_);simp only[List.length_map]at mT;refine aj (aO (ι:={j:Nat // j<=B.params.length}) (fun j=>⟨54,[(0,.mp 2 0),(2,.aC 4 (args.map SV.enc) .sh),(8,.mp (O.length+1) 0),(27,ct B.params),(28,aI B.params.length),(29,aI j.1)],O++[.map (.int .i64) ((g5 [] (B.params.take j.1) (args.take j.1)).map il),.cells [aI fn,aI 0,aI 0,aI to,.mm O.length]]⟩) (fun j=>B.params.length-j.1) ⟨0,by omega⟩ ?_ ?_)
 ·refine zq rfl ?_ ?_;simp -dsimp only[simprocAttr,↓aa,zp,zc];rw[uA];rfl
 rintro⟨j,hj⟩;refine aB (av ?_);apply gr rfl<;>intro h
 ·refine eH ?_;have aN:j<B.params.length:=by simpa using h
  obtain⟨p,hp⟩:∃p,B.params[j]?=some p:=⟨B.params[j],by simp[aN]⟩
  obtain⟨a,ha⟩:∃a,args[j]?=some a:=⟨args[j]'(by omega),List.getElem?_eq_getElem _⟩
  refine aG (aj ?_);refine aH ?_;simp -dsimp only[simprocAttr,↓aa,zp,hp];refine av ?_;refine fq ?_;simp -dsimp only[simprocAttr,↓aa,zp,ha,rN,<-p9 hp ha]
  repeat(refine⟨by omega,?_⟩)
  refine⟨ob (by kernel_rfl),?_⟩;refine av ?_;refine du ?_
  repeat(refine⟨by omega,?_⟩)
  refine r7 ?_;refine⟨⟨j+1,aN⟩,by simp;omega,?_⟩;refine zq rfl ?_ ?_;simp -dsimp only[simprocAttr,↓aa,zp,zc]
  ·exact Sub.int (by simp)
  rfl
 refine aM ?_;simp -dsimp only[ai,ne_eq,Nat.reduceEqDiff,reduceCtorEq];have tN:j=B.params.length:=by simp at h;omega
 subst tN;have TQ:args.take B.params.length=args:=List.take_of_length_le (by omega);refine U8 ?_;simp -dsimp only[simprocAttr,↓aa,zp,GA,TQ,List.take_length,rD,e1,e2,e3,Ot,List.length_set,mA,FN,<-oI];refine⟨by omega,by omega,trivial,?_⟩;refine I ?_;simp -dsimp only[simprocAttr,↓aa,zp,zr,Tryz.results48,pB,hlen,sX];refine⟨fun o ho=>?_,trivial,by simp[mP]⟩;rcases List.mem_append.1 ho with ho|ho
 ·exact jF o ho
 have wQ:=bD _ (List.mem_of_getElem? eo);simp only[ay.upto,a9]at wQ;simp only[List.mem_cons,List.mem_nil_iff,or_false]at ho;rcases ho with rfl|rfl|rfl
 ·refine An fun x hx=>?_;rcases la hx with q|q
  ·simp at q
  exact(hl _ q).mono (by omega)
 ·simp[ay.upto,aq,ae.upto]
 simp only[ay.upto,a9];intro x hx;rcases List.mem_append.1 hx with q|q
 ·exact ae.ep (by omega) _ (wQ x (List.mem_of_mem_take q))
 simp only[List.mem_singleton]at q;subst q;simp[ae.upto]
def yW(u:cW)(fuel:Int):List ae:=[cc u.fns,aI u.main,.aC 1 [] .ex,aI fuel,.v (.bool false),.v (.bool false),.aC 1 [] (.tok 3),aI 0,aI 0]
theorem Ao{u:cW}{fuel:Int}(DN:0<=u.main∧u.main<u.fns.length)(hb:(dg u u.main).blocks≠[])(hp:(bU (dg u u.main) 0).params=[])(sz:Nat)(ow:od) :
  aY Tryz.prog 48 [.gone,.cells [.aC 1 [] .ex,aI 0,aI 0],.cells (yW u fuel),.spare 0] [.mp 2 0,aI u.main,.aC sz [] ow,aI 0] (fun r O'=>r=.c5 []∧O'=[.gone,.cells [.aC 1 [] .ex,aI 0,aI 0],.cells (aD u ((Mach.start fuel).enter u u.main [] 0)),.spare 0,.map (.int .i64) [],.cells [aI u.main,aI 0,aI 0,aI 0,.mm 4],.cells [.mp 5 0]]):=by
 have hF:=lQ DN.1 DN.2;have hB:=gx (f:=dg u u.main) (k:=0) (by omega) (by
  have:=List.length_pos_iff.2 hb;omega)
 have FN:aD u ((Mach.start fuel).enter u u.main [] 0)=[cc u.fns,aI u.main,.os 6 1 1,aI fuel,.v (.bool false),.v (.bool false),.aC 1 [] (.tok 3),aI 0,aI 0]:=by
  simp[aD,Mach.enter,Mach.start]
 rw[FN];unfold yW;generalize TN:bU (dg u u.main) 0=B at *;generalize Wh:dg u u.main=F at *;have hB:F.blocks[0]?=some B:=hB;have oM:B.params.length=0:=by rw[hp];rfl
 refine zf true 7 Tryz.func48 Tryz.ntmps48 ?_;dsimp only[Tmp,TypeId,ax];refine aB (av ?_);refine cg ?_;simp -dsimp only[simprocAttr,↓aa,zp,hF,hB]
 repeat(refine⟨by omega,?_⟩)
 refine av ?_;refine aj (aO (ι:=Unit) (fun _=>⟨54,[(0,.mp 2 0),(8,.mp 5 0),(27,ct B.params),(28,aI 0),(29,aI 0)],[.gone,.cells [.aC 1 [] .ex,aI 0,aI 0],.cells [cc u.fns,aI u.main,.aC 1 [] .ex,aI fuel,.v (.bool false),.v (.bool false),.aC 1 [] (.tok 3),aI 0,aI 0],.spare 0,.map (.int .i64) [],.cells [aI u.main,aI 0,aI 0,aI 0,.mm 4]]⟩) (fun _=>0) () ?_ ?_)
 ·refine zq rfl ?_ ?_;simp -dsimp only[simprocAttr,↓aa,zp,zc]
  ·exact Sub.int (by simp[oM])
  rfl
 rintro⟨⟩;refine aB (av ?_);apply gr rfl<;>intro h
 ·simp at h
 refine aM ?_;simp -dsimp only[ai,ne_eq,Nat.reduceEqDiff,reduceCtorEq];refine U8 ?_;simp -dsimp only[simprocAttr,↓aa,zp,mA,sX];refine⟨trivial,?_⟩;refine I ?_;simp -dsimp only[simprocAttr,↓aa,zp,zr,Tryz.results48];refine⟨?_,trivial⟩;simp[ay.upto,aq,kC,ae.upto,Func.an]
theorem CO{u:cW}{m:Mach}{O:List ay}(bD:∀o∈O,o.upto O.length)(h0:O[2]?=some (.cells (aD u m)))(f:Fr)(cx:m.frames=[f])(gf:f.b9<O.length)(v:SV)(hv:SV.bk O.length v) :
  aY Tryz.prog 102 O [.mp 2 0,.mp f.b9 0,v.enc] (fun r O'=>r=.c5 []∧O'=O.set 2 (.cells (aD u (m.leave f v)))):=by
 have qn:=hv.aF;rw[SV.dN]at qn;have fj:=ag h0;have CD:[cc u.fns,aI u.main,.os m.sid 0 1,aI m.left,.v (.bool m.short),.v (.bool m.over),.aC 1 (m.out.map aI) (.tok 3),aI m.fin,aI m.val]=aD u { m with frames:=[] }:=rfl;have PY:=dK h0;have lr:O[2]?=some (.cells [cc u.fns,aI u.main,.os m.sid 1 1,aI m.left,.v (.bool m.short),.v (.bool m.over),.aC 1 (m.out.map aI) (.tok 3),aI m.fin,aI m.val]):=by
  rw[h0];unfold aD;rw[cx];rfl
 obtain⟨O1,ff⟩:∃O1,O1=O.set 2 (.cells (aD u { m with frames:=[] })):=⟨_,rfl⟩
 have hlen:O.length=O1.length:=by rw[ff];simp
 have Fy:O1[2]?=some (.cells (aD u { m with frames:=[] })):=by rw[ff];exact PY _
 have fo:∀o∈O1,o.upto O1.length:=by
  rw[<-hlen,ff];exact bo bD h0 (fun h=>ca h rfl)
 have ku:=fun e n=>lf fo Fy e n;have PC:∀n:Int,O1.set 2 (.cells (aD u (({ m with frames:=[] }:Mach).stop 0 n)))=O.set 2 (.cells (aD u (({ m with frames:=[] }:Mach).stop 0 n))):=fun n=>by
  rw[ff,List.set_set]
 have jF:∀n:Int,∀o∈O.set 2 (.cells (aD u (({ m with frames:=[] }:Mach).stop 0 n))),o.upto O.length:=fun n=>bo bD h0 (fun h=>ca h rfl);have nk:O1[2]?=some (.cells [cc u.fns,aI u.main,.os m.sid 0 1,aI m.left,.v (.bool m.short),.v (.bool m.over),.aC 1 (m.out.map aI) (.tok 3),aI m.fin,aI m.val]):=Fy;have fm:m.leave f v=({ m with frames:=[] }:Mach).stop 0 (if v.kind=0∨v.kind=1 then v.n else 0):=by
  unfold Mach.leave;rw[cx];rfl
 rw[fm];have nQ:∀x,(O.set 2 x).take O1.length=O.set 2 x:=fun x=>by rw[<-hlen];exact c9
 by_cases hk:v.kind=0∨v.kind=1
 ·rw[if_pos hk];rcases(show v.kind=0∨(v.kind≠0∧v.kind=1) by omega)with e|⟨e,e1⟩
  ·have hd:decide (v.kind=0)=true:=decide_eq_true e;refine zf true O.length Tryz.func102 Tryz.ntmps102 ?_;dsimp only[Tmp,TypeId,ax];refine aB (av ?_);refine bg 5 ([aI v.kind,aI v.n,.aC 4 (v.list.map SV.enc) .sh,eP v.arr]) [(0,.mp 2 0),(1,.mp f.b9 0),(5,.ip none [aI v.kind,aI v.n,.aC 4 (v.list.map SV.enc) .sh,eP v.arr])] rfl (by simp only[List.map_cons,List.map_nil,c4,cw,dY,dZ,dX,dV,dW,cC]) (by omega) (by simp[cq,bL,Go.Av.look]) ?_ ?_ ?_
   ·exact bD
   ·simp only[ae.upto]at qn;simp[ae.upto,gf,fj,qn]
   refine aH ?_;simp -dsimp only[simprocAttr,↓aa,zp,lr,mA,CD,<-ff];refine⟨trivial,?_⟩;refine⟨ob (by kernel_rfl),?_⟩;refine av ?_;refine cg ?_;simp -dsimp only[simprocAttr,↓aa,zp,nk];refine av ?_;refine cB rfl ?_;refine eH ?_;refine aB (av ?_);refine cg ?_;simp -dsimp only[simprocAttr,↓aa,zp,hd];refine av ?_;refine de rfl ?_;refine du (av ?_);refine du ?_;refine .inr (.inl ⟨_,_,ku 0 v.n,.inl (ah ?_)⟩);simp -dsimp only[simprocAttr,↓aa,zp,hlen,PC];refine I ?_;simp -dsimp only[simprocAttr,↓aa,zp,zr,Tryz.results102,hlen,List.take_length,List.length_set,nQ];exact⟨by rw[<-hlen];exact jF v.n,trivial⟩
  have hd:decide (v.kind=0)=false:=decide_eq_false e;have vf:decide (v.kind=1)=true:=decide_eq_true e1;refine zf true O.length Tryz.func102 Tryz.ntmps102 ?_;dsimp only[Tmp,TypeId,ax];refine aB (av ?_);refine bg 5 ([aI v.kind,aI v.n,.aC 4 (v.list.map SV.enc) .sh,eP v.arr]) [(0,.mp 2 0),(1,.mp f.b9 0),(5,.ip none [aI v.kind,aI v.n,.aC 4 (v.list.map SV.enc) .sh,eP v.arr])] rfl (by simp only[List.map_cons,List.map_nil,c4,cw,dY,dZ,dX,dV,dW,cC]) (by omega) (by simp[cq,bL,Go.Av.look]) ?_ ?_ ?_
  ·exact bD
  ·simp only[ae.upto]at qn;simp[ae.upto,gf,fj,qn]
  refine aH ?_;simp -dsimp only[simprocAttr,↓aa,zp,lr,mA,CD,<-ff];refine⟨trivial,?_⟩;refine⟨ob (by kernel_rfl),?_⟩;refine av ?_;refine cg ?_;simp -dsimp only[simprocAttr,↓aa,zp,nk];refine av ?_;refine cB rfl ?_;refine eH ?_;refine aB (av ?_);refine cg ?_;simp -dsimp only[simprocAttr,↓aa,zp,hd,vf];refine av ?_;refine de rfl ?_;refine du (av ?_);refine du ?_;refine .inr (.inl ⟨_,_,ku 0 v.n,.inl (ah ?_)⟩);simp -dsimp only[simprocAttr,↓aa,zp,hlen,PC];refine I ?_;simp -dsimp only[simprocAttr,↓aa,zp,zr,Tryz.results102,hlen,List.take_length,List.length_set,nQ];exact⟨by rw[<-hlen];exact jF v.n,trivial⟩
 rw[if_neg hk];have hd:decide (v.kind=0)=false:=decide_eq_false (by omega);have vf:decide (v.kind=1)=false:=decide_eq_false (by omega);refine zf true O.length Tryz.func102 Tryz.ntmps102 ?_;dsimp only[Tmp,TypeId,ax];refine aB (av ?_);refine bg 5 ([aI v.kind,aI v.n,.aC 4 (v.list.map SV.enc) .sh,eP v.arr]) [(0,.mp 2 0),(1,.mp f.b9 0),(5,.ip none [aI v.kind,aI v.n,.aC 4 (v.list.map SV.enc) .sh,eP v.arr])] rfl (by simp only[List.map_cons,List.map_nil,c4,cw,dY,dZ,dX,dV,dW,cC]) (by omega) (by simp[cq,bL,Go.Av.look]) ?_ ?_ ?_
 ·exact bD
 ·simp only[ae.upto]at qn;simp[ae.upto,gf,fj,qn]
 refine aH ?_;simp -dsimp only[simprocAttr,↓aa,zp,lr,mA,CD,<-ff];refine⟨trivial,?_⟩;refine⟨ob (by kernel_rfl),?_⟩;refine av ?_;refine cg ?_;simp -dsimp only[simprocAttr,↓aa,zp,nk];refine av ?_;refine cB rfl ?_;refine eH ?_;refine aB (av ?_);refine cg ?_;simp -dsimp only[simprocAttr,↓aa,zp,hd,vf];refine av ?_;refine cB rfl ?_;refine eH ?_;refine du ?_;refine .inr (.inl ⟨_,_,ku 0 0,.inl (ah ?_)⟩);simp -dsimp only[simprocAttr,↓aa,zp,hlen,PC];refine I ?_;simp -dsimp only[simprocAttr,↓aa,zp,zr,Tryz.results102,hlen,List.take_length,List.length_set,nQ];exact⟨by rw[<-hlen];exact jF 0,trivial⟩
theorem CP{u:cW}{m:Mach}{O:List ay}(bD:∀o∈O,o.upto O.length)(h0:O[2]?=some (.cells (aD u m)))(f g:Fr)(r:List Fr)(cx:m.frames=f::g::r)(hf:O[f.b9]?=some (.cells (aX f)))
  (hg:O[g.b9]?=some (.cells (aX g))) (WB:O[g.dR]?=some (.map (.int .i64) (g.vals.map il))) (Tb:∀e∈g.vals,SV.bk O.length e.2) {cs:List ae} (eo:O[m.sid]?=some (.cells cs)) (iq:cs[r.length]?=some (.mp g.b9 0))
  (PY:m.sid≠2) (wU:r.length<=2 ^ 40) (GD:f.b9≠2) (R1:g.b9≠2) (lr:g.dR≠2) (v:SV) (hv:SV.bk O.length v) :
  aY Tryz.prog 102 O [.mp 2 0,.mp f.b9 0,v.enc] (fun r O'=>r=.c5 []∧O'=(O.set 2 (.cells (aD u (m.leave f v)))).set g.dR (.map (.int .i64) ((fZ g.vals f.to v).map il))):=by
 have qn:=hv.aF;rw[SV.dN]at qn;have fj:=ag h0;have gf:=ag hf;have fm:aD u (m.leave f v)=[cc u.fns,aI u.main,.os m.sid (r.length+1) 1,aI m.left,.v (.bool m.short),.v (.bool m.over),.aC 1 (m.out.map aI) (.tok 3),aI m.fin,aI m.val]:=by
  simp[Mach.leave,cx,aD]
 have hm:O[2]?=some (.cells [cc u.fns,aI u.main,.os m.sid (r.length+1+1) 1,aI m.left,.v (.bool m.short),.v (.bool m.over),.aC 1 (m.out.map aI) (.tok 3),aI m.fin,aI m.val]):=by
  rw[h0];unfold aD;rw[cx];rfl
 obtain⟨O1,ff⟩:∃O1,O1=O.set 2 (.cells (aD u (m.leave f v))):=⟨_,rfl⟩
 have hlen:O.length=O1.length:=by rw[ff];simp
 have hs:=dK h0;have Fy:O1[2]?=some (.cells (aD u (m.leave f v))):=by rw[ff];exact hs _
 have P1:O1[m.sid]?=some (.cells cs):=by rw[ff];exact cb eo PY.symm
 have ni:O1[f.b9]?=some (.cells (aX f)):=by rw[ff];exact cb hf GD.symm
 have nj:O1[g.b9]?=some (.cells (aX g)):=by rw[ff];exact cb hg R1.symm
 have Ua:O1[g.dR]?=some (.map (.int .i64) (g.vals.map il)):=by rw[ff];exact cb WB lr.symm
 have fo:∀o∈O1,o.upto O1.length:=by
  rw[<-hlen,ff];refine bo bD h0 (fun h=>ca h ?_);simp[Mach.leave,cx]
 rw[<-ff];have jF:∀o∈O1.set g.dR (.map (.int .i64) ((fZ g.vals f.to v).map il)),o.upto O1.length:=by
  refine dH fo (An fun x hx=>?_);rw[<-hlen];rcases jT hx with q|q
  ·exact Tb x q
  rw[q];exact hv
 have nQ:∀x,(O1.set g.dR x).take O1.length=O1.set g.dR x:=fun x=>c9;have nh:[cc u.fns,aI u.main,.os m.sid (r.length+1) 1,aI m.left,.v (.bool m.short),.v (.bool m.over),.aC 1 (m.out.map aI) (.tok 3),aI m.fin,aI m.val]=aD u (m.leave f v):=fm.symm;rw[fm]at Fy;unfold aX at ni nj;have yK:((r.length+1+1:Nat):Int)-1=((r.length+1:Nat):Int):=by omega
 have Ss:((r.length+1:Nat):Int)-1=(r.length:Nat):=by omega
 have W3:decide ((0:Int)<((r.length+1:Nat):Int))=true:=decide_eq_true (by omega);refine zf true O.length Tryz.func102 Tryz.ntmps102 ?_;dsimp only[Tmp,TypeId,ax];refine aB (av ?_);refine bg 5 ([aI v.kind,aI v.n,.aC 4 (v.list.map SV.enc) .sh,eP v.arr]) [(0,.mp 2 0),(1,.mp f.b9 0),(5,.ip none [aI v.kind,aI v.n,.aC 4 (v.list.map SV.enc) .sh,eP v.arr])] rfl (by simp only[List.map_cons,List.map_nil,c4,cw,dY,dZ,dX,dV,dW,cC]) (by omega) (by simp[cq,bL,Go.Av.look]) ?_ ?_ ?_
 ·exact bD
 ·simp only[ae.upto]at qn;simp[ae.upto,gf,fj,qn]
 refine aH ?_;simp -dsimp only[simprocAttr,↓aa,zp,hm,mA,yK,Int.toNat_natCast,nh,<-ff]
 repeat(refine⟨by omega,?_⟩)
 refine⟨trivial,?_⟩;refine⟨ob (by kernel_rfl),?_⟩;refine av ?_;refine cg ?_;simp -dsimp only[simprocAttr,↓aa,zp,Fy,W3];refine av ?_;refine de rfl ?_;refine aH ?_;simp -dsimp only[simprocAttr,↓aa,zp,Fy,P1,Ss,Nat.mul_one,iq,ni,nj,Ua,rN]
 repeat(refine⟨by omega,?_⟩)
 refine⟨ob (by kernel_rfl),?_⟩;refine av ?_;refine ak ?_;simp -dsimp only[simprocAttr,↓aa,zp,zr,Tryz.results102,hlen,nQ,List.length_set];exact⟨jF,trivial⟩
theorem kA{cs xs:List ae}{n:Nat}(h:xs.length=n)(hc:cs.length=n):bu cs 0 xs=xs:=by
 simp[bu];omega
theorem tw{x:ae}(h:x.flat):x.cells.map ae.bp=x.share.cells:=by
 cases x<;>rfl
theorem gD(es:List (Int×SV))(k:Int):(kz es k).cells.map ae.bp=(jN es k).enc.cells:=by
 rw[tw (jW es k),vJ]
theorem Hn{u:cW}{m:Mach}{O:List ay}(bD:∀o∈O,o.upto O.length)(h0:O[2]?=some (.cells (aD u m)))(f:Fr)(hf:O[f.b9]?=some (.cells (aX f)))(hv:O[f.dR]?=some (.map (.int .i64) (f.vals.map il)))
  (hu:∀e∈f.vals,SV.bk O.length e.2) (ub:f.b9≠f.dR) (t:Term) (hk:t.kind=4):aY Tryz.prog 82 O [.mp 2 0,.mp f.b9 0,t.enc] (fun r O'=>r=.c5 []∧O'=O.set 2 (.cells (aD u (m.stop t.n 0)))):=by
 have gf:=ag hf;have P5:=ag hv;have fj:=ag h0;have eV:=hf;unfold aX at eV;have vo:(Option.map SV.enc (jy f.vals t.arg)).getD (.agg [aI 0,aI 0,.aC 4 [] .ex,.v (.pointer none)])=kz f.vals t.arg:=rfl;have yM:bu [ae.v (.int .i64 0),.v (.int .i64 0),.aC 4 [] .ex,.v (.pointer none)] 0 (kz f.vals t.arg).cells=(kz f.vals t.arg).cells:=kA (ga _ _) rfl;have ml:=gD f.vals t.arg;have yA:=(jO hu t.arg).aF;generalize jN f.vals t.arg=V at *;rw[SV.dN]at yA;rw[SV.al]at ml;have ku:=lf bD h0 t.n 0;have jF:=bo bD h0 (ds:=aD u (m.stop t.n 0)) (fun h=>ca h rfl);have nQ:=c9 (O:=O) (k:=2) (x:=.cells (aD u (m.stop t.n 0)));refine zf true O.length Tryz.func82 Tryz.ntmps82 ?_;dsimp only[Tmp,TypeId,ax];refine aB (av ?_);refine bg 5 ([aI t.kind,aI t.arg,aI t.n,ct t.cases,bx t.to]) [(0,.mp 2 0),(1,.mp f.b9 0),(5,.ip none [aI t.kind,aI t.arg,aI t.n,ct t.cases,bx t.to])] rfl (by rfl) (by omega) (by simp[cq,bL,Go.Av.look]) ?_ ?_ ?_
 ·exact bD
 ·simp[ae.upto,aq,gf,fj,aL,Edge.an]
 refine aH ?_;simp -dsimp only[simprocAttr,↓aa,zp,eV,hv,mL,vo,jW,ga,yM];refine⟨cN [f.b9,f.dR] O.length [.pure,.pure,.pure,.rd 0,.pure,.pure,.rd 1,.wr 2 [],.wr 3 [2]] (by simp[ub]) (by simp;omega) rfl rfl (by kernel_rfl),I ?_⟩;simp -dsimp only[ai,ne_eq,Nat.reduceEqDiff,reduceCtorEq];refine bg 6 [aI V.kind,aI V.n,.aC 4 (V.list.map SV.enc) .sh,eP V.arr] [(0,.mp 2 0),(1,.mp f.b9 0),(5,.ip none [aI t.kind,aI t.arg,aI t.n,ct t.cases,bx t.to]),(6,.ip none [aI V.kind,aI V.n,.aC 4 (V.list.map SV.enc) .sh,eP V.arr])] rfl ml (by omega) (by simp[cq,bL,Go.Av.look]) bD ?_ ?_
 ·simp only[aq,ae.upto,true_and,and_true]at yA;simp[ae.upto,aq,gf,fj,aL,Edge.an,yA]
 refine aB (av ?_);refine aj ?_;refine aB (av ?_);apply aQ rfl<;>intro h
 ·refine du ?_;refine .inr (.inl ⟨_,_,ku,.inl (ah (zj ?_))⟩)
  (refine I ?_;simp -dsimp only[ai,ne_eq,Nat.reduceEqDiff,reduceCtorEq])
  skip
  simp -dsimp only[simprocAttr,↓aa,zp,zr,Tryz.results82,nQ,List.length_set];exact⟨jF,trivial⟩
 exact af h (by omega)
theorem Hl{u:cW}{m:Mach}{O:List ay}(bD:∀o∈O,o.upto O.length)(h0:O[2]?=some (.cells (aD u m)))(f:Fr)(hf:O[f.b9]?=some (.cells (aX f)))(hv:O[f.dR]?=some (.map (.int .i64) (f.vals.map il)))
  (hu:∀e∈f.vals,SV.bk O.length e.2) (ub:f.b9≠f.dR) (t:Term) (hk:t.kind=1) (e:Edge) (he:t.to[0]?=some e) {O':List ay} (hC:aY Tryz.prog 101 O [.mp 2 0,.mp f.b9 0,e.enc] (fun r O1=>r=.c5 []∧O1=O')) (hlen:O.length=O'.length) (nZ:∀o∈O',o.upto O'.length):aY Tryz.prog 82 O [.mp 2 0,.mp f.b9 0,t.enc] (fun r O1=>r=.c5 []∧O1=O'):=by
 have gf:=ag hf;have P5:=ag hv;have fj:=ag h0;have eV:=hf;unfold aX at eV;have vo:(Option.map SV.enc (jy f.vals t.arg)).getD (.agg [aI 0,aI 0,.aC 4 [] .ex,.v (.pointer none)])=kz f.vals t.arg:=rfl;have yM:bu [ae.v (.int .i64 0),.v (.int .i64 0),.aC 4 [] .ex,.v (.pointer none)] 0 (kz f.vals t.arg).cells=(kz f.vals t.arg).cells:=kA (ga _ _) rfl;have ml:=gD f.vals t.arg;have yA:=(jO hu t.arg).aF;generalize jN f.vals t.arg=V at *;rw[SV.dN]at yA;rw[SV.al]at ml;refine zf true O.length Tryz.func82 Tryz.ntmps82 ?_;dsimp only[Tmp,TypeId,ax];refine aB (av ?_);refine bg 5 ([aI t.kind,aI t.arg,aI t.n,ct t.cases,bx t.to]) [(0,.mp 2 0),(1,.mp f.b9 0),(5,.ip none [aI t.kind,aI t.arg,aI t.n,ct t.cases,bx t.to])] rfl (by rfl) (by omega) (by simp[cq,bL,Go.Av.look]) ?_ ?_ ?_
 ·exact bD
 ·simp[ae.upto,aq,gf,fj,aL,Edge.an]
 refine aH ?_;simp -dsimp only[simprocAttr,↓aa,zp,eV,hv,mL,vo,jW,ga,yM];refine⟨cN [f.b9,f.dR] O.length [.pure,.pure,.pure,.rd 0,.pure,.pure,.rd 1,.wr 2 [],.wr 3 [2]] (by simp[ub]) (by simp;omega) rfl rfl (by kernel_rfl),I ?_⟩;simp -dsimp only[ai,ne_eq,Nat.reduceEqDiff,reduceCtorEq];refine bg 6 [aI V.kind,aI V.n,.aC 4 (V.list.map SV.enc) .sh,eP V.arr] [(0,.mp 2 0),(1,.mp f.b9 0),(5,.ip none [aI t.kind,aI t.arg,aI t.n,ct t.cases,bx t.to]),(6,.ip none [aI V.kind,aI V.n,.aC 4 (V.list.map SV.enc) .sh,eP V.arr])] rfl ml (by omega) (by simp[cq,bL,Go.Av.look]) bD ?_ ?_
 ·simp only[aq,ae.upto,true_and,and_true]at yA;simp[ae.upto,aq,gf,fj,aL,Edge.an,yA]
 refine aB (av ?_);refine aj ?_;refine aB (av ?_);apply aQ rfl<;>intro h
 ·exact ab h (by omega)
 refine aB (av ?_);apply aQ rfl<;>intro h
 ·refine fq ?_;simp -dsimp only[simprocAttr,↓aa,zp,he];refine .inr (.inl ⟨_,_,hC,.inl (ah (zj ?_))⟩)
  (refine I ?_;simp -dsimp only[ai,ne_eq,Nat.reduceEqDiff,reduceCtorEq])
  skip
  simp -dsimp only[simprocAttr,↓aa,zp,zr,Tryz.results82,hlen,List.take_length];exact⟨nZ,trivial⟩
 exact af h (by omega)
theorem DG{u:cW}{m:Mach}{O:List ay}(bD:∀o∈O,o.upto O.length)(h0:O[2]?=some (.cells (aD u m)))(f:Fr)(hf:O[f.b9]?=some (.cells (aX f)))(hv:O[f.dR]?=some (.map (.int .i64) (f.vals.map il)))
  (hu:∀e∈f.vals,SV.bk O.length e.2) (ub:f.b9≠f.dR) (t:Term) (hk:t.kind=0) {O':List ay} (hC:aY Tryz.prog 102 O [.mp 2 0,.mp f.b9 0,(jN f.vals t.arg).enc] (fun r O1=>r=.c5 []∧O1=O')) (hlen:O.length=O'.length) (nZ:∀o∈O',o.upto O'.length):aY Tryz.prog 82 O [.mp 2 0,.mp f.b9 0,t.enc] (fun r O1=>r=.c5 []∧O1=O'):=by
 have gf:=ag hf;have P5:=ag hv;have fj:=ag h0;have eV:=hf;unfold aX at eV;have vo:(Option.map SV.enc (jy f.vals t.arg)).getD (.agg [aI 0,aI 0,.aC 4 [] .ex,.v (.pointer none)])=kz f.vals t.arg:=rfl;have yM:bu [ae.v (.int .i64 0),.v (.int .i64 0),.aC 4 [] .ex,.v (.pointer none)] 0 (kz f.vals t.arg).cells=(kz f.vals t.arg).cells:=kA (ga _ _) rfl;have ml:=gD f.vals t.arg;have yA:=(jO hu t.arg).aF;generalize jN f.vals t.arg=V at *;rw[SV.dN]at yA;rw[SV.al]at ml;refine zf true O.length Tryz.func82 Tryz.ntmps82 ?_;dsimp only[Tmp,TypeId,ax];refine aB (av ?_);refine bg 5 ([aI t.kind,aI t.arg,aI t.n,ct t.cases,bx t.to]) [(0,.mp 2 0),(1,.mp f.b9 0),(5,.ip none [aI t.kind,aI t.arg,aI t.n,ct t.cases,bx t.to])] rfl (by rfl) (by omega) (by simp[cq,bL,Go.Av.look]) ?_ ?_ ?_
 ·exact bD
 ·simp[ae.upto,aq,gf,fj,aL,Edge.an]
 refine aH ?_;simp -dsimp only[simprocAttr,↓aa,zp,eV,hv,mL,vo,jW,ga,yM];refine⟨cN [f.b9,f.dR] O.length [.pure,.pure,.pure,.rd 0,.pure,.pure,.rd 1,.wr 2 [],.wr 3 [2]] (by simp[ub]) (by simp;omega) rfl rfl (by kernel_rfl),I ?_⟩;simp -dsimp only[ai,ne_eq,Nat.reduceEqDiff,reduceCtorEq];refine bg 6 [aI V.kind,aI V.n,.aC 4 (V.list.map SV.enc) .sh,eP V.arr] [(0,.mp 2 0),(1,.mp f.b9 0),(5,.ip none [aI t.kind,aI t.arg,aI t.n,ct t.cases,bx t.to]),(6,.ip none [aI V.kind,aI V.n,.aC 4 (V.list.map SV.enc) .sh,eP V.arr])] rfl ml (by omega) (by simp[cq,bL,Go.Av.look]) bD ?_ ?_
 ·simp only[aq,ae.upto,true_and,and_true]at yA;simp[ae.upto,aq,gf,fj,aL,Edge.an,yA]
 refine aB (av ?_);refine aj ?_;refine aB (av ?_);apply aQ rfl<;>intro h
 ·exact ab h (by omega)
 refine aB (av ?_);apply aQ rfl<;>intro h
 ·exact ab h (by omega)
 refine aB (av ?_);apply aQ rfl<;>intro h
 ·refine du ?_;refine .inr (.inl ⟨_,_,hC,.inl (ah (zj ?_))⟩)
  (refine I ?_;simp -dsimp only[ai,ne_eq,Nat.reduceEqDiff,reduceCtorEq])
  skip
  simp -dsimp only[simprocAttr,↓aa,zp,zr,Tryz.results82,hlen,List.take_length];exact⟨nZ,trivial⟩
 exact af h (by omega)
theorem Ho{u:cW}{m:Mach}{O:List ay}(bD:∀o∈O,o.upto O.length)(h0:O[2]?=some (.cells (aD u m)))(f:Fr)(hf:O[f.b9]?=some (.cells (aX f)))(hv:O[f.dR]?=some (.map (.int .i64) (f.vals.map il)))
  (hu:∀e∈f.vals,SV.bk O.length e.2) (ub:f.b9≠f.dR) (t:Term) (hk:t.kind≠0∧t.kind≠1∧t.kind≠4) (hV:(jN f.vals t.arg).kind≠0):aY Tryz.prog 82 O [.mp 2 0,.mp f.b9 0,t.enc] (fun r O'=>r=.c5 []∧O'=O.set 2 (.cells (aD u (m.stop 5 0)))):=by
 have gf:=ag hf;have P5:=ag hv;have fj:=ag h0;have eV:=hf;unfold aX at eV;have vo:(Option.map SV.enc (jy f.vals t.arg)).getD (.agg [aI 0,aI 0,.aC 4 [] .ex,.v (.pointer none)])=kz f.vals t.arg:=rfl;have yM:bu [ae.v (.int .i64 0),.v (.int .i64 0),.aC 4 [] .ex,.v (.pointer none)] 0 (kz f.vals t.arg).cells=(kz f.vals t.arg).cells:=kA (ga _ _) rfl;have ml:=gD f.vals t.arg;have yA:=(jO hu t.arg).aF;generalize jN f.vals t.arg=V at *;rw[SV.dN]at yA;rw[SV.al]at ml;have ku:=lf bD h0 5 0;have jF:=bo bD h0 (ds:=aD u (m.stop 5 0)) (fun h=>ca h rfl);have nQ:=c9 (O:=O) (k:=2) (x:=.cells (aD u (m.stop 5 0)));have hd:decide (V.kind=0)=false:=decide_eq_false hV;refine zf true O.length Tryz.func82 Tryz.ntmps82 ?_;dsimp only[Tmp,TypeId,ax];refine aB (av ?_);refine bg 5 ([aI t.kind,aI t.arg,aI t.n,ct t.cases,bx t.to]) [(0,.mp 2 0),(1,.mp f.b9 0),(5,.ip none [aI t.kind,aI t.arg,aI t.n,ct t.cases,bx t.to])] rfl (by rfl) (by omega) (by simp[cq,bL,Go.Av.look]) ?_ ?_ ?_
 ·exact bD
 ·simp[ae.upto,aq,gf,fj,aL,Edge.an]
 refine aH ?_;simp -dsimp only[simprocAttr,↓aa,zp,eV,hv,mL,vo,jW,ga,yM];refine⟨cN [f.b9,f.dR] O.length [.pure,.pure,.pure,.rd 0,.pure,.pure,.rd 1,.wr 2 [],.wr 3 [2]] (by simp[ub]) (by simp;omega) rfl rfl (by kernel_rfl),I ?_⟩;simp -dsimp only[ai,ne_eq,Nat.reduceEqDiff,reduceCtorEq];refine bg 6 [aI V.kind,aI V.n,.aC 4 (V.list.map SV.enc) .sh,eP V.arr] [(0,.mp 2 0),(1,.mp f.b9 0),(5,.ip none [aI t.kind,aI t.arg,aI t.n,ct t.cases,bx t.to]),(6,.ip none [aI V.kind,aI V.n,.aC 4 (V.list.map SV.enc) .sh,eP V.arr])] rfl ml (by omega) (by simp[cq,bL,Go.Av.look]) bD ?_ ?_
 ·simp only[aq,ae.upto,true_and,and_true]at yA;simp[ae.upto,aq,gf,fj,aL,Edge.an,yA]
 refine aB (av ?_);refine aj ?_;refine aB (av ?_);apply aQ rfl<;>intro h
 ·exact ab h (by omega)
 refine aB (av ?_);apply aQ rfl<;>intro h
 ·exact ab h (by omega)
 refine aB (av ?_);apply aQ rfl<;>intro h
 ·exact ab h (by omega)
 refine cg ?_;simp -dsimp only[simprocAttr,↓aa,zp,hd];refine av ?_;refine de rfl ?_;refine aB ?_;refine .inr (.inl ⟨_,_,ku,.inl (ah (zj ?_))⟩);refine av ?_;refine ak ?_;simp -dsimp only[simprocAttr,↓aa,zp,zr,Tryz.results82,nQ,List.length_set];exact⟨jF,trivial⟩
theorem Cm{u:cW}{m:Mach}{O:List ay}(bD:∀o∈O,o.upto O.length)(h0:O[2]?=some (.cells (aD u m)))(f:Fr)(hf:O[f.b9]?=some (.cells (aX f)))(hv:O[f.dR]?=some (.map (.int .i64) (f.vals.map il)))
  (hu:∀e∈f.vals,SV.bk O.length e.2) (ub:f.b9≠f.dR) (t:Term) (hk:t.kind≠0∧t.kind≠1∧t.kind≠4) (hV:(jN f.vals t.arg).kind=0) (lB:t.cases.length<=2 ^ 60) (e:Edge) (he:t.to[jo t (jN f.vals t.arg).n]?=some e) {O':List ay} (hC:aY Tryz.prog 101 O [.mp 2 0,.mp f.b9 0,e.enc] (fun r O1=>r=.c5 []∧O1=O')) (hlen:O.length=O'.length) (nZ:∀o∈O',o.upto O'.length):aY Tryz.prog 82 O [.mp 2 0,.mp f.b9 0,t.enc] (fun r O1=>r=.c5 []∧O1=O'):=by
 have gf:=ag hf;have P5:=ag hv;have fj:=ag h0;have eV:=hf;unfold aX at eV;have vo:(Option.map SV.enc (jy f.vals t.arg)).getD (.agg [aI 0,aI 0,.aC 4 [] .ex,.v (.pointer none)])=kz f.vals t.arg:=rfl;have yM:bu [ae.v (.int .i64 0),.v (.int .i64 0),.aC 4 [] .ex,.v (.pointer none)] 0 (kz f.vals t.arg).cells=(kz f.vals t.arg).cells:=kA (ga _ _) rfl;have ml:=gD f.vals t.arg;have yA:=(jO hu t.arg).aF;generalize jN f.vals t.arg=V at *;rw[SV.dN]at yA;rw[SV.al]at ml;have sb:=z9 t V.n lB;generalize jo t V.n=q at *;have hd:decide (V.kind=0)=true:=decide_eq_true hV;refine zf true O.length Tryz.func82 Tryz.ntmps82 ?_;dsimp only[Tmp,TypeId,ax];refine aB (av ?_);refine bg 5 ([aI t.kind,aI t.arg,aI t.n,ct t.cases,bx t.to]) [(0,.mp 2 0),(1,.mp f.b9 0),(5,.ip none [aI t.kind,aI t.arg,aI t.n,ct t.cases,bx t.to])] rfl (by rfl) (by omega) (by simp[cq,bL,Go.Av.look]) ?_ ?_ ?_
 ·exact bD
 ·simp[ae.upto,aq,gf,fj,aL,Edge.an]
 refine aH ?_;simp -dsimp only[simprocAttr,↓aa,zp,eV,hv,mL,vo,jW,ga,yM];refine⟨cN [f.b9,f.dR] O.length [.pure,.pure,.pure,.rd 0,.pure,.pure,.rd 1,.wr 2 [],.wr 3 [2]] (by simp[ub]) (by simp;omega) rfl rfl (by kernel_rfl),I ?_⟩;simp -dsimp only[ai,ne_eq,Nat.reduceEqDiff,reduceCtorEq];refine bg 6 [aI V.kind,aI V.n,.aC 4 (V.list.map SV.enc) .sh,eP V.arr] [(0,.mp 2 0),(1,.mp f.b9 0),(5,.ip none [aI t.kind,aI t.arg,aI t.n,ct t.cases,bx t.to]),(6,.ip none [aI V.kind,aI V.n,.aC 4 (V.list.map SV.enc) .sh,eP V.arr])] rfl ml (by omega) (by simp[cq,bL,Go.Av.look]) bD ?_ ?_
 ·simp only[aq,ae.upto,true_and,and_true]at yA;simp[ae.upto,aq,gf,fj,aL,Edge.an,yA]
 refine aB (av ?_);refine aj ?_;refine aB (av ?_);apply aQ rfl<;>intro h
 ·exact ab h (by omega)
 refine aB (av ?_);apply aQ rfl<;>intro h
 ·exact ab h (by omega)
 refine aB (av ?_);apply aQ rfl<;>intro h
 ·exact ab h (by omega)
 refine cg ?_;simp -dsimp only[simprocAttr,↓aa,zp,hd];refine av ?_;refine cB rfl ?_;refine eH ?_;refine du ?_;refine .inl ⟨_,sb,by simp only[aq,ae.upto,zt,zu,aL],ah ?_⟩;simp -dsimp only[simprocAttr,↓aa,zp,he];refine .inr (.inl ⟨_,_,hC,.inl (ah (zj ?_))⟩);refine⟨ob (by kernel_rfl),?_⟩
 (refine I ?_;simp -dsimp only[ai,ne_eq,Nat.reduceEqDiff,reduceCtorEq])
 skip
 simp -dsimp only[simprocAttr,↓aa,zp,zr,Tryz.results82,hlen,List.take_length];exact⟨nZ,trivial⟩
theorem qc(B:Block):ae.agg [ct B.params,dA B.ins,aI B.term.kind,aI B.term.arg,aI B.term.n,ct B.term.cases,bx B.term.to]=B.enc:=rfl
theorem step_end{u:cW}{m:Mach}{O:List ay}(bD:∀o∈O,o.upto O.length)(h0:O[2]?=some (.cells (aD u m)))(f:Fr)(r:List Fr)(cx:m.frames=f::r)(hf:O[f.b9]?=some (.cells (aX f)))(sr:f.b9≠2)
  {cs:List ae} (eo:O[m.sid]?=some (.cells cs)) (iq:cs[r.length]?=some (.mp f.b9 0)) (wU:r.length<=2 ^ 40) (F:Func) (hF:u.fns[f.fn.toNat]?=some F) (rA:0<=f.fn) (B:Block) (hB:F.blocks[f.blk.toNat]?=some B) (zF:0<=f.blk) (lu:f.pos=B.ins.length) {O':List ay} (hC:aY Tryz.prog 82 O [.mp 2 0,.mp f.b9 0,B.term.enc] (fun r O1=>r=.c5 []∧O1=O')) (hlen:O.length<=O'.length) (nZ:∀o∈O',o.upto O'.length) :
  aY Tryz.prog 50 O [.mp 2 0] (fun r O1=>r=.c5 []∧O1=O'):=by
 have gf:=ag hf;have fj:=ag h0;have eV:=hf;unfold aX at eV;have lr:O[2]?=some (.cells [cc u.fns,aI u.main,.os m.sid (r.length+1) 1,aI m.left,.v (.bool m.short),.v (.bool m.over),.aC 1 (m.out.map aI) (.tok 3),aI m.fin,aI m.val]):=by
  rw[h0];unfold aD;rw[cx];rfl
 have yK:((r.length+1:Nat):Int)-1=(r.length:Nat):=by omega
 refine js hT true (O'.length) Tryz.func50 rfl (by kernel_rfl) (by simp[Tryz.ntmps50]) (by assumption) ?_;show cy Tryz.prog _ _ _ ⟨137,_,_⟩;dsimp only[Tmp,TypeId,ax];refine aH ?_;simp -dsimp only[simprocAttr,↓aa,zp,lr,yK,Nat.mul_one,eo,iq]
 repeat(refine⟨by omega,?_⟩)
 refine⟨ob (by kernel_rfl),?_⟩;refine av ?_;refine aH ?_;simp -dsimp only[simprocAttr,↓aa,zp,lr,eV,hF,hB,qc]
 repeat(refine⟨by omega,?_⟩)
 refine⟨cN [2,f.b9] O.length [.pure,.pure,.pure,.pure,.rd 0,.pure,.pure,.pure,.rd 1,.pure,.pure,.pure,.pure,.pure,.pure,.rd 1,.pure,.pure,.wr 2 [],.wr 3 [2]] (by simp;omega) (by simp;omega) rfl rfl (by kernel_rfl),I ?_⟩;simp -dsimp only[ai,ne_eq,Nat.reduceEqDiff,reduceCtorEq];refine bg 3 ([ct B.params,dA B.ins,aI B.term.kind,aI B.term.arg,aI B.term.n,ct B.term.cases,bx B.term.to]) [(0,.mp 2 0),(2,.mp f.b9 0),(3,.ip none [ct B.params,dA B.ins,aI B.term.kind,aI B.term.arg,aI B.term.n,ct B.term.cases,bx B.term.to])] rfl (by rfl) (by omega) (by simp[cq,bL,Go.Av.look]) ?_ ?_ ?_
 ·exact bD
 ·simp[ae.upto,aq,gf,fj,aL,Edge.an,db.an]
 refine cg ?_;simp -dsimp only[simprocAttr,↓aa,zp,eV];refine⟨ob (by kernel_rfl),?_⟩;refine av ?_;apply aQ rfl<;>intro h
 ·refine aB ?_;refine .inr (.inl ⟨_,_,hC,.inl (ah (zj ?_))⟩);refine av ?_;refine ak ?_;simp -dsimp only[simprocAttr,↓aa,zp,zr,Tryz.results50,List.take_length];exact⟨nZ,trivial⟩
 exact af h (by omega)
theorem Gk{u:cW}{m:Mach}{O:List ay}(bD:∀o∈O,o.upto O.length)(h0:O[2]?=some (.cells (aD u m)))(f:Fr)(r:List Fr)(cx:m.frames=f::r)(hf:O[f.b9]?=some (.cells (aX f)))(sr:f.b9≠2)
  {cs:List ae} (eo:O[m.sid]?=some (.cells cs)) (iq:cs[r.length]?=some (.mp f.b9 0)) (wU:r.length<=2 ^ 40) (F:Func) (hF:u.fns[f.fn.toNat]?=some F) (rA:0<=f.fn) (B:Block) (hB:F.blocks[f.blk.toNat]?=some B) (zF:0<=f.blk) (hv:O[f.dR]?=some (.map (.int .i64) (f.vals.map il))) (ub:f.b9≠f.dR) (hu:∀e∈f.vals,SV.bk O.length e.2) (i:db) (hi:B.ins[f.pos]?=some i) (oM:f.pos<=2 ^ 41) (mT:i.args.length<=4096) (f':Fr) (fA:f' = { f with pos:=f.pos+1 }) (args:List SV) (dt:args=gR f.vals i.args) (O1:List ay) (ff:O1=O.set f.b9 (.cells (aX f'))) (kq:i.op=13) {O':List ay} (hC:aY Tryz.prog 48 O1 [.mp 2 0,aI i.n,.aC 4 (args.map SV.enc) .sh,aI i.to] (fun r O2=>r=.c5 []∧O2=O')) (hlen:O.length<=O'.length) (nZ:∀o∈O',o.upto O'.length) :
  aY Tryz.prog 50 O [.mp 2 0] (fun r O1=>r=.c5 []∧O1=O'):=by
 have gf:=ag hf;have fj:=ag h0;have eV:=hf;unfold aX at eV;have lr:O[2]?=some (.cells [cc u.fns,aI u.main,.os m.sid (r.length+1) 1,aI m.left,.v (.bool m.short),.v (.bool m.over),.aC 1 (m.out.map aI) (.tok 3),aI m.fin,aI m.val]):=by
  rw[h0];unfold aD;rw[cx];rfl
 have yK:((r.length+1:Nat):Int)-1=(r.length:Nat):=by omega
 have HP:=ag hi;have hs:=dK hf;have eZ:O.length=O1.length:=by rw[ff];simp
 have nh:[aI f.fn,aI f.blk,aI ((f.pos:Int)+1),aI f.to,.mm f.dR]=aX f':=by
  rw[fA];simp[aX]
 have ni:O1[f'.b9]?=some (.cells (aX f')):=by rw[ff,fA];exact hs _
 have wW:O1[f'.dR]?=some (.map (.int .i64) (f'.vals.map il)):=by rw[ff,fA];exact cb hv ub
 have fo:∀o∈O1,o.upto O1.length:=by
  rw[<-eZ,ff];refine bo bD hf fun h=>?_;simp only[aX,aq,ae.upto,true_and,and_true]at h ⊢;rw[fA];exact h
 have iw:=j0 fo ni wW (by rw[fA,<-eZ];exact hu) i.args mT;have ko:f'.b9=f.b9:=by rw[fA]
 have oO:f'.vals=f.vals:=by rw[fA]
 rw[ko,oO,<-dt]at iw;rw[ko]at ni;refine js hT true (O'.length) Tryz.func50 rfl (by kernel_rfl) (by simp[Tryz.ntmps50]) (by assumption) ?_;show cy Tryz.prog _ _ _ ⟨137,_,_⟩;dsimp only[Tmp,TypeId,ax];refine aH ?_;simp -dsimp only[simprocAttr,↓aa,zp,lr,yK,Nat.mul_one,eo,iq]
 repeat(refine⟨by omega,?_⟩)
 refine⟨ob (by kernel_rfl),?_⟩;refine av ?_;refine aH ?_;simp -dsimp only[simprocAttr,↓aa,zp,lr,eV,hF,hB,qc]
 repeat(refine⟨by omega,?_⟩)
 refine⟨cN [2,f.b9] O.length [.pure,.pure,.pure,.pure,.rd 0,.pure,.pure,.pure,.rd 1,.pure,.pure,.pure,.pure,.pure,.pure,.rd 1,.pure,.pure,.wr 2 [],.wr 3 [2]] (by simp;omega) (by simp;omega) rfl rfl (by kernel_rfl),I ?_⟩;simp -dsimp only[ai,ne_eq,Nat.reduceEqDiff,reduceCtorEq];refine bg 3 ([ct B.params,dA B.ins,aI B.term.kind,aI B.term.arg,aI B.term.n,ct B.term.cases,bx B.term.to]) [(0,.mp 2 0),(2,.mp f.b9 0),(3,.ip none [ct B.params,dA B.ins,aI B.term.kind,aI B.term.arg,aI B.term.n,ct B.term.cases,bx B.term.to])] rfl (by rfl) (by omega) (by simp[cq,bL,Go.Av.look]) ?_ ?_ ?_
 ·exact bD
 ·simp[ae.upto,aq,gf,fj,aL,Edge.an,db.an]
 refine cg ?_;simp -dsimp only[simprocAttr,↓aa,zp,eV];refine⟨ob (by kernel_rfl),?_⟩;refine av ?_;apply aQ rfl<;>intro h
 ·exact ab h (by omega)
 refine eH ?_;refine aH ?_;simp -dsimp only[simprocAttr,↓aa,zp,eV,hi,Int.toNat_natCast]
 repeat(refine⟨by omega,?_⟩)
 refine⟨cN [f.b9] O.length [.pure,.pure,.pure,.pure,.pure,.rd 0,.pure,.pure,.wr 1 [],.wr 2 [1]] (by simp) (by simp;omega) rfl rfl (by kernel_rfl),I ?_⟩;simp -dsimp only[ai,ne_eq,Nat.reduceEqDiff,reduceCtorEq];refine bg 4 ([aI i.to,aI i.op,aI i.n,ct i.args]) [(0,.mp 2 0),(2,.mp f.b9 0),(4,.ip none [aI i.to,aI i.op,aI i.n,ct i.args])] rfl (by rfl) (by omega) (by simp[cq,bL,Go.Av.look]) ?_ ?_ ?_
 ·exact bD
 ·simp[ae.upto,aq,gf,fj,aL]
 refine aH ?_;simp -dsimp only[simprocAttr,↓aa,zp,eV,hs,nh,<-ff]
 repeat(refine⟨by omega,?_⟩)
 refine av ?_;refine aB ?_;refine .inr (.inr ⟨_,iw,ah (zj ?_)⟩);refine av ?_;refine aB (av ?_);refine aj ?_;refine aB (av ?_);apply aQ rfl<;>intro h
 ·refine du ?_;refine .inr (.inl ⟨_,_,hC,.inl (ah (zj ?_))⟩)
  (refine I ?_;simp -dsimp only[ai,ne_eq,Nat.reduceEqDiff,reduceCtorEq])
  skip
  simp -dsimp only[simprocAttr,↓aa,zp,zr,Tryz.results50,List.take_length];exact⟨nZ,trivial⟩
 exact af h (by omega)
theorem IL{u:cW}{m:Mach}{O:List ay}(bD:∀o∈O,o.upto O.length)(h0:O[2]?=some (.cells (aD u m)))(f:Fr)(r:List Fr)(cx:m.frames=f::r)(hf:O[f.b9]?=some (.cells (aX f)))(sr:f.b9≠2)
  {cs:List ae} (eo:O[m.sid]?=some (.cells cs)) (iq:cs[r.length]?=some (.mp f.b9 0)) (wU:r.length<=2 ^ 40) (F:Func) (hF:u.fns[f.fn.toNat]?=some F) (rA:0<=f.fn) (B:Block) (hB:F.blocks[f.blk.toNat]?=some B) (zF:0<=f.blk) (hv:O[f.dR]?=some (.map (.int .i64) (f.vals.map il))) (ub:f.b9≠f.dR) (hu:∀e∈f.vals,SV.bk O.length e.2) (i:db) (hi:B.ins[f.pos]?=some i) (oM:f.pos<=2 ^ 41) (mT:i.args.length<=4096) (f':Fr) (fA:f' = { f with pos:=f.pos+1 }) (args:List SV) (dt:args=gR f.vals i.args) (O1:List ay) (ff:O1=O.set f.b9 (.cells (aX f'))) (kq:i.op=14) (c:SV) (GC:args[0]?=some c) (hk:c.kind=2) (On:0<=c.n) (G:Func) (hG:u.fns[c.n.toNat]?=some G) (D:Block) (hD:G.blocks[0]?=some D) (zK:D.params.length=args.length) (OG:∀v∈args,SV.bk O1.length v) {O':List ay} (hC:aY Tryz.prog 48 O1 [.mp 2 0,aI c.n,.aC 4 (args.map SV.enc) .sh,aI i.to] (fun r O2=>r=.c5 []∧O2=O')) (hlen:O.length<=O'.length) (nZ:∀o∈O',o.upto O'.length) (nk:O1[2]?=some (.cells (aD u m))) :
  aY Tryz.prog 50 O [.mp 2 0] (fun r O1=>r=.c5 []∧O1=O'):=by
 have gf:=ag hf;have fj:=ag h0;have eV:=hf;unfold aX at eV;have lr:O[2]?=some (.cells [cc u.fns,aI u.main,.os m.sid (r.length+1) 1,aI m.left,.v (.bool m.short),.v (.bool m.over),.aC 1 (m.out.map aI) (.tok 3),aI m.fin,aI m.val]):=by
  rw[h0];unfold aD;rw[cx];rfl
 have yK:((r.length+1:Nat):Int)-1=(r.length:Nat):=by omega
 have HP:=ag hi;have hs:=dK hf;have eZ:O.length=O1.length:=by rw[ff];simp
 have nh:[aI f.fn,aI f.blk,aI ((f.pos:Int)+1),aI f.to,.mm f.dR]=aX f':=by
  rw[fA];simp[aX]
 have ni:O1[f'.b9]?=some (.cells (aX f')):=by rw[ff,fA];exact hs _
 have wW:O1[f'.dR]?=some (.map (.int .i64) (f'.vals.map il)):=by rw[ff,fA];exact cb hv ub
 have fo:∀o∈O1,o.upto O1.length:=by
  rw[<-eZ,ff];refine bo bD hf fun h=>?_;simp only[aX,aq,ae.upto,true_and,and_true]at h ⊢;rw[fA];exact h
 have iw:=j0 fo ni wW (by rw[fA,<-eZ];exact hu) i.args mT;have ko:f'.b9=f.b9:=by rw[fA]
 have oO:f'.vals=f.vals:=by rw[fA]
 rw[ko,oO,<-dt]at iw;rw[ko]at ni;unfold aD at nk;have hd:decide (c.kind=2)=true:=decide_eq_true hk;have n6:decide ((D.params.length:Int)=args.length)=true:=decide_eq_true (by omega);refine js hT true (O'.length) Tryz.func50 rfl (by kernel_rfl) (by simp[Tryz.ntmps50]) (by assumption) ?_;show cy Tryz.prog _ _ _ ⟨137,_,_⟩;dsimp only[Tmp,TypeId,ax];refine aH ?_;simp -dsimp only[simprocAttr,↓aa,zp,lr,yK,Nat.mul_one,eo,iq]
 repeat(refine⟨by omega,?_⟩)
 refine⟨ob (by kernel_rfl),?_⟩;refine av ?_;refine aH ?_;simp -dsimp only[simprocAttr,↓aa,zp,lr,eV,hF,hB,qc]
 repeat(refine⟨by omega,?_⟩)
 refine⟨cN [2,f.b9] O.length [.pure,.pure,.pure,.pure,.rd 0,.pure,.pure,.pure,.rd 1,.pure,.pure,.pure,.pure,.pure,.pure,.rd 1,.pure,.pure,.wr 2 [],.wr 3 [2]] (by simp;omega) (by simp;omega) rfl rfl (by kernel_rfl),I ?_⟩;simp -dsimp only[ai,ne_eq,Nat.reduceEqDiff,reduceCtorEq];refine bg 3 ([ct B.params,dA B.ins,aI B.term.kind,aI B.term.arg,aI B.term.n,ct B.term.cases,bx B.term.to]) [(0,.mp 2 0),(2,.mp f.b9 0),(3,.ip none [ct B.params,dA B.ins,aI B.term.kind,aI B.term.arg,aI B.term.n,ct B.term.cases,bx B.term.to])] rfl (by rfl) (by omega) (by simp[cq,bL,Go.Av.look]) ?_ ?_ ?_
 ·exact bD
 ·simp[ae.upto,aq,gf,fj,aL,Edge.an,db.an]
 refine cg ?_;simp -dsimp only[simprocAttr,↓aa,zp,eV];refine⟨ob (by kernel_rfl),?_⟩;refine av ?_;apply aQ rfl<;>intro h
 ·exact ab h (by omega)
 refine eH ?_;refine aH ?_;simp -dsimp only[simprocAttr,↓aa,zp,eV,hi,Int.toNat_natCast]
 repeat(refine⟨by omega,?_⟩)
 refine⟨cN [f.b9] O.length [.pure,.pure,.pure,.pure,.pure,.rd 0,.pure,.pure,.wr 1 [],.wr 2 [1]] (by simp) (by simp;omega) rfl rfl (by kernel_rfl),I ?_⟩;simp -dsimp only[ai,ne_eq,Nat.reduceEqDiff,reduceCtorEq];refine bg 4 ([aI i.to,aI i.op,aI i.n,ct i.args]) [(0,.mp 2 0),(2,.mp f.b9 0),(4,.ip none [aI i.to,aI i.op,aI i.n,ct i.args])] rfl (by rfl) (by omega) (by simp[cq,bL,Go.Av.look]) ?_ ?_ ?_
 ·exact bD
 ·simp[ae.upto,aq,gf,fj,aL]
 refine aH ?_;simp -dsimp only[simprocAttr,↓aa,zp,eV,hs,nh,<-ff]
 repeat(refine⟨by omega,?_⟩)
 refine av ?_;refine aB ?_;refine .inr (.inr ⟨_,iw,ah (zj ?_)⟩);refine av ?_;refine aB (av ?_);refine aj ?_;refine aB (av ?_);apply aQ rfl<;>intro h
 ·exact ab h (by omega)
 refine aB (av ?_);apply aQ rfl<;>intro h
 ·refine aH ?_;simp -dsimp only[simprocAttr,↓aa,zp,GC];refine av ?_;refine bg 6 [aI c.kind,aI c.n,.aC 4 (c.list.map SV.enc) .sh,eP c.arr] [(0,.mp 2 0),(2,.mp f.b9 0),(4,.ip none [aI i.to,aI i.op,aI i.n,ct i.args]),(5,.aC 4 (args.map SV.enc) .sh),(6,.ip none [aI c.kind,aI c.n,.aC 4 (c.list.map SV.enc) .sh,eP c.arr])] rfl (by simp only[List.map_cons,List.map_nil,c4,cw,cC]) (by omega) (by simp[cq,bL,Go.Av.look]) fo ?_ ?_
  ·have wQ:=(OG c (List.mem_of_getElem? GC)).aF;rw[SV.dN]at wQ;simp only[aq,ae.upto,true_and,and_true]at wQ;have Oz:=SV.an OG;simp[ae.upto,aq,<-eZ,gf,fj,aL,wQ,Oz];simp[eZ,wQ,Oz]
  refine aH ?_;simp -dsimp only[simprocAttr,↓aa,zp,hd,nk,hG,hD,n6]
  repeat(refine⟨by omega,?_⟩)
  refine⟨ob (by kernel_rfl),?_⟩;refine av ?_;refine de rfl ?_;refine du ?_;refine .inr (.inl ⟨_,_,hC,.inl (ah (zj ?_))⟩)
  (refine I ?_;simp -dsimp only[ai,ne_eq,Nat.reduceEqDiff,reduceCtorEq])
  skip
  simp -dsimp only[simprocAttr,↓aa,zp,zr,Tryz.results50,List.take_length];exact⟨nZ,trivial⟩
 exact af h (by omega)
theorem xc{u:cW}{m:Mach}{O:List ay}(bD:∀o∈O,o.upto O.length)(h0:O[2]?=some (.cells (aD u m)))(f:Fr)(r:List Fr)(cx:m.frames=f::r)(hf:O[f.b9]?=some (.cells (aX f)))(sr:f.b9≠2)
  {cs:List ae} (eo:O[m.sid]?=some (.cells cs)) (iq:cs[r.length]?=some (.mp f.b9 0)) (wU:r.length<=2 ^ 40) (F:Func) (hF:u.fns[f.fn.toNat]?=some F) (rA:0<=f.fn) (B:Block) (hB:F.blocks[f.blk.toNat]?=some B) (zF:0<=f.blk) (hv:O[f.dR]?=some (.map (.int .i64) (f.vals.map il))) (ub:f.b9≠f.dR) (hu:∀e∈f.vals,SV.bk O.length e.2) (i:db) (hi:B.ins[f.pos]?=some i) (oM:f.pos<=2 ^ 41) (mT:i.args.length<=4096) (f':Fr) (fA:f' = { f with pos:=f.pos+1 }) (args:List SV) (dt:args=gR f.vals i.args) (O1:List ay) (ff:O1=O.set f.b9 (.cells (aX f'))) (kq:i.op=14) (c:SV) (GC:args[0]?=some c) (hk:c.kind≠2) (OG:∀v∈args,SV.bk O1.length v) (nk:O1[2]?=some (.cells (aD u m))) :
  aY Tryz.prog 50 O [.mp 2 0] (fun r O2=>r=.c5 []∧O2=O1.set 2 (.cells (aD u (m.stop 5 0)))):=by
 have gf:=ag hf;have fj:=ag h0;have eV:=hf;unfold aX at eV;have lr:O[2]?=some (.cells [cc u.fns,aI u.main,.os m.sid (r.length+1) 1,aI m.left,.v (.bool m.short),.v (.bool m.over),.aC 1 (m.out.map aI) (.tok 3),aI m.fin,aI m.val]):=by
  rw[h0];unfold aD;rw[cx];rfl
 have yK:((r.length+1:Nat):Int)-1=(r.length:Nat):=by omega
 have HP:=ag hi;have hs:=dK hf;have eZ:O.length=O1.length:=by rw[ff];simp
 have nh:[aI f.fn,aI f.blk,aI ((f.pos:Int)+1),aI f.to,.mm f.dR]=aX f':=by
  rw[fA];simp[aX]
 have ni:O1[f'.b9]?=some (.cells (aX f')):=by rw[ff,fA];exact hs _
 have wW:O1[f'.dR]?=some (.map (.int .i64) (f'.vals.map il)):=by rw[ff,fA];exact cb hv ub
 have fo:∀o∈O1,o.upto O1.length:=by
  rw[<-eZ,ff];refine bo bD hf fun h=>?_;simp only[aX,aq,ae.upto,true_and,and_true]at h ⊢;rw[fA];exact h
 have iw:=j0 fo ni wW (by rw[fA,<-eZ];exact hu) i.args mT;have ko:f'.b9=f.b9:=by rw[fA]
 have oO:f'.vals=f.vals:=by rw[fA]
 rw[ko,oO,<-dt]at iw;rw[ko]at ni;have gg:O.length<=O.length:=Nat.le_refl _;have ku:=lf fo nk 5 0;have jF:=bo fo nk (ds:=aD u (m.stop 5 0)) (fun h=>ca h rfl);have nQ:=c9 (O:=O1) (k:=2) (x:=.cells (aD u (m.stop 5 0)));unfold aD at nk;have hd:decide (c.kind=2)=false:=decide_eq_false hk;refine js hT true (O.length) Tryz.func50 rfl (by kernel_rfl) (by simp[Tryz.ntmps50]) (by assumption) ?_;show cy Tryz.prog _ _ _ ⟨137,_,_⟩;dsimp only[Tmp,TypeId,ax];refine aH ?_;simp -dsimp only[simprocAttr,↓aa,zp,lr,yK,Nat.mul_one,eo,iq]
 repeat(refine⟨by omega,?_⟩)
 refine⟨ob (by kernel_rfl),?_⟩;refine av ?_;refine aH ?_;simp -dsimp only[simprocAttr,↓aa,zp,lr,eV,hF,hB,qc]
 repeat(refine⟨by omega,?_⟩)
 refine⟨cN [2,f.b9] O.length [.pure,.pure,.pure,.pure,.rd 0,.pure,.pure,.pure,.rd 1,.pure,.pure,.pure,.pure,.pure,.pure,.rd 1,.pure,.pure,.wr 2 [],.wr 3 [2]] (by simp;omega) (by simp;omega) rfl rfl (by kernel_rfl),I ?_⟩;simp -dsimp only[ai,ne_eq,Nat.reduceEqDiff,reduceCtorEq];refine bg 3 ([ct B.params,dA B.ins,aI B.term.kind,aI B.term.arg,aI B.term.n,ct B.term.cases,bx B.term.to]) [(0,.mp 2 0),(2,.mp f.b9 0),(3,.ip none [ct B.params,dA B.ins,aI B.term.kind,aI B.term.arg,aI B.term.n,ct B.term.cases,bx B.term.to])] rfl (by rfl) (by omega) (by simp[cq,bL,Go.Av.look]) ?_ ?_ ?_
 ·exact bD
 ·simp[ae.upto,aq,gf,fj,aL,Edge.an,db.an]
 refine cg ?_;simp -dsimp only[simprocAttr,↓aa,zp,eV];refine⟨ob (by kernel_rfl),?_⟩;refine av ?_;apply aQ rfl<;>intro h
 ·exact ab h (by omega)
 refine eH ?_;refine aH ?_;simp -dsimp only[simprocAttr,↓aa,zp,eV,hi,Int.toNat_natCast]
 repeat(refine⟨by omega,?_⟩)
 refine⟨cN [f.b9] O.length [.pure,.pure,.pure,.pure,.pure,.rd 0,.pure,.pure,.wr 1 [],.wr 2 [1]] (by simp) (by simp;omega) rfl rfl (by kernel_rfl),I ?_⟩;simp -dsimp only[ai,ne_eq,Nat.reduceEqDiff,reduceCtorEq];refine bg 4 ([aI i.to,aI i.op,aI i.n,ct i.args]) [(0,.mp 2 0),(2,.mp f.b9 0),(4,.ip none [aI i.to,aI i.op,aI i.n,ct i.args])] rfl (by rfl) (by omega) (by simp[cq,bL,Go.Av.look]) ?_ ?_ ?_
 ·exact bD
 ·simp[ae.upto,aq,gf,fj,aL]
 refine aH ?_;simp -dsimp only[simprocAttr,↓aa,zp,eV,hs,nh,<-ff]
 repeat(refine⟨by omega,?_⟩)
 refine av ?_;refine aB ?_;refine .inr (.inr ⟨_,iw,ah (zj ?_)⟩);refine av ?_;refine aB (av ?_);refine aj ?_;refine aB (av ?_);apply aQ rfl<;>intro h
 ·exact ab h (by omega)
 refine aB (av ?_);apply aQ rfl<;>intro h
 ·refine aH ?_;simp -dsimp only[simprocAttr,↓aa,zp,GC];refine av ?_;refine bg 6 [aI c.kind,aI c.n,.aC 4 (c.list.map SV.enc) .sh,eP c.arr] [(0,.mp 2 0),(2,.mp f.b9 0),(4,.ip none [aI i.to,aI i.op,aI i.n,ct i.args]),(5,.aC 4 (args.map SV.enc) .sh),(6,.ip none [aI c.kind,aI c.n,.aC 4 (c.list.map SV.enc) .sh,eP c.arr])] rfl (by simp only[List.map_cons,List.map_nil,c4,cw,cC]) (by omega) (by simp[cq,bL,Go.Av.look]) fo ?_ ?_
  ·have wQ:=(OG c (List.mem_of_getElem? GC)).aF;rw[SV.dN]at wQ;simp only[aq,ae.upto,true_and,and_true]at wQ;have Oz:=SV.an OG;simp[ae.upto,aq,<-eZ,gf,fj,aL,wQ,Oz];simp[eZ,wQ,Oz]
  refine aH ?_;simp -dsimp only[simprocAttr,↓aa,zp,hd]
  repeat(refine⟨by omega,?_⟩)
  refine⟨ob (by kernel_rfl),?_⟩;refine av ?_;refine cB rfl ?_;refine du ?_;refine .inr (.inl ⟨_,_,ku,.inl (ah ?_)⟩);simp -dsimp only[simprocAttr,↓aa,zp,eZ]
  (refine I ?_;simp -dsimp only[ai,ne_eq,Nat.reduceEqDiff,reduceCtorEq])
  skip
  simp -dsimp only[simprocAttr,↓aa,zp,zr,Tryz.results50,nQ,List.length_set,eZ];exact⟨jF,trivial⟩
 exact af h (by omega)
theorem zo{u:cW}{m:Mach}{O:List ay}(bD:∀o∈O,o.upto O.length)(h0:O[2]?=some (.cells (aD u m)))(f:Fr)(r:List Fr)(cx:m.frames=f::r)(hf:O[f.b9]?=some (.cells (aX f)))(sr:f.b9≠2)
  {cs:List ae} (eo:O[m.sid]?=some (.cells cs)) (iq:cs[r.length]?=some (.mp f.b9 0)) (wU:r.length<=2 ^ 40) (F:Func) (hF:u.fns[f.fn.toNat]?=some F) (rA:0<=f.fn) (B:Block) (hB:F.blocks[f.blk.toNat]?=some B) (zF:0<=f.blk) (hv:O[f.dR]?=some (.map (.int .i64) (f.vals.map il))) (ub:f.b9≠f.dR) (hu:∀e∈f.vals,SV.bk O.length e.2) (i:db) (hi:B.ins[f.pos]?=some i) (oM:f.pos<=2 ^ 41) (mT:i.args.length<=4096) (f':Fr) (fA:f' = { f with pos:=f.pos+1 }) (args:List SV) (dt:args=gR f.vals i.args) (O1:List ay) (ff:O1=O.set f.b9 (.cells (aX f'))) (kq:i.op=14) (c:SV) (GC:args[0]?=some c) (hk:c.kind=2) (On:0<=c.n) (G:Func) (hG:u.fns[c.n.toNat]?=some G) (D:Block) (hD:G.blocks[0]?=some D) (zK:D.params.length≠args.length) (OG:∀v∈args,SV.bk O1.length v) (nk:O1[2]?=some (.cells (aD u m))) :
  aY Tryz.prog 50 O [.mp 2 0] (fun r O2=>r=.c5 []∧O2=O1.set 2 (.cells (aD u (m.stop 5 0)))):=by
 have gf:=ag hf;have fj:=ag h0;have eV:=hf;unfold aX at eV;have lr:O[2]?=some (.cells [cc u.fns,aI u.main,.os m.sid (r.length+1) 1,aI m.left,.v (.bool m.short),.v (.bool m.over),.aC 1 (m.out.map aI) (.tok 3),aI m.fin,aI m.val]):=by
  rw[h0];unfold aD;rw[cx];rfl
 have yK:((r.length+1:Nat):Int)-1=(r.length:Nat):=by omega
 have HP:=ag hi;have hs:=dK hf;have eZ:O.length=O1.length:=by rw[ff];simp
 have nh:[aI f.fn,aI f.blk,aI ((f.pos:Int)+1),aI f.to,.mm f.dR]=aX f':=by
  rw[fA];simp[aX]
 have ni:O1[f'.b9]?=some (.cells (aX f')):=by rw[ff,fA];exact hs _
 have wW:O1[f'.dR]?=some (.map (.int .i64) (f'.vals.map il)):=by rw[ff,fA];exact cb hv ub
 have fo:∀o∈O1,o.upto O1.length:=by
  rw[<-eZ,ff];refine bo bD hf fun h=>?_;simp only[aX,aq,ae.upto,true_and,and_true]at h ⊢;rw[fA];exact h
 have iw:=j0 fo ni wW (by rw[fA,<-eZ];exact hu) i.args mT;have ko:f'.b9=f.b9:=by rw[fA]
 have oO:f'.vals=f.vals:=by rw[fA]
 rw[ko,oO,<-dt]at iw;rw[ko]at ni;have gg:O.length<=O.length:=Nat.le_refl _;have ku:=lf fo nk 5 0;have jF:=bo fo nk (ds:=aD u (m.stop 5 0)) (fun h=>ca h rfl);have nQ:=c9 (O:=O1) (k:=2) (x:=.cells (aD u (m.stop 5 0)));unfold aD at nk;have hd:decide (c.kind=2)=true:=decide_eq_true hk;have n6:decide ((D.params.length:Int)=args.length)=false:=decide_eq_false (by omega);refine js hT true (O.length) Tryz.func50 rfl (by kernel_rfl) (by simp[Tryz.ntmps50]) (by assumption) ?_;show cy Tryz.prog _ _ _ ⟨137,_,_⟩;dsimp only[Tmp,TypeId,ax];refine aH ?_;simp -dsimp only[simprocAttr,↓aa,zp,lr,yK,Nat.mul_one,eo,iq]
 repeat(refine⟨by omega,?_⟩)
 refine⟨ob (by kernel_rfl),?_⟩;refine av ?_;refine aH ?_;simp -dsimp only[simprocAttr,↓aa,zp,lr,eV,hF,hB,qc]
 repeat(refine⟨by omega,?_⟩)
 refine⟨cN [2,f.b9] O.length [.pure,.pure,.pure,.pure,.rd 0,.pure,.pure,.pure,.rd 1,.pure,.pure,.pure,.pure,.pure,.pure,.rd 1,.pure,.pure,.wr 2 [],.wr 3 [2]] (by simp;omega) (by simp;omega) rfl rfl (by kernel_rfl),I ?_⟩;simp -dsimp only[ai,ne_eq,Nat.reduceEqDiff,reduceCtorEq];refine bg 3 ([ct B.params,dA B.ins,aI B.term.kind,aI B.term.arg,aI B.term.n,ct B.term.cases,bx B.term.to]) [(0,.mp 2 0),(2,.mp f.b9 0),(3,.ip none [ct B.params,dA B.ins,aI B.term.kind,aI B.term.arg,aI B.term.n,ct B.term.cases,bx B.term.to])] rfl (by rfl) (by omega) (by simp[cq,bL,Go.Av.look]) ?_ ?_ ?_
 ·exact bD
 ·simp[ae.upto,aq,gf,fj,aL,Edge.an,db.an]
 refine cg ?_;simp -dsimp only[simprocAttr,↓aa,zp,eV];refine⟨ob (by kernel_rfl),?_⟩;refine av ?_;apply aQ rfl<;>intro h
 ·exact ab h (by omega)
 refine eH ?_;refine aH ?_;simp -dsimp only[simprocAttr,↓aa,zp,eV,hi,Int.toNat_natCast]
 repeat(refine⟨by omega,?_⟩)
 refine⟨cN [f.b9] O.length [.pure,.pure,.pure,.pure,.pure,.rd 0,.pure,.pure,.wr 1 [],.wr 2 [1]] (by simp) (by simp;omega) rfl rfl (by kernel_rfl),I ?_⟩;simp -dsimp only[ai,ne_eq,Nat.reduceEqDiff,reduceCtorEq];refine bg 4 ([aI i.to,aI i.op,aI i.n,ct i.args]) [(0,.mp 2 0),(2,.mp f.b9 0),(4,.ip none [aI i.to,aI i.op,aI i.n,ct i.args])] rfl (by rfl) (by omega) (by simp[cq,bL,Go.Av.look]) ?_ ?_ ?_
 ·exact bD
 ·simp[ae.upto,aq,gf,fj,aL]
 refine aH ?_;simp -dsimp only[simprocAttr,↓aa,zp,eV,hs,nh,<-ff]
 repeat(refine⟨by omega,?_⟩)
 refine av ?_;refine aB ?_;refine .inr (.inr ⟨_,iw,ah (zj ?_)⟩);refine av ?_;refine aB (av ?_);refine aj ?_;refine aB (av ?_);apply aQ rfl<;>intro h
 ·exact ab h (by omega)
 refine aB (av ?_);apply aQ rfl<;>intro h
 ·refine aH ?_;simp -dsimp only[simprocAttr,↓aa,zp,GC];refine av ?_;refine bg 6 [aI c.kind,aI c.n,.aC 4 (c.list.map SV.enc) .sh,eP c.arr] [(0,.mp 2 0),(2,.mp f.b9 0),(4,.ip none [aI i.to,aI i.op,aI i.n,ct i.args]),(5,.aC 4 (args.map SV.enc) .sh),(6,.ip none [aI c.kind,aI c.n,.aC 4 (c.list.map SV.enc) .sh,eP c.arr])] rfl (by simp only[List.map_cons,List.map_nil,c4,cw,cC]) (by omega) (by simp[cq,bL,Go.Av.look]) fo ?_ ?_
  ·have wQ:=(OG c (List.mem_of_getElem? GC)).aF;rw[SV.dN]at wQ;simp only[aq,ae.upto,true_and,and_true]at wQ;have Oz:=SV.an OG;simp[ae.upto,aq,<-eZ,gf,fj,aL,wQ,Oz];simp[eZ,wQ,Oz]
  refine aH ?_;simp -dsimp only[simprocAttr,↓aa,zp,hd,nk,hG,hD,n6]
  repeat(refine⟨by omega,?_⟩)
  refine⟨ob (by kernel_rfl),?_⟩;refine av ?_;refine cB rfl ?_;refine du ?_;refine .inr (.inl ⟨_,_,ku,.inl (ah ?_)⟩);simp -dsimp only[simprocAttr,↓aa,zp,eZ]
  (refine I ?_;simp -dsimp only[ai,ne_eq,Nat.reduceEqDiff,reduceCtorEq])
  skip
  simp -dsimp only[simprocAttr,↓aa,zp,zr,Tryz.results50,nQ,List.length_set,eZ];exact⟨jF,trivial⟩
 exact af h (by omega)
theorem Gl{u:cW}{m:Mach}{O:List ay}(bD:∀o∈O,o.upto O.length)(h0:O[2]?=some (.cells (aD u m)))(f:Fr)(r:List Fr)(cx:m.frames=f::r)(hf:O[f.b9]?=some (.cells (aX f)))(sr:f.b9≠2)
  {cs:List ae} (eo:O[m.sid]?=some (.cells cs)) (iq:cs[r.length]?=some (.mp f.b9 0)) (wU:r.length<=2 ^ 40) (F:Func) (hF:u.fns[f.fn.toNat]?=some F) (rA:0<=f.fn) (B:Block) (hB:F.blocks[f.blk.toNat]?=some B) (zF:0<=f.blk) (hv:O[f.dR]?=some (.map (.int .i64) (f.vals.map il))) (ub:f.b9≠f.dR) (hu:∀e∈f.vals,SV.bk O.length e.2) (i:db) (hi:B.ins[f.pos]?=some i) (oM:f.pos<=2 ^ 41) (mT:i.args.length<=4096) (f':Fr) (fA:f' = { f with pos:=f.pos+1 }) (args:List SV) (dt:args=gR f.vals i.args) (O1:List ay) (ff:O1=O.set f.b9 (.cells (aX f'))) (kq:i.op≠13∧i.op≠14) {O2:List ay} (v:SV) (t:Int) (hC:aY Tryz.prog 85 O1 [.mp 2 0,i.enc,.aC 4 (args.map SV.enc) .sh] (fun r O3=>r=.c5 [v.enc,aI t]∧O3=O2)) (hlen:O.length<=O2.length) (jF:∀o∈O2,o.upto O2.length) (qn:SV.bk O2.length v) (m2:Mach) (Ri:O2[2]?=some (.cells (aD u m2)))
  (HI:O2[f.b9]?=some (.cells (aX f'))) (Mo:O2[f.dR]?=some (.map (.int .i64) (f.vals.map il))) (yN:∀e∈f.vals,SV.bk O2.length e.2) (V6:f.dR≠2) (ht:t=0) :
  aY Tryz.prog 50 O [.mp 2 0] (fun r O3=>r=.c5 []∧O3=O2.set f.dR (.map (.int .i64) ((fZ f.vals i.to v).map il))):=by
 have gf:=ag hf;have fj:=ag h0;have eV:=hf;unfold aX at eV;have lr:O[2]?=some (.cells [cc u.fns,aI u.main,.os m.sid (r.length+1) 1,aI m.left,.v (.bool m.short),.v (.bool m.over),.aC 1 (m.out.map aI) (.tok 3),aI m.fin,aI m.val]):=by
  rw[h0];unfold aD;rw[cx];rfl
 have yK:((r.length+1:Nat):Int)-1=(r.length:Nat):=by omega
 have HP:=ag hi;have hs:=dK hf;have eZ:O.length=O1.length:=by rw[ff];simp
 have nh:[aI f.fn,aI f.blk,aI ((f.pos:Int)+1),aI f.to,.mm f.dR]=aX f':=by
  rw[fA];simp[aX]
 have ni:O1[f'.b9]?=some (.cells (aX f')):=by rw[ff,fA];exact hs _
 have wW:O1[f'.dR]?=some (.map (.int .i64) (f'.vals.map il)):=by rw[ff,fA];exact cb hv ub
 have fo:∀o∈O1,o.upto O1.length:=by
  rw[<-eZ,ff];refine bo bD hf fun h=>?_;simp only[aX,aq,ae.upto,true_and,and_true]at h ⊢;rw[fA];exact h
 have iw:=j0 fo ni wW (by rw[fA,<-eZ];exact hu) i.args mT;have ko:f'.b9=f.b9:=by rw[fA]
 have oO:f'.vals=f.vals:=by rw[fA]
 rw[ko,oO,<-dt]at iw;rw[ko]at ni;have PD:=ag HI;have PM:=ag Ri;have P4:=qn.aF;rw[SV.dN]at P4;simp only[aq,ae.upto,true_and,and_true]at P4;have hd:decide (t=0)=true:=decide_eq_true ht;have R2:aX f'=[aI f.fn,aI f.blk,aI ((f.pos:Int)+1),aI f.to,.mm f.dR]:=nh.symm;have HW:kC O2.length ((fZ f.vals i.to v).map il):=An fun x hx=>by
  rcases jT hx with q|q
  ·exact yN x q
  rw[q];exact qn
 rw[R2]at HI;have AM:=dH (k:=f.dR) (x:=.map (.int .i64) ((fZ f.vals i.to v).map il)) jF HW;have nQ:=c9 (O:=O2) (k:=f.dR) (x:=.map (.int .i64) ((fZ f.vals i.to v).map il));refine js hT true (O2.length) Tryz.func50 rfl (by kernel_rfl) (by simp[Tryz.ntmps50]) (by assumption) ?_;show cy Tryz.prog _ _ _ ⟨137,_,_⟩;dsimp only[Tmp,TypeId,ax];refine aH ?_;simp -dsimp only[simprocAttr,↓aa,zp,lr,yK,Nat.mul_one,eo,iq]
 repeat(refine⟨by omega,?_⟩)
 refine⟨ob (by kernel_rfl),?_⟩;refine av ?_;refine aH ?_;simp -dsimp only[simprocAttr,↓aa,zp,lr,eV,hF,hB,qc]
 repeat(refine⟨by omega,?_⟩)
 refine⟨cN [2,f.b9] O.length [.pure,.pure,.pure,.pure,.rd 0,.pure,.pure,.pure,.rd 1,.pure,.pure,.pure,.pure,.pure,.pure,.rd 1,.pure,.pure,.wr 2 [],.wr 3 [2]] (by simp;omega) (by simp;omega) rfl rfl (by kernel_rfl),I ?_⟩;simp -dsimp only[ai,ne_eq,Nat.reduceEqDiff,reduceCtorEq];refine bg 3 ([ct B.params,dA B.ins,aI B.term.kind,aI B.term.arg,aI B.term.n,ct B.term.cases,bx B.term.to]) [(0,.mp 2 0),(2,.mp f.b9 0),(3,.ip none [ct B.params,dA B.ins,aI B.term.kind,aI B.term.arg,aI B.term.n,ct B.term.cases,bx B.term.to])] rfl (by rfl) (by omega) (by simp[cq,bL,Go.Av.look]) ?_ ?_ ?_
 ·exact bD
 ·simp[ae.upto,aq,gf,fj,aL,Edge.an,db.an]
 refine cg ?_;simp -dsimp only[simprocAttr,↓aa,zp,eV];refine⟨ob (by kernel_rfl),?_⟩;refine av ?_;apply aQ rfl<;>intro h
 ·exact ab h (by omega)
 refine eH ?_;refine aH ?_;simp -dsimp only[simprocAttr,↓aa,zp,eV,hi,Int.toNat_natCast]
 repeat(refine⟨by omega,?_⟩)
 refine⟨cN [f.b9] O.length [.pure,.pure,.pure,.pure,.pure,.rd 0,.pure,.pure,.wr 1 [],.wr 2 [1]] (by simp) (by simp;omega) rfl rfl (by kernel_rfl),I ?_⟩;simp -dsimp only[ai,ne_eq,Nat.reduceEqDiff,reduceCtorEq];refine bg 4 ([aI i.to,aI i.op,aI i.n,ct i.args]) [(0,.mp 2 0),(2,.mp f.b9 0),(4,.ip none [aI i.to,aI i.op,aI i.n,ct i.args])] rfl (by rfl) (by omega) (by simp[cq,bL,Go.Av.look]) ?_ ?_ ?_
 ·exact bD
 ·simp[ae.upto,aq,gf,fj,aL]
 refine aH ?_;simp -dsimp only[simprocAttr,↓aa,zp,eV,hs,nh,<-ff]
 repeat(refine⟨by omega,?_⟩)
 refine av ?_;refine aB ?_;refine .inr (.inr ⟨_,iw,ah (zj ?_)⟩);refine av ?_;refine aB (av ?_);refine aj ?_;refine aB (av ?_);apply aQ rfl<;>intro h
 ·exact ab h (by omega)
 refine aB (av ?_);apply aQ rfl<;>intro h
 ·exact ab h (by omega)
 refine aB ?_;refine .inr (.inl ⟨_,_,hC,.inl (ah (zj ?_))⟩);refine av ?_;refine bg 7 [aI v.kind,aI v.n,.aC 4 (v.list.map SV.enc) .sh,eP v.arr] [(0,.mp 2 0),(2,.mp f.b9 0),(4,.ip none [aI i.to,aI i.op,aI i.n,ct i.args]),(7,.ip none [aI v.kind,aI v.n,.aC 4 (v.list.map SV.enc) .sh,eP v.arr]),(8,aI t)] rfl (by simp only[List.map_cons,List.map_nil,c4,cw,cC]) (by omega) (by simp[cq,bL,Go.Av.look]) jF ?_ ?_
 ·simp[ae.upto,aq,PD,PM,aL,P4]
 refine cg ?_;simp -dsimp only[simprocAttr,↓aa,zp,hd];refine av ?_;refine cB rfl ?_;refine eH ?_;refine fq ?_;simp -dsimp only[simprocAttr,↓aa,zp,HI,Mo,rN];refine⟨ob (by kernel_rfl),?_⟩
 (refine I ?_;simp -dsimp only[ai,ne_eq,Nat.reduceEqDiff,reduceCtorEq])
 skip
 simp -dsimp only[simprocAttr,↓aa,zp,zr,Tryz.results50,nQ,List.length_set];exact⟨AM,trivial⟩
theorem Gn{u:cW}{m:Mach}{O:List ay}(bD:∀o∈O,o.upto O.length)(h0:O[2]?=some (.cells (aD u m)))(f:Fr)(r:List Fr)(cx:m.frames=f::r)(hf:O[f.b9]?=some (.cells (aX f)))(sr:f.b9≠2)
  {cs:List ae} (eo:O[m.sid]?=some (.cells cs)) (iq:cs[r.length]?=some (.mp f.b9 0)) (wU:r.length<=2 ^ 40) (F:Func) (hF:u.fns[f.fn.toNat]?=some F) (rA:0<=f.fn) (B:Block) (hB:F.blocks[f.blk.toNat]?=some B) (zF:0<=f.blk) (hv:O[f.dR]?=some (.map (.int .i64) (f.vals.map il))) (ub:f.b9≠f.dR) (hu:∀e∈f.vals,SV.bk O.length e.2) (i:db) (hi:B.ins[f.pos]?=some i) (oM:f.pos<=2 ^ 41) (mT:i.args.length<=4096) (f':Fr) (fA:f' = { f with pos:=f.pos+1 }) (args:List SV) (dt:args=gR f.vals i.args) (O1:List ay) (ff:O1=O.set f.b9 (.cells (aX f'))) (kq:i.op≠13∧i.op≠14) {O2:List ay} (v:SV) (t:Int) (hC:aY Tryz.prog 85 O1 [.mp 2 0,i.enc,.aC 4 (args.map SV.enc) .sh] (fun r O3=>r=.c5 [v.enc,aI t]∧O3=O2)) (hlen:O.length<=O2.length) (jF:∀o∈O2,o.upto O2.length) (qn:SV.bk O2.length v) (m2:Mach) (Ri:O2[2]?=some (.cells (aD u m2)))
  (HI:O2[f.b9]?=some (.cells (aX f'))) (Mo:O2[f.dR]?=some (.map (.int .i64) (f.vals.map il))) (yN:∀e∈f.vals,SV.bk O2.length e.2) (V6:f.dR≠2) (ht:t≠0) :
  aY Tryz.prog 50 O [.mp 2 0] (fun r O3=>r=.c5 []∧O3=(O2.set 2 (.cells (aD u (m2.stop t 0)))).set f.dR (.map (.int .i64) ((fZ f.vals i.to v).map il))):=by
 have gf:=ag hf;have fj:=ag h0;have eV:=hf;unfold aX at eV;have lr:O[2]?=some (.cells [cc u.fns,aI u.main,.os m.sid (r.length+1) 1,aI m.left,.v (.bool m.short),.v (.bool m.over),.aC 1 (m.out.map aI) (.tok 3),aI m.fin,aI m.val]):=by
  rw[h0];unfold aD;rw[cx];rfl
 have yK:((r.length+1:Nat):Int)-1=(r.length:Nat):=by omega
 have HP:=ag hi;have hs:=dK hf;have eZ:O.length=O1.length:=by rw[ff];simp
 have nh:[aI f.fn,aI f.blk,aI ((f.pos:Int)+1),aI f.to,.mm f.dR]=aX f':=by
  rw[fA];simp[aX]
 have ni:O1[f'.b9]?=some (.cells (aX f')):=by rw[ff,fA];exact hs _
 have wW:O1[f'.dR]?=some (.map (.int .i64) (f'.vals.map il)):=by rw[ff,fA];exact cb hv ub
 have fo:∀o∈O1,o.upto O1.length:=by
  rw[<-eZ,ff];refine bo bD hf fun h=>?_;simp only[aX,aq,ae.upto,true_and,and_true]at h ⊢;rw[fA];exact h
 have iw:=j0 fo ni wW (by rw[fA,<-eZ];exact hu) i.args mT;have ko:f'.b9=f.b9:=by rw[fA]
 have oO:f'.vals=f.vals:=by rw[fA]
 rw[ko,oO,<-dt]at iw;rw[ko]at ni;have PD:=ag HI;have PM:=ag Ri;have P4:=qn.aF;rw[SV.dN]at P4;simp only[aq,ae.upto,true_and,and_true]at P4;have hd:decide (t=0)=false:=decide_eq_false ht;have R2:aX f'=[aI f.fn,aI f.blk,aI ((f.pos:Int)+1),aI f.to,.mm f.dR]:=nh.symm;have HW:kC O2.length ((fZ f.vals i.to v).map il):=An fun x hx=>by
  rcases jT hx with q|q
  ·exact yN x q
  rw[q];exact qn
 have ku:=lf jF Ri t 0;obtain⟨O3,Cw⟩:∃O3,O3=O2.set 2 (.cells (aD u (m2.stop t 0))):=⟨_,rfl⟩
 have Ov:O2.length=O3.length:=by rw[Cw];simp
 rw[<-Cw]at ku ⊢;have VC:O3[f.b9]?=some (.cells (aX f')):=by rw[Cw];exact cb HI sr.symm
 have UO:O3[f.dR]?=some (.map (.int .i64) (f.vals.map il)):=by rw[Cw];exact cb Mo V6.symm
 rw[R2]at VC;have AM:∀o∈O3.set f.dR (.map (.int .i64) ((fZ f.vals i.to v).map il)),o.upto O3.length:=by
  rw[<-Ov];refine dH ?_ HW;rw[Cw];exact bo jF Ri (fun h=>ca h rfl)
 have nQ:=c9 (O:=O3) (k:=f.dR) (x:=.map (.int .i64) ((fZ f.vals i.to v).map il));refine js hT true (O2.length) Tryz.func50 rfl (by kernel_rfl) (by simp[Tryz.ntmps50]) (by assumption) ?_;show cy Tryz.prog _ _ _ ⟨137,_,_⟩;dsimp only[Tmp,TypeId,ax];refine aH ?_;simp -dsimp only[simprocAttr,↓aa,zp,lr,yK,Nat.mul_one,eo,iq]
 repeat(refine⟨by omega,?_⟩)
 refine⟨ob (by kernel_rfl),?_⟩;refine av ?_;refine aH ?_;simp -dsimp only[simprocAttr,↓aa,zp,lr,eV,hF,hB,qc]
 repeat(refine⟨by omega,?_⟩)
 refine⟨cN [2,f.b9] O.length [.pure,.pure,.pure,.pure,.rd 0,.pure,.pure,.pure,.rd 1,.pure,.pure,.pure,.pure,.pure,.pure,.rd 1,.pure,.pure,.wr 2 [],.wr 3 [2]] (by simp;omega) (by simp;omega) rfl rfl (by kernel_rfl),I ?_⟩;simp -dsimp only[ai,ne_eq,Nat.reduceEqDiff,reduceCtorEq];refine bg 3 ([ct B.params,dA B.ins,aI B.term.kind,aI B.term.arg,aI B.term.n,ct B.term.cases,bx B.term.to]) [(0,.mp 2 0),(2,.mp f.b9 0),(3,.ip none [ct B.params,dA B.ins,aI B.term.kind,aI B.term.arg,aI B.term.n,ct B.term.cases,bx B.term.to])] rfl (by rfl) (by omega) (by simp[cq,bL,Go.Av.look]) ?_ ?_ ?_
 ·exact bD
 ·simp[ae.upto,aq,gf,fj,aL,Edge.an,db.an]
 refine cg ?_;simp -dsimp only[simprocAttr,↓aa,zp,eV];refine⟨ob (by kernel_rfl),?_⟩;refine av ?_;apply aQ rfl<;>intro h
 ·exact ab h (by omega)
 refine eH ?_;refine aH ?_;simp -dsimp only[simprocAttr,↓aa,zp,eV,hi,Int.toNat_natCast]
 repeat(refine⟨by omega,?_⟩)
 refine⟨cN [f.b9] O.length [.pure,.pure,.pure,.pure,.pure,.rd 0,.pure,.pure,.wr 1 [],.wr 2 [1]] (by simp) (by simp;omega) rfl rfl (by kernel_rfl),I ?_⟩;simp -dsimp only[ai,ne_eq,Nat.reduceEqDiff,reduceCtorEq];refine bg 4 ([aI i.to,aI i.op,aI i.n,ct i.args]) [(0,.mp 2 0),(2,.mp f.b9 0),(4,.ip none [aI i.to,aI i.op,aI i.n,ct i.args])] rfl (by rfl) (by omega) (by simp[cq,bL,Go.Av.look]) ?_ ?_ ?_
 ·exact bD
 ·simp[ae.upto,aq,gf,fj,aL]
 refine aH ?_;simp -dsimp only[simprocAttr,↓aa,zp,eV,hs,nh,<-ff]
 repeat(refine⟨by omega,?_⟩)
 refine av ?_;refine aB ?_;refine .inr (.inr ⟨_,iw,ah (zj ?_)⟩);refine av ?_;refine aB (av ?_);refine aj ?_;refine aB (av ?_);apply aQ rfl<;>intro h
 ·exact ab h (by omega)
 refine aB (av ?_);apply aQ rfl<;>intro h
 ·exact ab h (by omega)
 refine aB ?_;refine .inr (.inl ⟨_,_,hC,.inl (ah (zj ?_))⟩);refine av ?_;refine bg 7 [aI v.kind,aI v.n,.aC 4 (v.list.map SV.enc) .sh,eP v.arr] [(0,.mp 2 0),(2,.mp f.b9 0),(4,.ip none [aI i.to,aI i.op,aI i.n,ct i.args]),(7,.ip none [aI v.kind,aI v.n,.aC 4 (v.list.map SV.enc) .sh,eP v.arr]),(8,aI t)] rfl (by simp only[List.map_cons,List.map_nil,c4,cw,cC]) (by omega) (by simp[cq,bL,Go.Av.look]) jF ?_ ?_
 ·simp[ae.upto,aq,PD,PM,aL,P4]
 refine cg ?_;simp -dsimp only[simprocAttr,↓aa,zp,hd];refine av ?_;refine de rfl ?_;refine du ?_;refine .inr (.inl ⟨_,_,ku,.inl (ah (zj ?_))⟩);refine av ?_;refine fq ?_;simp -dsimp only[simprocAttr,↓aa,zp,VC,UO,rN];refine⟨ob (by kernel_rfl),?_⟩
 (refine I ?_;simp -dsimp only[ai,ne_eq,Nat.reduceEqDiff,reduceCtorEq])
 skip
 simp -dsimp only[simprocAttr,↓aa,zp,zr,Tryz.results50,Ov,nQ,List.length_set];exact⟨AM,trivial⟩
end Go.Proofs.YtkkookchlddbkaaGreat
namespace Go.Proofs.YtkkookchlddbkaaGreat
open Go.Av
def qM(L:List (Nat×ay))(O:List ay):Prop:=∀p∈L,O[p.1]?=some p.2
def e9(L:List (Nat×ay)):List Nat:=L.map Prod.fst
theorem eX(A B:List (Nat×ay)):e9 (A++B)=e9 A++e9 B:=by simp[e9]
theorem jP(p:Nat×ay)(B:List (Nat×ay)):e9 (p::B)=p.1::e9 B:=rfl
theorem iu{L:List (Nat×ay)}{p:Nat×ay}(h:p∈L):p.1∈e9 L:=List.mem_map.2 ⟨p,h,rfl⟩
theorem ir{A B:List (Nat×ay)}{id:Nat}{y x:ay}{O:List ay}(h:qM (A++(id,y)::B) O)(hn:(e9 (A++(id,y)::B)).Nodup):qM (A++(id,x)::B) (O.set id x):=by
 rw[eX,jP,List.nodup_append]at hn;obtain⟨_,hB,We⟩:=hn;rw[List.nodup_cons]at hB;intro p hp;rcases List.mem_append.1 hp with q|q
 ·have cA:id≠p.1:=fun e=>We p.1 (iu q) id List.mem_cons_self e.symm;exact cb (h p (by simp[q])) cA
 rcases List.mem_cons.1 q with rfl|q
 ·exact BQ (h (id,y) (by simp))
 have cA:id≠p.1:=fun e=>hB.1 (by
  show id∈e9 B;rw[e];exact iu q)
 exact cb (h p (by simp[q])) cA
theorem jQ(A B:List (Nat×ay))(id:Nat)(y x:ay):e9 (A++(id,y)::B)=e9 (A++(id,x)::B):=by simp[e9]
theorem qM.sub{L M:List (Nat×ay)}{O:List ay}(h:qM L O)(hs:∀p∈M,p∈L):qM M O:=fun p hp=>h p (hs p hp)
theorem qM.lt{L:List (Nat×ay)}{O:List ay}(h:qM L O):∀k∈e9 L,k<O.length:=fun k hk=>by
 obtain⟨p,hp,rfl⟩:=List.mem_map.1 hk;exact ag (h p hp)
def mS:List Fr->List (Nat×ay)
 | []=>[]
 | f::r=>(f.b9,.cells (aX f))::(f.dR,.map (.int .i64) (f.vals.map il))::mS r
def eK:List BC->List (Nat×ay)
 | []=>[]
 | a::r=>(a.l9,.cells [.ms a.ou 0 a.l.length a.l.length])::(a.ou,.cells (ar (a.l.map SV.enc)))::eK r
theorem pY(A B:List BC):eK (A++B)=eK A++eK B:=by
 induction A with
 | nil=>rfl
 | cons a r ih=>simp[eK,ih]
def cp(u:cW)(m:Mach)(rest:List ae):List (Nat×ay) :=
 (1,.cells [.aC 1 [] .ex,aI 0,aI 0])::(2,.cells (aD u m))::(3,.spare m.out.length)::(m.sid,.cells (fp m.frames++rest))::(mS m.frames++eK m.heap)
structure Tl(u:cW)(m:Mach)(rest:List ae)(O:List ay):Prop where
 len:O.length=m.next
 upto:∀o∈O,o.upto O.length
 holds:qM (cp u m rest) O
 nodup:(e9 (cp u m rest)).Nodup
namespace Tl
variable {u:cW} {m:Mach} {rest:List ae} {O:List ay}
theorem gT(h:Tl u m rest O):O[2]?=some (.cells (aD u m)):=h.holds (2,_) (by simp[cp])
theorem outs(h:Tl u m rest O):O[3]?=some (.spare m.out.length):=h.holds (3,_) (by simp[cp])
theorem stack(h:Tl u m rest O):O[m.sid]?=some (.cells (fp m.frames++rest)):=h.holds (m.sid,_) (by simp[cp])
theorem pg{l:List Fr}{f:Fr}(hf:f∈l):(f.b9,ay.cells (aX f))∈mS l∧(f.dR,ay.map (.int .i64) (f.vals.map il))∈mS l:=by
 induction l with
 | nil=>simp at hf
 | cons g r ih =>
  rcases List.mem_cons.1 hf with rfl|hf
  ·simp[mS]
  simp[mS,ih hf]
theorem ya{l:List BC}{a:BC}(ha:a∈l):(a.l9,ay.cells [.ms a.ou 0 a.l.length a.l.length])∈eK l∧(a.ou,ay.cells (ar (a.l.map SV.enc)))∈eK l:=by
 induction l with
 | nil=>simp at ha
 | cons g r ih =>
  rcases List.mem_cons.1 ha with rfl|ha
  ·simp[eK]
  simp[eK,ih ha]
theorem frame(h:Tl u m rest O){f:Fr}(hf:f∈m.frames):O[f.b9]?=some (.cells (aX f))∧O[f.dR]?=some (.map (.int .i64) (f.vals.map il)) :=
 ⟨h.holds (f.b9,_) (by simp[cp,pg hf]),h.holds (f.dR,_) (by simp[cp,pg hf])⟩
theorem arr(h:Tl u m rest O){a:BC}(ha:a∈m.heap):O[a.l9]?=some (.cells [.ms a.ou 0 a.l.length a.l.length])∧O[a.ou]?=some (.cells (ar (a.l.map SV.enc))) :=
 ⟨h.holds (a.l9,_) (by simp[cp,ya ha]),h.holds (a.ou,_) (by simp[cp,ya ha])⟩
theorem under(h:Tl u m rest O){v:SV}(hv:gK u m v):SV.bk O.length v :=
 SV.Wf.under (fun id ⟨a,ha,e⟩=>by
  rw[<-e];exact ag (h.arr ha).1) hv
theorem pA(h:Tl u m rest O)(m':Mach)(h1:m'.sid=m.sid)(h2:m'.frames=m.frames)(h3:m'.heap=m.heap)(h4:m'.out.length=m.out.length)(h5:m'.next=m.next):Tl u m' rest (O.set 2 (.cells (aD u m'))):=by
 have e:cp u m' rest=[(1,.cells [.aC 1 [] .ex,aI 0,aI 0])]++(2,.cells (aD u m'))::((3,.spare m.out.length)::(m.sid,.cells (fp m.frames++rest))::(mS m.frames++eK m.heap)):=by
  simp[cp,h1,h2,h3,h4]
 refine⟨by simp[h.len,h5],?_,?_,?_⟩
 ·rw[List.length_set];exact bo h.upto h.gT (fun q=>ca q h1)
 ·rw[e];exact ir (A:=[_]) (y:=.cells (aD u m)) h.holds h.nodup
 rw[e,<-jQ _ _ _ (.cells (aD u m))];exact h.nodup
theorem Qe(h:Tl u m rest O)(m':Mach)(h1:m'.sid=m.sid)(h2:m'.frames=m.frames)(h3:m'.heap=m.heap)(h5:m'.next=m.next):Tl u m' rest ((O.set 3 (.spare m'.out.length)).set 2 (.cells (aD u m'))):=by
 have e:cp u m' rest=[(1,.cells [.aC 1 [] .ex,aI 0,aI 0])]++(2,.cells (aD u m'))::((3,.spare m'.out.length)::(m.sid,.cells (fp m.frames++rest))::(mS m.frames++eK m.heap)):=by
  simp[cp,h1,h2,h3]
 have hs:=ir (A:=[(1,.cells [.aC 1 [] .ex,aI 0,aI 0]),(2,.cells (aD u m))]) (x:=.spare m'.out.length) (y:=.spare m.out.length) h.holds h.nodup;have hk:=jQ [(1,.cells [.aC 1 [] .ex,aI 0,aI 0]),(2,.cells (aD u m))] ((m.sid,.cells (fp m.frames++rest))::(mS m.frames++eK m.heap)) 3 (.spare m.out.length) (.spare m'.out.length);have hn:(e9 ([(1,.cells [.aC 1 [] .ex,aI 0,aI 0]),(2,.cells (aD u m))]++(3,.spare m'.out.length)::((m.sid,.cells (fp m.frames++rest))::(mS m.frames++eK m.heap)))).Nodup:=by
  rw[<-hk];exact h.nodup
 refine⟨by simp[h.len,h5],?_,?_,?_⟩
 ·rw[List.length_set,List.length_set];exact bo (dH h.upto trivial) (cb h.gT (by omega)) (fun q=>ca q h1)
 ·rw[e];exact ir (A:=[_]) (y:=.cells (aD u m)) hs hn
 rw[e,<-jQ _ _ _ (.cells (aD u m))];exact hn
theorem bY(h:Tl u m rest O){f f':Fr}{r:List Fr}(cx:m.frames=f::r)(h1:f'.b9=f.b9)(h2:f'.dR=f.dR)(h3:f'.vals=f.vals):Tl u (m.bY f') rest (O.set f.b9 (.cells (aX f'))):=by
 have hm:aD u (m.bY f')=aD u m:=by simp[aD,Mach.bY,cx]
 have hp:fp (f'::r)=fp (f::r):=by simp[fp,h1]
 have e:cp u (m.bY f') rest=[(1,.cells [.aC 1 [] .ex,aI 0,aI 0]),(2,.cells (aD u m)),(3,.spare m.out.length),(m.sid,.cells (fp m.frames++rest))]++(f.b9,.cells (aX f'))::((f.dR,.map (.int .i64) (f.vals.map il))::(mS r++eK m.heap)):=by
  unfold cp;rw[hm];simp[Mach.bY,cx,mS,h1,h2,h3,hp]
 have e0:cp u m rest=[(1,.cells [.aC 1 [] .ex,aI 0,aI 0]),(2,.cells (aD u m)),(3,.spare m.out.length),(m.sid,.cells (fp m.frames++rest))]++(f.b9,.cells (aX f))::((f.dR,.map (.int .i64) (f.vals.map il))::(mS r++eK m.heap)):=by
  simp[cp,cx,mS]
 have hh:=h.holds;have hn:=h.nodup;rw[e0]at hh hn;refine⟨by simp[h.len,Mach.bY],?_,?_,?_⟩
 ·rw[List.length_set];refine bo h.upto (h.frame (f:=f) (by rw[cx];simp)).1 (fun q=>?_);simp only[aX,aq,ae.upto,true_and,and_true,h2]at q ⊢;exact q
 ·rw[e];exact ir hh hn
 rw[e,<-jQ _ _ _ (.cells (aX f))];exact hn
theorem zl(h:Tl u m rest O){f f':Fr}{r:List Fr}(cx:m.frames=f::r)(h1:f' = { f with vals:=f'.vals })(hu:∀e∈f'.vals,SV.bk O.length e.2):Tl u (m.bY f') rest (O.set f.dR (.map (.int .i64) (f'.vals.map il))):=by
 have hm:aD u (m.bY f')=aD u m:=by simp[aD,Mach.bY,cx]
 have ko:f'.b9=f.b9:=by rw[h1]
 have wS:f'.dR=f.dR:=by rw[h1]
 have HK:aX f'=aX f:=by rw[h1];rfl
 have hp:fp (f'::r)=fp (f::r):=by simp[fp,ko]
 have e:cp u (m.bY f') rest=[(1,.cells [.aC 1 [] .ex,aI 0,aI 0]),(2,.cells (aD u m)),(3,.spare m.out.length),(m.sid,.cells (fp m.frames++rest)),(f.b9,.cells (aX f))]++(f.dR,.map (.int .i64) (f'.vals.map il))::(mS r++eK m.heap):=by
  unfold cp;rw[hm];simp[Mach.bY,cx,mS,ko,wS,HK,hp]
 have e0:cp u m rest=[(1,.cells [.aC 1 [] .ex,aI 0,aI 0]),(2,.cells (aD u m)),(3,.spare m.out.length),(m.sid,.cells (fp m.frames++rest)),(f.b9,.cells (aX f))]++(f.dR,.map (.int .i64) (f.vals.map il))::(mS r++eK m.heap):=by
  simp[cp,cx,mS]
 have hh:=h.holds;have hn:=h.nodup;rw[e0]at hh hn;refine⟨by simp[h.len,Mach.bY],?_,?_,?_⟩
 ·rw[List.length_set];exact dH h.upto (An hu)
 ·rw[e];exact ir hh hn
 rw[e,<-jQ _ _ _ (.map (.int .i64) (f.vals.map il))];exact hn
theorem pop(h:Tl u m rest O){f g g':Fr}{r:List Fr}(cx:m.frames=f::g::r)(h1:g' = { g with vals:=g'.vals })(hu:∀e∈g'.vals,SV.bk O.length e.2)(m':Mach)(eS:m' = { m with frames:=g'::r }) :
  Tl u m' (.mp f.b9 0::rest) ((O.set 2 (.cells (aD u m'))).set g.dR (.map (.int .i64) (g'.vals.map il))):=by
 have ko:g'.b9=g.b9:=by rw[h1]
 have wS:g'.dR=g.dR:=by rw[h1]
 have HK:aX g'=aX g:=by rw[h1];rfl
 have hp:fp (f::g::r)++rest=fp (g'::r)++.mp f.b9 0::rest:=by simp[fp,ko]
 have e0:cp u m rest=[(1,.cells [.aC 1 [] .ex,aI 0,aI 0])]++(2,.cells (aD u m))::((3,.spare m.out.length)::(m.sid,.cells (fp (g'::r)++.mp f.b9 0::rest))::(f.b9,.cells (aX f))::(f.dR,.map (.int .i64) (f.vals.map il))::(g.b9,.cells (aX g))::(g.dR,.map (.int .i64) (g.vals.map il))::(mS r++eK m.heap)):=by
  simp[cp,cx,mS,<-hp]
 have e1:cp u m' (.mp f.b9 0::rest)=[(1,.cells [.aC 1 [] .ex,aI 0,aI 0]),(2,.cells (aD u m')),(3,.spare m.out.length),(m.sid,.cells (fp (g'::r)++.mp f.b9 0::rest)),(g.b9,.cells (aX g))]++(g.dR,.map (.int .i64) (g'.vals.map il))::(mS r++eK m.heap):=by
  rw[eS];simp[cp,mS,ko,wS,HK]
 have hh:=h.holds;have hn:=h.nodup;rw[e0]at hh hn;have h2:=ir (x:=.cells (aD u m')) hh hn;have nY:∀p∈[(1,ay.cells [.aC 1 [] .ex,aI 0,aI 0]),(2,.cells (aD u m')),(3,.spare m.out.length),(m.sid,.cells (fp (g'::r)++.mp f.b9 0::rest)),(g.b9,.cells (aX g))]++(g.dR,.map (.int .i64) (g.vals.map il))::(mS r++eK m.heap),p∈[(1,.cells [.aC 1 [] .ex,aI 0,aI 0])]++(2,.cells (aD u m'))::((3,.spare m.out.length)::(m.sid,.cells (fp (g'::r)++.mp f.b9 0::rest))::(f.b9,.cells (aX f))::(f.dR,.map (.int .i64) (f.vals.map il))::(g.b9,.cells (aX g))::(g.dR,.map (.int .i64) (g.vals.map il))::(mS r++eK m.heap)):=by
  intro p hp;simp only[List.cons_append,List.nil_append,List.mem_cons]at hp ⊢;rcases hp with q|q|q|q|q|q|q
  all_goals simp[q]
 have VO:(e9 ([(1,ay.cells [.aC 1 [] .ex,aI 0,aI 0]),(2,.cells (aD u m')),(3,.spare m.out.length),(m.sid,.cells (fp (g'::r)++.mp f.b9 0::rest)),(g.b9,.cells (aX g))]++(g.dR,.map (.int .i64) (g.vals.map il))::(mS r++eK m.heap))).Nodup:=by
  refine List.Nodup.sublist ?_ hn;simp only[e9,List.map_cons,List.map_append,List.map_nil,List.cons_append,List.nil_append];exact((((List.Sublist.refl _).cons _).cons _).cons₂ _ |>.cons₂ _ |>.cons₂ _ |>.cons₂ _)
 have hg:=h2.sub nY;refine⟨by rw[eS];simp[h.len],?_,?_,?_⟩
 ·rw[List.length_set,List.length_set];refine dH (bo h.upto h.gT (fun q=>ca q (by rw[eS]))) (An hu)
 ·rw[e1];exact ir hg VO
 rw[e1,<-jQ _ _ _ (.map (.int .i64) (g.vals.map il))];exact VO
theorem last(h:Tl u m rest O){f:Fr}(cx:m.frames=[f])(m':Mach)(h1:m'.sid=m.sid)(h2:m'.frames=[])(h3:m'.heap=m.heap)(h4:m'.out.length=m.out.length)(h5:m'.next=m.next):Tl u m' (.mp f.b9 0::rest) (O.set 2 (.cells (aD u m'))):=by
 have e0:cp u m rest=[(1,.cells [.aC 1 [] .ex,aI 0,aI 0])]++(2,.cells (aD u m))::((3,.spare m.out.length)::(m.sid,.cells (.mp f.b9 0::rest))::(f.b9,.cells (aX f))::(f.dR,.map (.int .i64) (f.vals.map il))::eK m.heap):=by
  simp[cp,cx,mS,fp]
 have e1:cp u m' (.mp f.b9 0::rest)=[(1,.cells [.aC 1 [] .ex,aI 0,aI 0]),(2,.cells (aD u m')),(3,.spare m.out.length),(m.sid,.cells (.mp f.b9 0::rest))]++eK m.heap:=by
  simp[cp,h1,h2,h3,h4,mS,fp]
 have hh:=h.holds;have hn:=h.nodup;rw[e0]at hh hn;refine⟨by simp[h.len,h5],?_,?_,?_⟩
 ·rw[List.length_set];exact bo h.upto h.gT (fun q=>ca q h1)
 ·rw[e1];refine(ir (x:=.cells (aD u m')) hh hn).sub fun p hp=>?_;simp only[List.cons_append,List.nil_append,List.mem_cons]at hp ⊢;rcases hp with q|q|q|q|q
  all_goals simp[q]
 rw[e1];refine List.Nodup.sublist ?_ hn;simp only[e9,List.map_cons,List.map_append,List.map_nil,List.cons_append,List.nil_append];exact((((List.Sublist.refl _).cons _).cons _).cons₂ _ |>.cons₂ _ |>.cons₂ _ |>.cons₂ _)
end Tl
end Go.Proofs.YtkkookchlddbkaaGreat
namespace Go.Proofs.YtkkookchlddbkaaGreat
open Go.Av
namespace Tl
variable {u:cW} {m:Mach} {rest:List ae} {O:List ay}
theorem keys(u:cW)(m:Mach)(rest:List ae):e9 (cp u m rest)=1::2::3::m.sid::e9 (mS m.frames++eK m.heap):=rfl
theorem others(h:Tl u m rest O):qM (mS m.frames++eK m.heap) O∧(∀k∈e9 (mS m.frames++eK m.heap),k≠1∧k≠2∧k≠3∧k≠m.sid∧k<O.length)∧(e9 (mS m.frames++eK m.heap)).Nodup∧m.sid≠1∧m.sid≠2∧m.sid≠3∧m.sid<O.length∧3<O.length:=by
 have hn:=h.nodup;have aN:=h.holds.lt;rw[keys]at hn aN;simp only[List.nodup_cons,List.mem_cons,not_or]at hn;obtain⟨⟨a1,a2,a3,a4⟩,⟨b1,b2,b3⟩,⟨c1,c2⟩,d,e⟩:=hn;refine⟨fun p hp=>h.holds p (by simp only[cp,List.mem_cons];exact .inr (.inr (.inr (.inr hp)))),fun k hk=>⟨?_,?_,?_,?_,aN k (by simp[hk])⟩,e,fun q=>a3 q.symm,fun q=>b2 q.symm,fun q=>c1 q.symm,aN _ (by simp),aN 3 (by simp)⟩
 ·rintro rfl;exact a4 hk
 ·rintro rfl;exact b3 hk
 ·rintro rfl;exact c2 hk
 rintro rfl;exact d hk
theorem push(h:Tl u m rest O)(fn to:Int)(args:List SV)(m':Mach)(eS:m'=m.enter u fn args to)(hu:∀v∈args,SV.bk O.length v) :
  Tl u m' [] (((O.set m.sid .gone).set 2 (.cells (aD u m'))) ++
   [.map (.int .i64) ((g5 [] (bU (dg u fn) 0).params args).map il),.cells [aI fn,aI 0,aI 0,aI to,.mm O.length],.cells (mP (fp m.frames++rest) m.frames.length (O.length+1))]):=by
 obtain⟨ho,hk,vl,s1,s2,s3,s4,s5⟩:=h.others;have hN:=h.len;have oM:(fp m.frames).length=m.frames.length:=by simp[fp]
 obtain⟨O2,oI⟩:∃O2,O2=(O.set m.sid .gone).set 2 (.cells (aD u m')):=⟨_,rfl⟩
 have sc:O2.length=O.length:=by rw[oI];simp
 have Uv:mP (fp m.frames++rest) m.frames.length (O.length+1)=fp m'.frames++[]:=by
  rw[eS];unfold mP;rw[List.take_append_of_le_length (by omega),List.take_of_length_le (by omega)];simp[fp,Mach.enter,hN]
 rw[Uv,<-oI];have e1:cp u m' []=(1,.cells [.aC 1 [] .ex,aI 0,aI 0])::(2,.cells (aD u m'))::(3,.spare m.out.length)::(O.length+2,.cells (fp m'.frames++[]))::(O.length+1,.cells [aI fn,aI 0,aI 0,aI to,.mm O.length])::(O.length,.map (.int .i64) ((g5 [] (bU (dg u fn) 0).params args).map il))::(mS m.frames++eK m.heap):=by
  rw[eS];simp[cp,Mach.enter,mS,hN,aX]
 have hold:∀k o,O[k]?=some o->k≠m.sid->k≠2->∀X,(O2++X)[k]?=some o:=fun k o hk h1 h2 X=>by
  refine eU ?_;rw[oI];exact cb (cb hk (Ne.symm h1)) (Ne.symm h2)
 refine⟨by rw[eS];simp[sc,Mach.enter,hN],?_,?_,?_⟩
 ·have hlen:(O2++[ay.map (.int .i64) ((g5 [] (bU (dg u fn) 0).params args).map il),.cells [aI fn,aI 0,aI 0,aI to,.mm O.length],.cells (fp m'.frames++[])]).length=O.length+3:=by simp[sc]
  rw[hlen];intro o kY;rcases List.mem_append.1 kY with q|q
  ·rw[oI]at q;refine bo (n:=O.length+3) (ds:=aD u m') (dH (k:=m.sid) (x:=.gone) (fun o ho=>ay.ep (by omega) (h.upto o ho)) trivial) (cb h.gT s2) (fun q=>?_) o q;simp only[aD,aq,ae.upto,aL,Func.an,true_and,and_true,eS,Mach.enter]at q ⊢;omega
  simp only[List.mem_cons,List.mem_nil_iff,or_false]at q;rcases q with rfl|rfl|rfl
  ·refine An fun x hx=>?_;rcases la hx with q|q
   ·simp at q
   exact(hu _ q).mono (by omega)
  ·simp[ay.upto,aq,ae.upto]
  simp only[ay.upto,List.append_nil,a9];intro x hx;simp only[fp,List.mem_map,List.mem_reverse]at hx;obtain⟨f,hf,rfl⟩:=hx;rw[eS]at hf;simp only[Mach.enter,List.mem_cons]at hf;rcases hf with rfl|hf
  ·simp[ae.upto,hN]
  have:=ag (h.frame hf).1;simp only[ae.upto];omega
 ·rw[e1];intro p hp;simp only[List.mem_cons]at hp;rcases hp with rfl|rfl|rfl|rfl|rfl|rfl|hp
  ·exact hold 1 _ (h.holds (1,_) (by simp[cp])) (fun e=>s1 e.symm) (by omega) _
  ·refine eU ?_;rw[oI];exact BQ (cb h.gT s2)
  ·exact hold 3 _ h.outs (fun e=>s3 e.symm) (by omega) _
  ·show(O2++_)[O.length+2]?=_;rw[<-sc,lJ];rfl
  ·show(O2++_)[O.length+1]?=_;rw[<-sc,lJ];rfl
  ·show(O2++_)[O.length]?=_;rw[<-sc,Dw];rfl
  have:=hk p.1 (iu hp);exact hold p.1 _ (ho p hp) this.2.2.2.1 this.2.1 _
 rw[e1];simp only[jP,List.nodup_cons,List.mem_cons,not_or];refine⟨⟨by omega,by omega,by omega,by omega,by omega,fun q=>(hk 1 q).1 rfl⟩,⟨by omega,by omega,by omega,by omega,fun q=>(hk 2 q).2.1 rfl⟩,⟨by omega,by omega,by omega,fun q=>(hk 3 q).2.2.1 rfl⟩,⟨by omega,by omega,fun q=>?_⟩,⟨by omega,fun q=>?_⟩,fun q=>?_,vl⟩
 ·have:=(hk _ q).2.2.2.2;omega
 ·have:=(hk _ q).2.2.2.2;omega
 have:=(hk _ q).2.2.2.2;omega
theorem rW:∀(l:List BC) (a:BC) (x:List SV),a∈l->(e9 (eK l)).Nodup->∃X Y,l=X++a::Y∧Mach.kN l (some a.l9) x=X++⟨a.l9,a.ou,x⟩::Y
 | [],_,_,h,_=>by simp at h
 | b::r,a,x,h,hn=>by
  unfold Mach.kN;rcases List.mem_cons.1 h with rfl|h
  ·exact⟨[],r,rfl,by simp⟩
  have cA:some a.l9≠some b.l9:=fun e=>by
   simp only[Option.some.injEq]at e;simp only[eK,jP,List.nodup_cons,List.mem_cons,not_or]at hn;exact hn.1.2 (by
    rw[<-e];exact iu (ya h).1)
  rw[if_neg cA];simp only[eK,jP,List.nodup_cons]at hn;obtain⟨X,Y,h1,h2⟩:=rW r a x h hn.2.2;exact⟨b::X,Y,by simp[h1],by simp[h2]⟩
theorem MB(h:Tl u m rest O){a:BC}(ha:a∈m.heap)(l:List SV)(hl:l.length=a.l.length)(hu:∀v∈l,SV.bk O.length v)(m':Mach)(eS:m' = { m with heap:=Mach.kN m.heap (some a.l9) l }):Tl u m' rest (O.set a.ou (.cells (ar (l.map SV.enc)))):=by
 obtain⟨ho,hk,vl,s1,s2,s3,s4,s5⟩:=h.others;obtain⟨X,Y,e1,e2⟩:=rW m.heap a l ha (by
  rw[eX,List.nodup_append]at vl;exact vl.2.1)
 have HX:aD u m'=aD u m:=by rw[eS];rfl
 have e0:cp u m rest=((1,.cells [.aC 1 [] .ex,aI 0,aI 0])::(2,.cells (aD u m))::(3,.spare m.out.length)::(m.sid,.cells (fp m.frames++rest))::(mS m.frames++(eK X++[(a.l9,.cells [.ms a.ou 0 a.l.length a.l.length])])))++(a.ou,.cells (ar (a.l.map SV.enc)))::eK Y:=by
  unfold cp;rw[e1,pY];simp[eK]
 have e3:cp u m' rest=((1,.cells [.aC 1 [] .ex,aI 0,aI 0])::(2,.cells (aD u m))::(3,.spare m.out.length)::(m.sid,.cells (fp m.frames++rest))::(mS m.frames++(eK X++[(a.l9,.cells [.ms a.ou 0 a.l.length a.l.length])])))++(a.ou,.cells (ar (l.map SV.enc)))::eK Y:=by
  unfold cp;rw[HX,eS];simp only[e2,pY];simp[eK,hl]
 have hh:=h.holds;have hn:=h.nodup;rw[e0]at hh hn;refine⟨by rw[eS];simp[h.len],?_,?_,?_⟩
 ·rw[List.length_set];exact dH h.upto (SV.dL hu)
 ·rw[e3];exact ir hh hn
 rw[e3,<-jQ _ _ _ (.cells (ar (a.l.map SV.enc)))];exact hn
theorem Lm(h:Tl u m rest O)(l:List SV)(m':Mach)(J:List ay)(hJ:J.length=7)(Wj:∀o∈J,o.upto (O.length+9))(hu:∀v∈l,SV.bk O.length v)(h1:m'.sid=m.sid)(h2:m'.frames=m.frames)(h3:m'.heap=m.heap++[⟨m.next+8,m.next+7,l⟩])(h4:m'.out=m.out)(h5:m'.next=m.next+9) :
  Tl u m' rest (O.set 2 (.cells (aD u m'))++(J++[.cells (ar (l.map SV.enc)),.cells [.ms (O.length+7) 0 l.length l.length]])):=by
 obtain⟨ho,hk,vl,s1,s2,s3,s4,s5⟩:=h.others;have hN:=h.len;obtain⟨O2,oI⟩:∃O2,O2=O.set 2 (.cells (aD u m')):=⟨_,rfl⟩
 have sc:O2.length=O.length:=by rw[oI];simp
 rw[<-oI];have e1:cp u m' rest=(1,.cells [.aC 1 [] .ex,aI 0,aI 0])::(2,.cells (aD u m'))::(3,.spare m.out.length)::(m.sid,.cells (fp m.frames++rest))::((mS m.frames++eK m.heap)++[(O.length+8,.cells [.ms (O.length+7) 0 l.length l.length]),(O.length+7,.cells (ar (l.map SV.enc)))]):=by
  simp[cp,h1,h2,h3,h4,pY,eK,hN]
 have hold:∀k o,O[k]?=some o->k≠2->∀X,(O2++X)[k]?=some o:=fun k o hk h2 X=>by
  refine eU ?_;rw[oI];exact cb hk (Ne.symm h2)
 refine⟨by simp[sc,h5,hN,hJ],?_,?_,?_⟩
 ·have hlen:(O2++(J++[ay.cells (ar (l.map SV.enc)),.cells [.ms (O.length+7) 0 l.length l.length]])).length=O.length+9:=by simp[sc,hJ]
  rw[hlen];intro o kY;rcases List.mem_append.1 kY with q|q
  ·rw[oI]at q;exact bo (fun o ho=>ay.ep (by omega) (h.upto o ho)) h.gT (fun q=>ca q h1) o q
  rcases List.mem_append.1 q with q|q
  ·exact Wj o q
  simp only[List.mem_cons,List.mem_nil_iff,or_false]at q;rcases q with rfl|rfl
  ·exact SV.dL fun v hv=>(hu v hv).mono (by omega)
  simp[ay.upto,aq,ae.upto]
 ·rw[e1];intro p hp;simp only[List.mem_cons,List.mem_append,List.mem_nil_iff,or_false]at hp;have Vj:∀k,(J++[ay.cells (ar (l.map SV.enc)),.cells [.ms (O.length+7) 0 l.length l.length]])[7+k]?=[ay.cells (ar (l.map SV.enc)),.cells [.ms (O.length+7) 0 l.length l.length]][k]?:=fun k=>by
   rw[<-hJ];exact lJ
  rcases hp with rfl|rfl|rfl|rfl|hp|rfl|rfl
  ·exact hold 1 _ (h.holds (1,_) (by simp[cp])) (by omega) _
  ·refine eU ?_;rw[oI];exact BQ h.gT
  ·exact hold 3 _ h.outs (by omega) _
  ·exact hold m.sid _ h.stack s2 _
  ·have:=hk p.1 (iu (List.mem_append.2 hp));exact hold p.1 _ (ho p (List.mem_append.2 hp)) this.2.1 _
  ·show(O2++_)[O.length+8]?=_;have hx:O.length+8=O2.length+8:=by omega
   rw[hx,lJ];exact Vj 1
  show(O2++_)[O.length+7]?=_;have hx:=lJ (O:=O2) (k:=7) (X:=J++[ay.cells (ar (l.map SV.enc)),.cells [.ms (O.length+7) 0 l.length l.length]]);rw[sc]at hx;rw[hx];exact Vj 0
 rw[e1];simp only[jP,eX,List.nodup_cons,List.mem_cons,not_or,List.mem_append];have mU:∀k,(k∈e9 (mS m.frames)∨k∈e9 (eK m.heap))->k≠1∧k≠2∧k≠3∧k≠m.sid∧k<O.length:=fun k q=>hk k (by rw[eX];exact List.mem_append.2 q);refine⟨⟨by omega,by omega,by omega,⟨fun q=>(mU 1 (.inl q)).1 rfl,fun q=>(mU 1 (.inr q)).1 rfl⟩,by omega,by omega,by simp[e9]⟩,⟨by omega,by omega,⟨fun q=>(mU 2 (.inl q)).2.1 rfl,fun q=>(mU 2 (.inr q)).2.1 rfl⟩,by omega,by omega,by simp[e9]⟩,⟨by omega,⟨fun q=>(mU 3 (.inl q)).2.2.1 rfl,fun q=>(mU 3 (.inr q)).2.2.1 rfl⟩,by omega,by omega,by simp[e9]⟩,⟨⟨fun q=>(mU _ (.inl q)).2.2.2.1 rfl,fun q=>(mU _ (.inr q)).2.2.2.1 rfl⟩,by omega,by omega,by simp[e9]⟩,?_⟩;rw[List.nodup_append];rw[eX]at vl;refine⟨vl,by simp[e9],?_⟩;intro x hx y hy e;have:=(mU x (List.mem_append.1 hx)).2.2.2.2;simp only[e9,List.map_nil,List.mem_cons,List.mem_nil_iff,or_false]at hy;omega
end Tl
end Go.Proofs.YtkkookchlddbkaaGreat
namespace Go.Proofs.YtkkookchlddbkaaGreat
open Go.Av
theorem lj{l:List SV}{n:Nat}(h:l.length=n){k:Nat}(hk:k<n):∃x,l[k]?=some x:=⟨l[k]'(by omega),List.getElem?_eq_getElem _⟩
theorem Dj{l:List SV}(h:l.length=2):∃x y,l=[x,y]:=by
 match l,h with
 | [x,y],_=>exact⟨x,y,rfl⟩
theorem BP{O:List ay}{u:cW}{m:Mach}{rest:List ae}(ht:Tl u m rest O)(hm:cz u m){v:SV}(hv:gK u m v)(id:Option Nat)(h:id=v.arr):∀x∈Mach.kh m.heap id,SV.bk O.length x:=fun x hx=>by
 subst h;cases SD:v.arr with
 | none =>
  rw[SD]at hx;have:∀l:List BC,Mach.kh l none=[]:=fun l=>by
   induction l with
   | nil=>rfl
   | cons a r ih=>simp[Mach.kh,ih]
  rw[this]at hx;simp at hx
 | some id =>
  obtain⟨a,ha,h1,h2⟩:=pb m.heap id (SV.Wf.ref hv id SD);rw[SD,h2]at hx;exact ht.under ((hm.iH a ha).2 x hx)
theorem Cp{u:cW}{m:Mach}{rest:List ae}{O:List ay}(ht:Tl u m rest O)(hm:cz u m)(ml:m.short=false){i:db}(hi:GH u i)(K2:i.op≠13)(K3:i.op≠14){args:List SV}(mT:args.length=i.args.length)(ha:∀v∈args,gK u m v) :
  ∃O2,aY Tryz.prog 85 O [.mp 2 0,i.enc,.aC 4 (args.map SV.enc) .sh] (fun r O3=>r=.c5 [(m.exec i args).2.1.enc,aI (m.exec i args).2.2]∧O3=O2)∧Tl u (m.exec i args).1 rest O2∧O.length<=O2.length:=by
 have bD:=ht.upto;have hl:∀v∈args,SV.bk O.length v:=fun v hv=>ht.under (ha v hv);have OL:∀v∈args,v.kind=0->gh v.n:=fun v hv hk=>SV.Wf.num (ha v hv) (.inl hk);have n6:m.left<=2 ^ 40:=by have:=hm.depth;omega
 have kq:=hi.op;have stay:∀{v:SV} {t:Int},m.exec i args=(m,v,t)->aY Tryz.prog 85 O [.mp 2 0,i.enc,.aC 4 (args.map SV.enc) .sh] (fun r O3=>r=.c5 [(m.exec i args).2.1.enc,aI (m.exec i args).2.2]∧O3=O) ->
   ∃O2,aY Tryz.prog 85 O [.mp 2 0,i.enc,.aC 4 (args.map SV.enc) .sh] (fun r O3=>r=.c5 [(m.exec i args).2.1.enc,aI (m.exec i args).2.2]∧O3=O2)∧Tl u (m.exec i args).1 rest O2∧O.length<=O2.length:=fun e hC =>
  ⟨O,hC,by rw[e];exact ht,Nat.le_refl _⟩
 by_cases h0:i.op=0
 ·exact stay (v:=.word i.n) (t:=0) (by simp[Mach.exec,h0]) (Hr (u:=u) bD i args hl h0)
 by_cases h1:1<=i.op∧i.op<=7
 ·have sc:=hi.c2 (.inl h1);obtain⟨x,hx⟩:=lj (mT.trans sc) (k:=0) (by omega);obtain⟨y,hy⟩:=lj (mT.trans sc) (k:=1) (by omega);have hC:=Co (u:=u) (m:=m) bD i args hl h1 x y hx hy (OL x (List.mem_of_getElem? hx)) (OL y (List.mem_of_getElem? hy));refine⟨O,hC,?_,Nat.le_refl _⟩;have e:(m.exec i args).1=m:=by
   unfold Mach.exec;rw[if_neg h0,if_pos h1];split<;>rfl
  rw[e];exact ht
 by_cases h8:i.op=8
 ·exact stay (v:=.mk 1 i.n args none) (t:=0) (by simp[Mach.exec,h8]) (Hq (u:=u) bD i args hl h8)
 by_cases h9:i.op=9
 ·exact stay (v:=.mk 2 i.n args none) (t:=0) (by simp[Mach.exec,h9]) (Fs (u:=u) bD i args hl h9)
 by_cases Hz:i.op=10∨i.op=11∨i.op=12∨i.op=21
 ·have hlen:0<args.length∧(i.op=21->args.length=2):=by
   rcases Hz with q|q|q|q
   ·have:=hi.c1 (by omega);omega
   ·have:=hi.c1 (by omega);omega
   ·have:=hi.c1 (by omega);omega
   have:=hi.c2 (by omega);omega
  obtain⟨x,hx⟩:=lj rfl hlen.1;obtain⟨q1,q2⟩:=vB (i:=i) ha;have hC:=A0 bD i args hl x hx (fun a b c=>lj (hlen.2 (by omega)) (by omega)) (fun e=>hi.Tq (.inl e));refine stay (v:=(dc i args).1) (t:=(dc i args).2) ?_ (Hs (u:=u) (m:=m) bD i args hl Hz hC (ht.under q1));unfold Mach.exec;rw[if_neg h0,if_neg h1,if_neg h8,if_neg h9,if_pos Hz]
 by_cases S3:i.op=22∨i.op=23∨i.op=24
 ·have h2:i.op≠22->i.op≠24->∃x y,args=[x,y]:=fun a b=>Dj (mT.trans (hi.c2 (by omega)));obtain⟨q1,q2⟩:=wi (i:=i) ha (fun e=>by have:=hi.pack e;omega) h2;have hC:=Bq bD i args hl (fun e=>lj (mT.trans (hi.c1 (by omega))) (by omega)) h2 (fun e=>hi.Tq (.inr e)) (fun v hv hk=>sO (ha v hv) hk);refine stay (v:=(dq i args).1) (t:=(dq i args).2) ?_ (Ht (u:=u) (m:=m) bD i args hl S3 hC (ht.under q1));unfold Mach.exec;rw[if_neg h0,if_neg h1,if_neg h8,if_neg h9,if_neg Hz,if_pos S3]
 by_cases vb:i.op=100
 ·obtain⟨x,hx⟩:=lj (mT.trans (hi.c1 (by omega))) (k:=0) (by omega);refine stay (v:=cR args 0) (t:=0) (by simp[Mach.exec,vb]) (Ft (u:=u) (m:=m) bD i args hl vb x hx)
 have FK:i.op≠10∧i.op≠11∧i.op≠12∧i.op≠21:=by omega
 have FL:i.op≠22∧i.op≠23∧i.op≠24:=by omega
 have lr:2<O.length:=ag ht.gT;have LX:=Aq m i args h0 h1 h8 h9 FK FL vb;have jh:=xp hm (i:=i) ha;by_cases yz:i.op=16
 ·obtain⟨x,y,e⟩:=Dj (mT.trans (hi.c2 (by omega)));subst e;have DT:=hl x (by simp);have SI:=hl y (by simp);have he:m.exec i [x,y]=m.bQ x y:=by
   rw[LX];simp[Mach.effect,yz,cR]
  rw[he];by_cases zH:x.kind=0∧0<=x.n∧x.n<=1024∧x.n<=m.left
  ·obtain⟨g1,g2,g3,g4⟩:=zH;have yJ:(m.gp x.n).short=false:=by simp[Mach.gp,show ¬m.left<x.n by omega,ml]
   have fm:m.bQ x y=({ m.gp x.n with heap:=m.heap++[⟨m.next+8,m.next+7,List.replicate x.n.toNat y⟩],next:=m.next+9 },.mk 3 0 [] (some (m.next+8)),0):=by
    unfold Mach.bQ;rw[if_neg (by omega),if_neg (by omega),if_neg (by simp[yJ])]
   have hC:=Lz bD ht.gT i x y DT SI yz hm.left n6 ml g1 g2 g3 g4;rw[fm];obtain⟨p1,p2,p3,p4,p5,p6,p7⟩:=ib m x.n;have HX:aD u ({ m.gp x.n with heap:=m.heap++[⟨m.next+8,m.next+7,List.replicate x.n.toNat y⟩],next:=m.next+9 }:Mach)=aD u (m.gp x.n):=rfl;have mV:=ht.Lm (List.replicate x.n.toNat y) ({ m.gp x.n with heap:=m.heap++[⟨m.next+8,m.next+7,List.replicate x.n.toNat y⟩],next:=m.next+9 }:Mach)
    [.gone,.cells [aI 3,aI 0,.aC 4 [] .sh,.mp (O.length+8) 0],.gone,.cells [aI 3,aI 0,.aC 4 [] .sh,.mp (O.length+8) 0],.gone,.gone,.cells [aI 3,aI 0,.aC 4 [] .ex,.mp (O.length+8) 0]] rfl (fun o ho=>by
     simp only[List.mem_cons,List.mem_nil_iff,or_false]at ho;rcases ho with rfl|rfl|rfl|rfl|rfl|rfl|rfl
     all_goals simp[ay.upto,aq,ae.upto]) (fun v hv=>by
     rw[(List.mem_replicate.1 hv).2];exact SI) p6 p1 rfl p3 rfl
   rw[HX]at mV;simp only[List.length_replicate]at mV;have T6:(SV.mk 3 0 [] (some (m.next+8))).enc=.agg [aI 3,aI 0,.aC 4 [] .sh,.mp (O.length+8) 0]:=by
    rw[SV.jM,ht.len];rfl
   refine⟨_,?_,mV,by simp⟩;simp only[T6];exact hC
  have gO:(m.bQ x y).2.1=.zero∧(m.bQ x y).1.sid=m.sid∧(m.bQ x y).1.frames=m.frames∧(m.bQ x y).1.heap=m.heap∧(m.bQ x y).1.out=m.out∧(m.bQ x y).1.next=m.next:=by
   obtain⟨p1,p2,p3,p4,p5,p6,p7⟩:=ib m x.n;unfold Mach.bQ;split
   ·simp
   split
   ·simp
   split
   ·exact⟨rfl,p6,p1,p2,p3,p7⟩
   rename_i a1 a2 a3;exfalso;refine zH ⟨by omega,by omega,by omega,?_⟩;by_cases q:m.left<x.n
   ·exact absurd (show(m.gp x.n).short=true by simp[Mach.gp,q]) a3
   omega
  obtain⟨b0,b1,b2,b3,b4,b5⟩:=gO;have hC:=Al bD ht.gT i x y DT SI yz hm.left n6 ml (fun z=>by rw[b0];simp[SV.zero,SV.arr]);have mV:=ht.pA (m.bQ x y).1 b1 b2 b3 (by rw[b4]) b5;exact⟨_,oE bD i [x,y] hl h0 h1 h8 h9 FK FL vb lr _ _ (by rw[b0];exact qI _) hC (by simp) mV.upto,mV,by simp⟩
 rw[LX];by_cases Oh:i.op=15
 ·obtain⟨x,hx⟩:=lj (mT.trans (hi.c1 (by omega))) (k:=0) (by omega);have hC:=yu bD ht.gT ht.outs i args hl Oh x hx hm.out;have gO:(m.effect i args).1.sid=m.sid∧(m.effect i args).1.frames=m.frames∧(m.effect i args).1.heap=m.heap∧(m.effect i args).1.next=m.next:=by
   unfold Mach.effect;rw[if_pos Oh];split
   ·simp
   split<;>simp
  obtain⟨b1,b2,b3,b4⟩:=gO;have mV:=ht.Qe (m.effect i args).1 b1 b2 b3 b4;have hv:SV.bk O.length (m.effect i args).2.1:=ht.under (jh.val.of_heap (by rw[b3]));exact⟨_,oE bD i args hl h0 h1 h8 h9 FK FL vb lr _ _ hv hC (by simp) mV.upto,mV,by simp⟩
 by_cases Oi:i.op=18
 ·obtain⟨x,y,e⟩:=Dj (mT.trans (hi.c2 (by omega)));subst e;have hC:=yt (u:=u) (m:=m) bD i x y (hl x (by simp)) (hl y (by simp)) lr Oi;have gO:(m.effect i [x,y]).1=m:=by
   unfold Mach.effect;rw[if_neg (by omega),if_neg (by omega),if_pos Oi];split
   ·rfl
   split<;>rfl
  have hv:SV.bk O.length (m.effect i [x,y]).2.1:=ht.under (jh.val.of_heap (by rw[gO]));exact⟨O,oE bD i [x,y] hl h0 h1 h8 h9 FK FL vb lr _ _ hv hC rfl bD,by rw[gO];exact ht,Nat.le_refl _⟩
 have hlen:0<args.length∧(i.op≠17->2<=args.length)∧(i.op≠17->i.op≠19->3<=args.length):=by
  rcases(show i.op=17∨i.op=19∨i.op=20 by omega)with q|q|q
  ·have:=hi.c1 (by omega);omega
  ·have:=hi.c2 (by omega);omega
  have:=hi.c3 (by omega);omega
 obtain⟨x,hx⟩:=lj rfl hlen.1;have OM:=List.mem_of_getElem? hx;obtain⟨O',hC,eo⟩:=Cl (m:=m) bD i args hl x hx Oh yz Oi (fun a=>lj rfl (hlen.2.1 a)) (fun a b=>lj rfl (hlen.2.2 a b)) (BP ht hm (ha x OM) _ rfl) (fun hk=>by
  obtain⟨a,GB,e1,e2⟩:=GP hm (ha x OM) hk;obtain⟨r1,r2⟩:=ht.arr GB;refine⟨a.l9,a.ou,e1,?_,?_⟩
  ·rw[e2];exact r1
  rw[e2];exact r2)
 rcases eo with⟨e1,e2⟩|⟨l9,ou,k,z,l,e1,e2,e3,e4,e5,e6,e7,e8⟩
 ·have hv:SV.bk O.length (m.effect i args).2.1:=ht.under (jh.val.of_heap (by rw[e2]));subst e1;exact⟨O',oE bD i args hl h0 h1 h8 h9 FK FL vb lr _ _ hv hC rfl bD,by rw[e2];exact ht,Nat.le_refl _⟩
 obtain⟨a,GB,f1,f2⟩:=pb m.heap l9 (SV.Wf.ref (ha x OM) l9 e1);have VL:l=a.l:=by rw[e5,e1,f2]
 obtain⟨r1,r2⟩:=ht.arr GB;have hb:ou=a.ou:=by
  rw[f1,e2]at r1;simp only[Option.some.injEq,ay.cells.injEq,List.cons.injEq,ae.ms.injEq]at r1;exact r1.1.1
 have mV:=ht.MB GB (l.set k z) (by rw[List.length_set,VL]) (fun v hv=>by
  rcases List.mem_or_eq_of_mem_set hv with q|q
  ·rw[VL]at q;exact ht.under ((hm.iH a GB).2 v q)
  rw[q];exact e6) (m.effect i args).1 (by rw[e8,e1,f1])
 rw[<-hb,<-e7]at mV;have VK:O.length=O'.length:=by rw[e7];simp
 have hv:SV.bk O.length (m.effect i args).2.1:=by
  have:=mV.under jh.val;rw[<-VK]at this;exact this
 exact⟨O',oE bD i args hl h0 h1 h8 h9 FK FL vb lr _ _ hv hC VK mV.upto,mV,by omega⟩
theorem Tl.of_eq{u:cW}{m m':Mach}{rest:List ae}{O O':List ay}(h:Tl u m rest O)(e:m'=m)(e':O'=O):Tl u m' rest O':=by
 subst e;subst e';exact h
theorem kB{f:Fr}{r:List Fr}{rest:List ae}:(fp (f::r)++rest)[r.length]?=some (.mp f.b9 0):=by
 have h:fp (f::r)=r.reverse.map (fun f=>ae.mp f.b9 0)++[.mp f.b9 0]:=by simp[fp]
 rw[h,List.append_assoc];have hl:(r.reverse.map (fun f=>ae.mp f.b9 0)).length=r.length:=by simp
 rw[List.getElem?_append_right (by omega),hl,Nat.sub_self];rfl
theorem Gj{f g:Fr}{r:List Fr}{rest:List ae}:(fp (f::g::r)++rest)[r.length]?=some (.mp g.b9 0):=by
 have h:fp (f::g::r)++rest=fp (g::r)++(.mp f.b9 0::rest):=by simp[fp]
 rw[h];exact kB
theorem Tl.apart{u:cW}{m:Mach}{rest:List ae}{O:List ay}(ht:Tl u m rest O){f:Fr}{r:List Fr}(cx:m.frames=f::r):f.b9≠2∧f.dR≠2∧f.b9≠f.dR:=by
 obtain⟨_,hk,vl,_⟩:=ht.others;rw[cx]at hk vl;refine⟨(hk f.b9 ?_).2.1,(hk f.dR ?_).2.1,?_⟩
 ·rw[eX];exact List.mem_append.2 (.inl (iu (Tl.pg (f:=f) (by simp)).1))
 ·rw[eX];exact List.mem_append.2 (.inl (iu (Tl.pg (f:=f) (by simp)).2))
 simp only[mS,List.cons_append,jP,List.nodup_cons,List.mem_cons,not_or]at vl;exact vl.1.1
theorem Tl.O8{u:cW}{m:Mach}{rest:List ae}{O:List ay}(ht:Tl u m rest O){g:Fr}(hg:g∈m.frames):g.b9≠2∧g.dR≠2:=by
 obtain⟨_,hk,vl,_⟩:=ht.others;refine⟨(hk g.b9 ?_).2.1,(hk g.dR ?_).2.1⟩
 ·rw[eX];exact List.mem_append.2 (.inl (iu (Tl.pg hg).1))
 rw[eX];exact List.mem_append.2 (.inl (iu (Tl.pg hg).2))
theorem xa(m:Mach)(f g:Fr):(m.bY f).bY g=m.bY g:=rfl
theorem rl{u:cW}{m:Mach}{rest:List ae}{O:List ay}(ht:Tl u m rest O)(hm:cz u m){f:Fr}{r:List Fr}(cx:m.frames=f::r){e:Edge}(he:xT (dg u f.fn) e) :
  ∃O',aY Tryz.prog 101 O [.mp 2 0,.mp f.b9 0,e.enc] (fun r O1=>r=.c5 []∧O1=O')∧Tl u (m.follow u f e) rest O'∧O.length=O'.length:=by
 have eV:=hm.frames f (by rw[cx];simp);obtain⟨t1,t2⟩:=ht.frame (f:=f) (by rw[cx];simp);obtain⟨n1,n2,n3⟩:=ht.apart cx;have hu:∀e∈f.vals,SV.bk O.length e.2:=fun e he=>ht.under (eV.vals e he);obtain⟨f',fA⟩:∃f',f' = { f with blk:=e.block,pos:=0,vals:=g5 f.vals (bU (dg u f.fn) e.block).params (gR f.vals e.args) }:=⟨_,rfl⟩
 have hC:=Aw ht.upto ht.gT f t1 t2 hu n1.symm n2.symm n3 eV.fn e he f' fA;have h1:=ht.bY (f':={ f' with vals:=f.vals }) cx (by rw[fA]) (by rw[fA]) rfl;have HK:aX { f' with vals:=f.vals }=aX f':=rfl;rw[HK]at h1;have h2:=h1.zl (f:={ f' with vals:=f.vals }) (f':=f') (r:=r) (by simp[Mach.bY,cx]) rfl (by
  rw[List.length_set,fA];intro x hx;rcases la hx with q|q
  ·exact hu x q
  exact oZ hu e.args _ q)
 rw[xa]at h2;have wS:f'.dR=f.dR:=by rw[fA]
 have fm:m.follow u f e=m.bY f':=by rw[fA];rfl
 rw[fm];refine⟨_,hC,?_,by simp⟩;exact h2.of_eq rfl (by rw[<-wS])
theorem yw{u:cW}{m:Mach}{rest:List ae}{O:List ay}(ht:Tl u m rest O)(hm:cz u m){f:Fr}{r:List Fr}(cx:m.frames=f::r){t:Term}(QS:xZ (dg u f.fn) t) :
  ∃O' A8,aY Tryz.prog 82 O [.mp 2 0,.mp f.b9 0,t.enc] (fun r O1=>r=.c5 []∧O1=O')∧Tl u (m.finish u f t) A8 O'∧O.length=O'.length:=by
 have eV:=hm.frames f (by rw[cx];simp);obtain⟨t1,t2⟩:=ht.frame (f:=f) (by rw[cx];simp);obtain⟨n1,n2,n3⟩:=ht.apart cx;obtain⟨_,_,_,s1,s2,s3,s4,s5⟩:=ht.others;have hu:∀e∈f.vals,SV.bk O.length e.2:=fun e he=>ht.under (eV.vals e he);have hk:=QS.kind;unfold Mach.finish;by_cases h4:t.kind=4
 ·rw[if_pos h4];exact⟨_,rest,Hn ht.upto ht.gT f t1 t2 hu n3 t h4,ht.pA (m.stop t.n 0) rfl rfl rfl rfl rfl,by simp⟩
 rw[if_neg h4];by_cases h1:t.kind=1
 ·rw[if_pos h1];have hl:=QS.Mu h1;have he:t.to[0]?=some (t.to[0]'(by omega)):=List.getElem?_eq_getElem _;obtain⟨O',q1,q2,q3⟩:=rl ht hm cx (QS.xo _ (List.mem_of_getElem? he));refine⟨O',rest,Hl ht.upto ht.gT f t1 t2 hu n3 t h1 _ he q1 q3 q2.upto,?_,q3⟩;rw[he];exact q2
 rw[if_neg h1];by_cases h0:t.kind=0
 ·rw[if_pos h0];have hv:=yx eV.vals t.arg;have qn:=ht.under hv;cases hr:r with
  | nil =>
   subst hr;have hC:=CO ht.upto ht.gT f cx (ag t1) _ qn;have mV:=ht.last cx (m.leave f (jN f.vals t.arg)) (by simp[Mach.leave,cx,Mach.stop]) (by simp[Mach.leave,cx,Mach.stop]) (by simp[Mach.leave,cx,Mach.stop]) (by simp[Mach.leave,cx,Mach.stop]) (by simp[Mach.leave,cx,Mach.stop]);exact⟨_,_,DG ht.upto ht.gT f t1 t2 hu n3 t h0 hC (by simp) mV.upto,mV,by simp⟩
  | cons g r' =>
   subst hr;have hg:g∈m.frames:=by rw[cx];simp
   obtain⟨g1,g2⟩:=ht.frame hg;obtain⟨k1,k2⟩:=ht.O8 hg;have Tb:∀e∈g.vals,SV.bk O.length e.2:=fun e he=>ht.under ((hm.frames g hg).vals e he);have pj:r'.length<=2 ^ 40:=by
    have h1:=hm.depth;have h2:=hm.left;rw[cx]at h1;simp only[List.length_cons]at h1;omega
   have eo:=ht.stack;rw[cx]at eo;have hC:=CP ht.upto ht.gT f g r' cx t1 g1 g2 Tb eo Gj s2 pj n1 k1 k2 _ qn;have fm:m.leave f (jN f.vals t.arg) = { m with frames:={ g with vals:=fZ g.vals f.to (jN f.vals t.arg) }::r' }:=by
    unfold Mach.leave;rw[cx];rfl
   have mV:=ht.pop (g':={ g with vals:=fZ g.vals f.to (jN f.vals t.arg) }) cx rfl (fun x hx=>by
    rcases jT hx with q|q
    ·exact Tb x q
    rw[q];exact qn) _ fm
   exact⟨_,_,DG ht.upto ht.gT f t1 t2 hu n3 t h0 hC (by simp) mV.upto,mV,by simp⟩
 rw[if_neg h0];by_cases hV:(jN f.vals t.arg).kind=0
 ·rw[if_neg (by simp[hV])];obtain⟨e,he⟩:=xk QS h0 h1 h4 (jN f.vals t.arg).n;obtain⟨O',q1,q2,q3⟩:=rl ht hm cx (QS.xo _ (List.mem_of_getElem? he));refine⟨O',rest,Cm ht.upto ht.gT f t1 t2 hu n3 t ⟨h0,h1,h4⟩ hV (by have:=QS.cl;omega) e he q1 q3 q2.upto,?_,q3⟩;rw[he];exact q2
 rw[if_pos hV];exact⟨_,rest,Ho ht.upto ht.gT f t1 t2 hu n3 t ⟨h0,h1,h4⟩ hV,ht.pA (m.stop 5 0) rfl rfl rfl rfl rfl,by simp⟩
theorem Df{u:cW}{m:Mach}{rest:List ae}{O:List ay}(hu:mX u)(ht:Tl u m rest O)(hm:cz u m)(ho:m.over=false)(hd:m.frames.length+m.left+1<=2 ^ 40) :
  ∃O' A8,aY Tryz.prog 50 O [.mp 2 0] (fun r O1=>r=.c5 []∧O1=O')∧Tl u (m.step u) A8 O'∧O.length<=O'.length:=by
 obtain⟨cA,ml⟩:=hm.over ho;unfold Mach.step;cases cx:m.frames with
 | nil=>exact absurd cx cA
 | cons f r =>
  have eV:=hm.frames f (by rw[cx];simp);obtain⟨t1,t2⟩:=ht.frame (f:=f) (by rw[cx];simp);obtain⟨n1,n2,n3⟩:=ht.apart cx;obtain⟨_,_,_,s1,s2,s3,s4,s5⟩:=ht.others;have P3:∀e∈f.vals,SV.bk O.length e.2:=fun e he=>ht.under (eV.vals e he);have eo:=ht.stack;rw[cx]at eo;have pj:r.length<=2 ^ 40:=by
   have h2:=hm.left;rw[cx]at hd;simp only[List.length_cons]at hd;omega
  have hF:=lQ eV.fn.1 eV.fn.2;have hB:=gx eV.blk.1 eV.blk.2;have Ps:=hu.blocks _ (mE eV.fn.1 eV.fn.2) _ (pc eV.blk.1 eV.blk.2);simp only;cases hi:(bU (dg u f.fn) f.blk).ins[f.pos]? with
  | none =>
   have lu:f.pos=(bU (dg u f.fn) f.blk).ins.length:=by
    have:=List.getElem?_eq_none_iff.1 hi;have:=eV.pos;omega
   obtain⟨O',A8,q1,q2,q3⟩:=yw ht hm cx Ps.term;exact⟨O',A8,step_end ht.upto ht.gT f r cx t1 n1 eo kB pj _ hF eV.fn.1 _ hB eV.blk.1 lu q1 (by omega) q2.upto,q2,by omega⟩
  | some i =>
   simp only;have CC:=Ps.ins i (List.mem_of_getElem? hi);have aN:=ag hi;have zF:=Ps.len;obtain⟨f',fA⟩:∃f',f' = { f with pos:=f.pos+1 }:=⟨_,rfl⟩
   rw[<-fA];have Lc:f'.vals=f.vals:=by rw[fA]
   have ko:f'.b9=f.b9:=by rw[fA]
   have wS:f'.dR=f.dR:=by rw[fA]
   obtain⟨O1,ff⟩:∃O1,O1=O.set f.b9 (.cells (aX f')):=⟨_,rfl⟩
   have h1:=ht.bY (f':=f') cx ko wS Lc;rw[<-ff]at h1;have eZ:O.length=O1.length:=by rw[ff];simp
   have ni:n7 u m f':=by
    rw[fA];exact⟨eV.fn,eV.blk,aN,eV.vals⟩
   have nk:cz u (m.bY f'):=hm.bY cA ni;have R0:(m.bY f').frames=f'::r:=by simp[Mach.bY,cx]
   have HX:aD u (m.bY f')=aD u m:=by simp[aD,Mach.bY,cx]
   have tO:O1[2]?=some (.cells (aD u m)):=by rw[<-HX];exact h1.gT
   obtain⟨args,dt⟩:∃args,args=gR f.vals i.args:=⟨_,rfl⟩
   rw[<-dt];have mT:args.length=i.args.length:=by rw[dt];exact sL _ _
   have S7:∀v∈args,gK u (m.bY f') v:=by
    rw[dt];exact fun v hv=>(r3 eV.vals i.args v hv).of_heap (by rfl)
   have Pq:∀v∈args,SV.bk O1.length v:=fun v hv=>h1.under (S7 v hv);have P1:=h1.stack;have T4:(m.bY f').frames.length<=2 ^ 41:=by
    rw[R0];simp only[List.length_cons];omega
   have OC:∀fn:Int,0<=fn∧fn<u.fns.length->(bU (dg u fn) 0).params.length=args.length ->
     ∃O',aY Tryz.prog 48 O1 [.mp 2 0,aI fn,.aC 4 (args.map SV.enc) .sh,aI i.to] (fun r O2=>r=.c5 []∧O2=O')∧Tl u ((m.bY f').enter u fn args i.to) [] O'∧O.length<=O'.length:=fun fn rA hp=>by
    have hC:=Cn h1.upto h1.gT P1 (by simp[fp]) s2 h1.len T4 fn rA (hu.ne _ (mE rA.1 rA.2)).1 args Pq hp i.to;have mV:=h1.push fn i.to args _ rfl Pq;exact⟨_,hC,mV,by simp;omega⟩
   unfold Mach.act;by_cases K2:i.op=13
   ·rw[if_pos K2];obtain⟨c1,c2,c3⟩:=CC.call K2;obtain⟨O',q1,q2,q3⟩:=OC i.n ⟨c1,c2⟩ (by rw[mT];exact c3);exact⟨O',[],Gk ht.upto ht.gT f r cx t1 n1 eo kB pj _ hF eV.fn.1 _ hB eV.blk.1 t2 n3 P3 i hi (by omega) CC.len f' fA args dt O1 ff K2 q1 q3 q2.upto,q2,q3⟩
   rw[if_neg K2];by_cases K3:i.op=14
   ·rw[if_pos K3];obtain⟨c,hc⟩:=lj (mT.trans rfl) (k:=0) (by have:=CC.app K3;omega);have QI:=gi hc;rw[QI];have GC:=S7 c (List.mem_of_getElem? hc);have mV:=h1.pA ((m.bY f').stop 5 0) rfl rfl rfl rfl rfl;have ku:aD u ((m.bY f').stop 5 0)=aD u (m.stop 5 0):=by simp[aD,Mach.bY,Mach.stop,cx]
    by_cases hk:c.kind=2
    ·obtain⟨k1,k2⟩:=SV.Wf.fn GC hk;have hG:=lQ k1 k2;have hD:(dg u c.n).blocks[0]?=some (bU (dg u c.n) 0):=by
      obtain⟨z1,z2⟩:=Re hu k1 k2;exact gx z1 z2
     by_cases hp:(bU (dg u c.n) 0).params.length=args.length
     ·rw[if_pos ⟨hk,hp⟩];obtain⟨O',q1,q2,q3⟩:=OC c.n ⟨k1,k2⟩ hp;exact⟨O',[],IL ht.upto ht.gT f r cx t1 n1 eo kB pj _ hF eV.fn.1 _ hB eV.blk.1 t2 n3 P3 i hi (by omega) CC.len f' fA args dt O1 ff K3 c hc hk k1 _ hG _ hD hp Pq q1 q3 q2.upto tO,q2,q3⟩
     rw[if_neg (fun q=>hp q.2)];refine⟨_,rest,zo ht.upto ht.gT f r cx t1 n1 eo kB pj _ hF eV.fn.1 _ hB eV.blk.1 t2 n3 P3 i hi (by omega) CC.len f' fA args dt O1 ff K3 c hc hk k1 _ hG _ hD hp Pq tO,?_,by simp;omega⟩;rw[<-ku];exact mV
    rw[if_neg (fun q=>hk q.1)];refine⟨_,rest,xc ht.upto ht.gT f r cx t1 n1 eo kB pj _ hF eV.fn.1 _ hB eV.blk.1 t2 n3 P3 i hi (by omega) CC.len f' fA args dt O1 ff K3 c hc hk Pq tO,?_,by simp;omega⟩;rw[<-ku];exact mV
   rw[if_neg K3];have UF:(m.bY f').short=false:=ml;obtain⟨O2,q1,q2,q3⟩:=Cp h1 nk UF CC K2 K3 mT S7;have jh:=yv nk CC mT S7;generalize (m.bY f').exec i args=R at *;have PE:R.1.frames=f'::r:=by rw[jh.frames,R0]
   obtain⟨w1,w2⟩:=q2.frame (f:=f') (by rw[PE];simp);rw[ko]at w1;rw[wS,Lc]at w2;have qn:=q2.under jh.val;have yN:∀e∈f.vals,SV.bk O2.length e.2:=fun e he=>(P3 e he).mono (by omega);have V0:∀e∈fZ f.vals i.to R.2.1,SV.bk O2.length e.2:=fun x hx=>by
    rcases jT hx with q|q
    ·exact yN x q
    rw[q];exact qn
   unfold Mach.settle;rw[Lc];by_cases QR:R.2.2=0
   ·rw[if_neg (by simp[QR])];have hC:=Gl ht.upto ht.gT f r cx t1 n1 eo kB pj _ hF eV.fn.1 _ hB eV.blk.1 t2 n3 P3 i hi (by omega) CC.len f' fA args dt O1 ff ⟨K2,K3⟩ R.2.1 R.2.2 q1 (by omega) q2.upto qn R.1 q2.gT w1 w2 yN n2 QR;have mV:=q2.zl (f':={ f' with vals:=fZ f.vals i.to R.2.1 }) PE rfl V0;exact⟨_,rest,hC,mV.of_eq rfl (by rw[wS]),by simp;omega⟩
   rw[if_pos QR];have hC:=Gn ht.upto ht.gT f r cx t1 n1 eo kB pj _ hF eV.fn.1 _ hB eV.blk.1 t2 n3 P3 i hi (by omega) CC.len f' fA args dt O1 ff ⟨K2,K3⟩ R.2.1 R.2.2 q1 (by omega) q2.upto qn R.1 q2.gT w1 w2 yN n2 QR;have q4:=q2.pA (R.1.stop R.2.2 0) rfl rfl rfl rfl rfl;have mV:=q4.zl (f':={ f' with vals:=fZ f.vals i.to R.2.1 }) PE rfl (by
    rw[List.length_set];exact V0)
   exact⟨_,rest,hC,mV.of_eq rfl (by rw[wS]),by simp;omega⟩
def QC.enc(a:QC):ae:=.c5 [.agg [.aC 1 (a.out.map aI) .sh,aI a.fin,aI a.val],aI a.n,aI a.e]
theorem Ck{f:FuncId}{O:List ay}{a b d:ae}{sz:Nat}{R:ae->List ay->Prop}(h:aY Tryz.prog f O [a,b,.aC sz [] .sh,d] R):aY Tryz.prog f O [a,b,.v (.slice none 0 0),d] R :=
 ⟨h.1,fun g vs hg ho ha=>h.2 g vs hg ho ⟨ha.1,fun i c u hc hu=>by
  match i,hc,hu with
  | 0,hc,hu=>exact ha.2 0 c u hc hu
  | 1,hc,hu=>exact ha.2 1 c u hc hu
  | 2,hc,hu =>
   simp only[List.getElem?_cons_succ,List.getElem?_cons_zero,Option.some.injEq]at hc;subst hc;have:=(ha.2 2 _ u rfl hu).cL.1;subst this;exact .nil (fun id e=>by cases e) (by simp)
  | 3,hc,hu=>exact ha.2 3 c u hc hu
  | i+4,hc,_=>simp at hc⟩⟩
theorem IK{u:cW}(hu:mX u){fuel:Int}(h0:0<=fuel)(h1:fuel<=1000000):cz u ((Mach.start fuel).enter u u.main [] 0):=by
 have hs:cz u { Mach.start fuel with over:=true } :=
  ⟨by simp[Mach.start],by simp[Mach.start],h0,by simp[Mach.start];omega,by simp[Mach.start],by simp[Mach.start],by simp[Mach.start],by simp[Mach.start,gh],by simp[Mach.start],by simp⟩
 have h:=hs.enter hu (by simp) (by simp[Mach.start];omega) hu.main (args:=[]) (by simp) 0;exact⟨fun f hf=>(h.frames f hf).of_heap (by rfl),fun a ha=>by simp[Mach.start,Mach.enter]at ha,h.left,h.depth,h.out,h.words,h.fin,h.val,h.done,fun _=>⟨by simp[Mach.enter],rfl⟩⟩
theorem Bi{u:cW}(hu:mX u){fuel:Int}(hp:(bU (dg u u.main) 0).params=[]):Tl u ((Mach.start fuel).enter u u.main [] 0) [] [.gone,.cells [.aC 1 [] .ex,aI 0,aI 0],.cells (aD u ((Mach.start fuel).enter u u.main [] 0)),.spare 0,.map (.int .i64) [],.cells [aI u.main,aI 0,aI 0,aI 0,.mm 4],.cells [.mp 5 0]] where
 len:=rfl
 upto:=by simp[ay.upto,aq,kC,ae.upto,aD,Func.an,Mach.enter,Mach.start]
 holds:=by
  intro p FN;simp only[cp,Mach.enter,Mach.start,mS,eK,hp,g5,List.append_nil,List.mem_cons,List.mem_nil_iff,or_false,List.mem_append]at FN;rcases FN with rfl|rfl|rfl|rfl|rfl|rfl
  all_goals rfl
 nodup:=by
  simp[e9,cp,Mach.enter,Mach.start,mS,eK]
theorem Iy{u:cW}{m:Mach}(h:m.over=true)(k:Nat):Mach.run u k m=m:=by
 cases k with
 | zero=>rfl
 | succ k=>simp[Mach.run,h]
theorem y5{u:cW}(hu:mX u){fuel:Int}(GD:0<=fuel)(ni:fuel<=1000000):aV Tryz.prog 24 [u.enc,aI fuel] (vH u fuel).enc:=by
 have hp:=hu.none;have HH:=Ck (Ao (fuel:=fuel) hu.main (hu.ne _ (mE hu.main.1 hu.main.2)).1 hp 4 .sh);have eo:=Bi hu (fuel:=fuel) hp;have UI:=IK hu GD ni;obtain⟨K,hK⟩:∃K,K=fuel.toNat+2:=⟨_,rfl⟩
 obtain⟨E,hE⟩:∃E,E=Mach.run u K ((Mach.start fuel).enter u u.main [] 0):=⟨_,rfl⟩
 have fm:vH u fuel=if E.short then⟨[],0,0,0,13⟩else⟨E.out,E.fin,E.val,fuel-E.left,0⟩:=by
  rw[hE,hK];rfl
 rw[fm];have Ou:((Mach.start fuel).enter u u.main [] 0).left=fuel:=rfl;unfold yW at HH;generalize lr:(Mach.start fuel).enter u u.main [] 0=m0 at *;refine zf true 0 Tryz.func24 Tryz.ntmps24 ?_;dsimp only[Tmp,TypeId,ax];refine aB (av ?_);refine aR 2 0 (.ip none [cc u.fns,aI u.main]) rfl (by simp[ay.aP]) trivial rfl ?_ ?_;rotate_left;simp -dsimp only[simprocAttr,↓aa,zp]
 ·refine aB (av ?_);refine gZ 2 6 rfl rfl ?_;simp -dsimp only[simprocAttr,↓aa,zp];refine aB ?_;refine .inr (.inl ⟨_,_,HH,.inl (ah (zj ?_))⟩);refine av ?_;refine aG (aj (aO (ι:={p:Mach×List ae×List ay // cz u p.1∧Tl u p.1 p.2.1 p.2.2∧p.1.left<=fuel∧∃k,p.1.left.toNat+2<=k∧Mach.run u k p.1=E}) (fun p=>⟨45,[(1,aI fuel),(4,.mp 1 0),(5,aI 0),(6,aI 0),(7,.mp 2 0)],p.1.2.2⟩) (fun p=>p.1.1.left.toNat) ⟨(m0,[],_),UI,eo,by simp only[Ou];omega,K,by simp only[Ou];omega,hE.symm⟩ ?_ ?_))
  ·refine zq rfl ?_ ?_;simp -dsimp only[simprocAttr,↓aa,zp,zc];rfl
  rintro⟨⟨m,rest,O⟩,hm,ht,WS,k,hk,bS⟩;simp only at hm ht WS hk bS;have HY:=ht.gT;unfold aD at HY;have Wu:=hm.depth;have Te:=hm.left;have yK:O[1]?=some (.cells [.aC 1 [] .ex,aI 0,aI 0]):=ht.holds (1,_) (by simp[cp]);have wV:=dK yK;have FJ:=ag ht.gT;have wT:=vG ht.upto ht.gT 1 Te (by omega) (by omega);cases wv:m.over with
  | true =>
   rw[Iy wv]at bS;subst bS;rw[wv]at HY;refine cg ?_;simp -dsimp only[simprocAttr,↓aa,zp,HY];refine av ?_;refine cB rfl ?_;refine aM ?_;simp -dsimp only[ai,ne_eq,Nat.reduceEqDiff,reduceCtorEq];cases ml:m.short with
   | true =>
    rw[ml]at HY;refine cg ?_;simp -dsimp only[simprocAttr,↓aa,zp,HY];refine av ?_;refine de rfl ?_;refine aH ?_;simp -dsimp only[simprocAttr,↓aa,zp,yK];refine av ?_;refine ak ?_;simp -dsimp only[simprocAttr,↓aa,zp,zr,Tryz.results24,wV];exact⟨by simp[aq,ae.upto],rfl⟩
   | false =>
    rw[ml]at HY;refine cg ?_;simp -dsimp only[simprocAttr,↓aa,zp,HY];refine av ?_;refine cB rfl ?_;refine eH ?_;refine aH ?_;simp -dsimp only[simprocAttr,↓aa,zp,HY,yK]
    repeat(refine⟨by omega,?_⟩)
    refine⟨cN [1,2] O.length [.pure,.pure,.pure,.rd 1,.pure,.pure,.pure,.pure,.rd 1,.pure,.wr 2 [0],.pure,.pure] (by simp) (by simp;omega) rfl rfl (by kernel_rfl),I ?_⟩;simp -dsimp only[ai,ne_eq,Nat.reduceEqDiff,reduceCtorEq];refine ak ?_;simp -dsimp only[simprocAttr,↓aa,zp,zr,Tryz.results24,wV];exact⟨by simp[aq,ae.upto,aL],rfl⟩
  | false =>
   obtain⟨k,rfl⟩:∃j,k=j+1:=⟨k-1,by omega⟩
   have DP:(if(m.gp 1).short then m.gp 1 else Mach.run u k (Mach.step u (m.gp 1)))=E:=by
    rw[<-bS];simp[Mach.run,wv]
   have Lb:=ht.pA (m.gp 1) (ib m 1).2.2.2.2.2.1 (ib m 1).1 (ib m 1).2.1 (by rw[(ib m 1).2.2.1]) (ib m 1).2.2.2.2.2.2;have tO:=Lb.gT;have Ss:(O.set 2 (.cells (aD u (m.gp 1))))[1]?=some (.cells [.aC 1 [] .ex,aI 0,aI 0]):=Lb.holds (1,_) (by simp[cp]);have Su:=dK Ss;rw[wv]at HY;by_cases CD:m.left<1
   ·have yJ:(m.gp 1).short=true:=by simp[Mach.gp,CD]
    rw[yJ,if_pos rfl]at DP;have Wg:E.short=true:=by
     rw[<-DP];exact yJ
    obtain⟨O1,ff⟩:∃O1,O1=O.set 2 (.cells (aD u (m.gp 1))):=⟨_,rfl⟩
    rw[<-ff]at wT tO Ss;simp only[<-ff]at Su;unfold aD at tO;rw[yJ]at tO;refine cg ?_;simp -dsimp only[simprocAttr,↓aa,zp,HY];refine av ?_;refine de rfl ?_;refine eH ?_;refine aj ?_;refine aB ?_;refine .inr (.inl ⟨_,_,wT,.inl (ah (zj ?_))⟩);refine av ?_;refine cg ?_;simp -dsimp only[simprocAttr,↓aa,zp,tO];refine av ?_;refine de rfl ?_;refine aH ?_;simp -dsimp only[simprocAttr,↓aa,zp,Ss];refine av ?_;refine ak ?_;simp -dsimp only[simprocAttr,↓aa,zp,zr,Tryz.results24,Su,Wg];exact⟨by simp[aq,ae.upto],rfl⟩
   have HV:m.gp 1 = { m with left:=m.left-1 }:=by simp[Mach.gp,CD]
   have yJ:(m.gp 1).short=false:=by
    rw[HV];exact(hm.over wv).2
   have PS:(m.gp 1).over=false:=by
    rw[HV];exact wv
   have nk:cz u (m.gp 1):=by
    rw[HV];exact⟨fun f hf=>(hm.frames f hf).of_heap (by rfl),fun a ha=>⟨(hm.iH a ha).1,fun v hv=>((hm.iH a ha).2 v hv).of_heap (by rfl)⟩,by simp;omega,by simp;omega,hm.out,hm.words,hm.fin,hm.val,hm.done,fun h=>hm.over h⟩
   have vf:(m.gp 1).frames.length+(m.gp 1).left+1<=2 ^ 40:=by
    rw[HV];simp;omega
   obtain⟨O2,SP,q1,q2,q3⟩:=Df hu Lb nk PS vf;have OE:=nk.step hu PS vf;have wx:(Mach.step u (m.gp 1)).left<=m.left-1:=by
    have:=Gm u (m.gp 1) nk hu PS;rw[HV]at this ⊢;exact this
   have W7:=OE.left;rw[yJ,if_neg (by simp)]at DP;obtain⟨O1,ff⟩:∃O1,O1=O.set 2 (.cells (aD u (m.gp 1))):=⟨_,rfl⟩
   rw[<-ff]at wT tO q1;unfold aD at tO;rw[yJ]at tO;refine cg ?_;simp -dsimp only[simprocAttr,↓aa,zp,HY];refine av ?_;refine de rfl ?_;refine eH ?_;refine aj ?_;refine aB ?_;refine .inr (.inl ⟨_,_,wT,.inl (ah (zj ?_))⟩);refine av ?_;refine cg ?_;simp -dsimp only[simprocAttr,↓aa,zp,tO];refine av ?_;refine cB rfl ?_;refine eH ?_;refine du ?_;refine .inr (.inl ⟨_,_,q1,.inl (ah (zj ?_))⟩);refine XC ?_;refine⟨⟨(Mach.step u (m.gp 1),SP,O2),OE,q2,by simp only;omega,k,by simp only;omega,DP⟩,by simp only;omega,?_⟩;refine zq rfl ?_ ?_;simp -dsimp only[simprocAttr,↓aa,zp,zc];rfl
 exact da.mp rfl rfl
theorem uJ{u:cW}:∀{l:List db},uI u l=0->∀i∈l,lk u i=0
 | [],_,f,h=>by simp at h
 | g::r,h,f,hf=>by
  have:=vD h;rcases List.mem_cons.1 hf with q|q
  ·subst q;exact this.1
  exact uJ this.2 f q
theorem uG{u:cW}:∀{l:List Block},sf u l=0->∀b∈l,∀i∈b.ins,lk u i=0
 | [],_,f,h=>by simp at h
 | g::r,h,f,hf=>by
  have:=vD h;rcases List.mem_cons.1 hf with q|q
  ·subst q;exact uJ this.1
  exact uG this.2 f q
theorem uH{u:cW}:∀{l:List Func},qb u l=0->∀f∈l,∀b∈f.blocks,∀i∈b.ins,lk u i=0
 | [],_,f,h=>by simp at h
 | g::r,h,f,hf=>by
  have:=vD h;rcases List.mem_cons.1 hf with q|q
  ·subst q;exact uG this.1
  exact uH this.2 f q
theorem GV{u:cW}{i:db}(h:lk u i=0):(i.op=13∨i.op=9->i.n<u.fns.length)∧(i.op=13->(bU (dg u i.n) 0).params.length=i.args.length)∧(i.op=9->(bU (dg u i.n) 0).params.length≠0):=by
 unfold lk at h;split at h
 ·exact⟨by omega,by omega,by omega⟩
 split at h
 ·simp at h
 split at h
 ·simp at h
 exact⟨by omega,by omega,by omega⟩
structure Q7(u:cW):Prop where
 By:u.fns.length<=256
 main:0<=u.main∧u.main<u.fns.length
 none:(bU (dg u u.main) 0).params=[]
 fns:∀f∈u.fns,Tv f
 calls:∀f∈u.fns,∀b∈f.blocks,∀i∈b.ins,lk u i=0
theorem Hc{u:cW}(iA:u.fit)(h:mg u=0):Q7 u:=by
 unfold mg at h;split at h
 ·simp at h
 split at h
 ·simp at h
 split at h
 ·simp at h
 rename_i h3;have h4:=vD h;have h5:=h4.2;split at h5
 ·simp at h5
 rename_i h6;have hw:0<=u.main∧u.main<=(u.fns.length:Int)-1:=by simpa[within]using h3
 refine⟨by omega,by omega,List.length_eq_zero_iff.1 (by omega),fun f hf=>qY (iA.2.2 f hf) (qk h4.1 f hf),uH h5⟩
theorem N'{u:cW}(iA:u.fit)(h:mg u=0):mX u:=by
 have hw:=Hc iA h;refine⟨hw.main,hw.By,hw.none,fun f hf=>⟨(hw.fns f hf).ne,by have:=(hw.fns f hf).By;omega⟩,fun f hf b hb=>?_⟩;have hF:=hw.fns f hf;have hB:=hF.blk b hb;have hE:=Pe hB.fin;refine⟨fun i hi=>?_,⟨hE.kind,?_,hE.Mu,hE.cond,hE.switch,fun e he=>?_,by have:=hE.cases;omega⟩,by have:=hF.ins b hb;omega⟩
 ·have lS:=DH (hB.Og i hi);have hc:=GV (hw.calls f hf b hb i hi);have VH:=((iA.2.2 f hf).2.2 b hb).2.2.2.1 i hi;have hlen:=lS.len;refine⟨.inl lS.op,by omega,⟨VH.1,VH.2.2.1⟩,fun q=>(lS.c0 q).1,lS.c2,fun q=>lS.c1 (by have:=lS.op;omega),lS.c3,fun q=>⟨?_,hlen⟩,fun q=>?_,fun q=>?_,lS.app,lS.Tq,fun _=>hlen,lS.vec⟩
  ·have:=lS.gu q;unfold gh;omega
  ·have:=lS.call (.inl q);have:=hc.1 (.inr q);exact⟨by omega,by omega,hlen⟩
  have:=lS.call (.inr q);exact⟨by omega,hc.1 (.inl q),hc.2.1 q⟩
 ·by_cases h4:b.term.kind=4
  ·have:=hE.N8 h4;omega
  have:=hE.n h4;omega
 have pk:=hE.xo e he;have hm:=pc (f:=f) (k:=e.block) (by omega) (by omega);have:=(hF.blk _ hm).By;exact⟨by omega,by omega,pk.2,by omega⟩
def runM(u:cW)(fuel:Int):QC :=
 if mg u≠0 then⟨[],0,0,0,mg u⟩
 else if within fuel 1 1000000=false then⟨[],0,0,0,4⟩
 else vH u fuel
theorem vO(u:cW)(iA:u.fit)(fuel:Int):aV Tryz.prog 9 [u.enc,aI fuel] (runM u fuel).enc:=by
 have wP:=nf u iA;have hw:=eh fuel 1 1000000;obtain⟨R,hR⟩:∃R,R=runM u fuel:=⟨_,rfl⟩
 rw[<-hR];unfold runM at hR;by_cases hc:mg u=0
 ·rw[if_neg (by simp[hc])]at hR;have hu:=N' iA hc;rw[hc]at wP;cases H7:within fuel 1 1000000 with
  | false =>
   rw[if_pos H7]at hR;rw[H7]at hw;refine zf true 0 Tryz.func9 Tryz.ntmps9 ?_;dsimp only[Tmp,TypeId,ax];refine aB (av ?_);refine aR 2 0 (.ip none [cc u.fns,aI u.main]) rfl (by simp[ay.aP]) trivial rfl ?_ ?_;rotate_left;simp -dsimp only[simprocAttr,↓aa,zp]
   ·refine cj ?_;refine zi wP ?_;refine av ?_;refine aB (av ?_);refine cB rfl ?_;refine eH ?_;refine cj ?_;refine zi hw ?_;refine av ?_;refine de rfl ?_;refine aB (av ?_);refine ak ?_;simp -dsimp only[simprocAttr,↓aa,zp,zr,Tryz.results9];rw[hR];exact⟨by simp[aq,ae.upto],rfl⟩
   exact da.mp rfl rfl
  | true =>
   rw[if_neg (by simp[H7])]at hR;have Xd:=ja.1 H7;have PV:=y5 hu (fuel:=fuel) (by omega) Xd.2;rw[<-hR]at PV;unfold QC.enc at PV;rw[H7]at hw;refine zf true 0 Tryz.func9 Tryz.ntmps9 ?_;dsimp only[Tmp,TypeId,ax];refine aB (av ?_);refine aR 2 0 (.ip none [cc u.fns,aI u.main]) rfl (by simp[ay.aP]) trivial rfl ?_ ?_;rotate_left;simp -dsimp only[simprocAttr,↓aa,zp]
   ·refine cj ?_;refine zi wP ?_;refine av ?_;refine aB (av ?_);refine cB rfl ?_;refine eH ?_;refine cj ?_;refine zi hw ?_;refine av ?_;refine cB rfl ?_;refine eH ?_;refine aB ?_;refine zi PV ?_;refine av ?_;refine ak ?_;simp -dsimp only[simprocAttr,↓aa,zp,zr,Tryz.results9];exact⟨by simp[aq,ae.upto,aL],rfl⟩
   exact da.mp rfl rfl
 rw[if_pos hc]at hR;obtain⟨e,he⟩:∃e,e=mg u:=⟨_,rfl⟩
 rw[<-he]at hc wP hR;have Bz:decide (e=0)=false:=decide_eq_false hc;refine zf true 0 Tryz.func9 Tryz.ntmps9 ?_;dsimp only[Tmp,TypeId,ax];refine aB (av ?_);refine aR 2 0 (.ip none [cc u.fns,aI u.main]) rfl (by simp[ay.aP]) trivial rfl ?_ ?_;rotate_left;simp -dsimp only[simprocAttr,↓aa,zp]
 ·refine cj ?_;refine zi wP ?_;refine av ?_;refine aH ?_;simp -dsimp only[simprocAttr,↓aa,zp,Bz];refine av ?_;refine de rfl ?_;refine aB (av ?_);refine ak ?_;simp -dsimp only[simprocAttr,↓aa,zp,zr,Tryz.results9];rw[hR];exact⟨by simp[aq,ae.upto],rfl⟩
 exact da.mp rfl rfl
def hU:cW:=⟨[⟨-1,[⟨[],[⟨1,0,7,[]⟩,⟨2,15,0,[1]⟩,⟨3,0,5,[]⟩],⟨0,3,0,[],[]⟩⟩]⟩],0⟩
theorem Po:runM hU 4=⟨[7],0,5,4,0⟩:=by kernel_rfl
theorem Pn:hU.fit:=by
 simp[hU,cW.fit,Func.fit,Block.fit,db.fit,Term.fit,Edge.fit,sq,As]
theorem wN:aV Tryz.prog 4 [] (.v (.bool true)):=by
 have bS:=vO hU Pn 4;rw[Po]at bS;unfold QC.enc at bS;have he:hU.enc=.agg [cc hU.fns,aI 0]:=rfl;rw[he]at bS;simp only[List.map_cons,List.map_nil]at bS;refine zf true 0 Tryz.func4 Tryz.ntmps4 ?_;dsimp only[Tmp,TypeId,ax];refine aB (av ?_);refine aB (av ?_);refine aR 1 0 (.ip none [cc hU.fns,aI 0]) rfl (by simp[ay.aP]) trivial rfl ?_ ?_;rotate_left;simp -dsimp only[simprocAttr,↓aa,zp];rotate_left
 ·exact da.mp rfl rfl
 clear he;generalize hU.fns=F at *;refine aB ?_;refine zi bS ?_;refine av ?_;refine aR 2 1 (.ip none [.aC 1 [aI 7] .sh,aI 0,aI 5]) rfl (by simp[ay.aP]) trivial rfl ?_ ?_;rotate_left;simp -dsimp only[simprocAttr,↓aa,zp];rotate_left
 ·exact da.mp rfl rfl
 refine aB (av ?_);refine ak ?_;simp -dsimp only[simprocAttr,↓aa,zp,zr,Tryz.results4]
end Go.Proofs.YtkkookchlddbkaaGreat
namespace Go.Proofs.YtkkookchlddbkaaGreat.V
open Go.Av
def Pat.free(p:Pat):Bool:=decide (p.kind=0) ||decide (p.kind=1)
theorem free_spec(p:Pat):aV Tryz.prog 55 [p.enc] (.v (.bool p.free)):=by
 refine zf true 0 Tryz.func55 Tryz.ntmps55 ?_;dsimp only[Tmp,TypeId,ax];refine aB ?_
 (refine I ?_;simp -dsimp only[ai,ne_eq,Nat.reduceEqDiff,reduceCtorEq])
 refine aB ?_;refine cO (fun h=>?_) (fun h=>?_)
 ·simp -dsimp only[simprocAttr,↓aa,zp,h]
  (refine I ?_;simp -dsimp only[ai,ne_eq,Nat.reduceEqDiff,reduceCtorEq])
  refine ak ?_;simp -dsimp only[simprocAttr,↓aa,zp,zr,Tryz.results55]
  simp_all [Pat.free]
 simp -dsimp only[simprocAttr,↓aa,zp,h]
 (refine I ?_;simp -dsimp only[ai,ne_eq,Nat.reduceEqDiff,reduceCtorEq])
 refine ak ?_;simp -dsimp only[simprocAttr,↓aa,zp,zr,Tryz.results55]
 simp_all [Pat.free]
def cn:List (List Pat)->List Pat
 | []=>[]
 | []::r=>cn r
 | (p::_)::r=>if p.free then cn r else p::cn r
theorem ng:∀rows:List (List Pat),(cn rows).length<=rows.length
 | []=>by simp[cn]
 | []::r=>by
  have:=ng r;simp[cn];omega
 | (p::_)::r=>by
  have:=ng r;simp only[cn];split<;>simp<;>omega
theorem j6:∀a b:List (List Pat),cn (a++b)=cn a++cn b
 | [],b=>by simp[cn]
 | []::r,b=>by simp[cn,j6 r b]
 | (p::_)::r,b=>by
  simp only[List.cons_append,cn,j6 r b];split<;>simp
theorem bN{α:Type}{l:List α}{k:Nat}{x:α}(h:l[k]?=some x):l.take (k+1)=l.take k++[x]:=by
 rw[List.take_add_one,h];rfl
theorem Cs(rows:List (List Pat))(hb:rows.length<=2 ^ 30)(cA:∀r∈rows,r≠[]):aV Tryz.prog 29 [kV rows] (eR (cn rows)):=by
 refine zf true 0 Tryz.func29 Tryz.ntmps29 ?_;dsimp only[Tmp,TypeId,ax];refine aB ?_
 (refine I ?_;simp -dsimp only[ai,ne_eq,Nat.reduceEqDiff,reduceCtorEq])
 refine aB ?_
 (refine I ?_;simp -dsimp only[ai,ne_eq,Nat.reduceEqDiff,reduceCtorEq])
 refine cj ?_
 (refine I ?_;simp -dsimp only[ai,ne_eq,Nat.reduceEqDiff,reduceCtorEq])
 refine j4 3 rfl ?_;simp -dsimp only[simprocAttr,↓aa,zp];refine bT 0 rfl (fun hlen=>?_);refine aj (aO (ι:={k:Nat // k<=rows.length}) (fun k=>⟨25,[(6,kV rows),(7,.v (.int .i64 rows.length)),(8,.v (.int .i64 k)),(3,.aC 4 ((cn (rows.take k)).map Pat.enc) (.tok 0))],[.spare (cn (rows.take k)).length]⟩) (fun k=>rows.length-k) ⟨0,by omega⟩ ?_ ?_)
 ·refine zq rfl ?_ ?_;simp -dsimp only[simprocAttr,↓aa,zp,zc]
  ·exact Sub.aC (by simp[cn])
  simp[cn]
 rintro⟨k,hk⟩;refine aB ?_
 (refine I ?_;simp -dsimp only[ai,ne_eq,Nat.reduceEqDiff,reduceCtorEq])
 apply gr rfl<;>intro h
 ·(refine au ?_;simp -dsimp only[ai,ne_eq,Nat.reduceEqDiff,reduceCtorEq])
  have aN:k<rows.length:=by simpa using h
  obtain⟨r,hr⟩:∃r,rows[k]?=some r:=⟨rows[k],by simp[aN]⟩
  refine aG (aj ?_);refine aH ?_;simp -dsimp only[simprocAttr,↓aa,zp,hr]
  (refine I ?_;simp -dsimp only[ai,ne_eq,Nat.reduceEqDiff,reduceCtorEq])
  obtain⟨p,r',rfl⟩:∃p r',r=p::r':=List.exists_cons_of_ne_nil (cA r (List.mem_of_getElem? hr));refine aB ?_;refine zi (free_spec p) ?_
  (refine I ?_;simp -dsimp only[ai,ne_eq,Nat.reduceEqDiff,reduceCtorEq])
  apply aQ rfl<;>intro h
  ·have hf:=ng (rows.take k);simp only[List.length_take]at hf;refine du ?_;refine⟨by omega,by omega,?_⟩
   (refine I ?_;simp -dsimp only[ai,ne_eq,Nat.reduceEqDiff,reduceCtorEq])
   refine du ?_;refine⟨by omega,by omega,?_⟩
   (refine I ?_;simp -dsimp only[ai,ne_eq,Nat.reduceEqDiff,reduceCtorEq])
   refine⟨⟨k+1,aN⟩,by simp;omega,?_⟩;have e:cn (rows.take (k+1))=cn (rows.take k)++[p]:=by
    have:p.free=false:=by simpa using h
    simp[bN hr,j6,cn,this]
   refine zq rfl ?_ ?_;simp -dsimp only[simprocAttr,↓aa,zp,zc]
   ·exact⟨Sub.int (by simp),Sub.aC (by simp[e])⟩
   simp[e]
  (refine au ?_;simp -dsimp only[ai,ne_eq,Nat.reduceEqDiff,reduceCtorEq])
  refine du ?_;refine⟨by omega,by omega,?_⟩
  (refine I ?_;simp -dsimp only[ai,ne_eq,Nat.reduceEqDiff,reduceCtorEq])
  refine⟨⟨k+1,aN⟩,by simp;omega,?_⟩;have e:cn (rows.take (k+1))=cn (rows.take k):=by
   have:p.free=true:=by simpa using h
   simp[bN hr,j6,cn,this]
  refine zq rfl ?_ ?_;simp -dsimp only[simprocAttr,↓aa,zp,zc]
  ·exact⟨Sub.int (by simp),Sub.aC (by rw[e])⟩
  simp[e]
 refine aM ?_;simp -dsimp only[ai,ne_eq,Nat.reduceEqDiff,reduceCtorEq];have aN:k=rows.length:=by simp at h;omega
 subst aN;refine aB ?_
 (refine I ?_;simp -dsimp only[ai,ne_eq,Nat.reduceEqDiff,reduceCtorEq])
 refine ak ?_;simp -dsimp only[simprocAttr,↓aa,zp,zr,Tryz.results29,List.take_length]
def Pat.any:Pat:=.mk 0 ByteArray.empty 0 []
theorem tI(n:Nat):((List.replicate n [ae.v (.int .i64 0),.v (.string ByteArray.empty),.v (.int .i64 0),.aC 4 [] .ex]).flatten).map ae.bp=ar (List.replicate n Pat.any.enc):=by
 induction n with
 | zero=>rfl
 | succ n ih =>
  simp only[List.replicate_succ,List.flatten_cons,List.map_append,ih,ar,List.flatMap_cons];rfl
theorem xh(n:Nat)(hn:n<=2513169434843):aV Tryz.prog 61 [.v (.int .i64 n)] (eR (List.replicate n Pat.any)):=by
 refine zf true 0 Tryz.func61 Tryz.ntmps61 ?_;dsimp only[Tmp,TypeId,ax];refine aB ?_
 (refine I ?_;simp -dsimp only[ai,ne_eq,Nat.reduceEqDiff,reduceCtorEq])
 refine aB ?_;refine⟨by omega,by omega,?_⟩
 (refine I ?_;simp -dsimp only[ai,ne_eq,Nat.reduceEqDiff,reduceCtorEq])
 refine aR 2 0 (.aC 4 (List.replicate n Pat.any.enc) .sh) rfl (by simp[ay.aP]) trivial rfl ?_ ?_;rotate_left;simp -dsimp only[simprocAttr,↓aa,zp]
 ·refine ak ?_;simp -dsimp only[simprocAttr,↓aa,zp,zr,Tryz.results61,List.map_replicate];exact⟨by simpa[List.map_replicate]using Pat.an 0 (List.replicate n Pat.any),by simp[eR,List.map_replicate]⟩
 refine da.ms rfl ?_ (by simp) ?_
 ·simp[Pat.al]
 rw[<-tI,List.drop_zero,List.take_of_length_le (by simp)]
def idx{α:Type}(f:α->Bool)(l:List α):Int:=match l.findIdx? f with|some k=>(k:Int)|none=>-1
theorem jw{α:Type}{f:α->Bool}{l:List α}{k:Nat}{p:α}(h:l[k]?=some p)(hp:f p=true)(bq:∀j q,j<k->l[j]?=some q->f q=false):idx f l=k:=by
 have aN:=ag h;have:l.findIdx? f=some k:=by
  rw[List.findIdx?_eq_some_iff_getElem];refine⟨aN,?_,fun j hj=>?_⟩
  ·rw[List.getElem?_eq_getElem aN]at h;simp only[Option.some.injEq]at h;rw[h];exact hp
  have:=bq j l[j] hj (List.getElem?_eq_getElem (by omega));simp[this]
 simp[idx,this]
theorem jv{α:Type}{f:α->Bool}{l:List α}(bq:∀j q,j<l.length->l[j]?=some q->f q=false):idx f l=-1:=by
 have:l.findIdx? f=none:=by
  rw[List.findIdx?_eq_none_iff];intro x hx;obtain⟨j,hj⟩:=List.getElem?_of_mem hx;exact bq j x (ag hj) hj
 simp[idx,this]
theorem np{α:Type}(f:α->Bool)(l:List α):decide (0<=idx f l)=l.any f:=by
 unfold idx;cases h:l.findIdx? f with
 | none =>
  rw[List.findIdx?_eq_none_iff]at h;simp;exact h
 | some k =>
  rw[List.findIdx?_eq_some_iff_getElem]at h;obtain⟨h1,h2,_⟩:=h;simp;exact⟨l[k],by simp,h2⟩
theorem jx(f:Pat->Bool)(id:Nat)(fs cs:List ae)(O:List ay)(hO:∀o∈O,o.upto O.length)(l:List Pat)
  (hf:∀p∈l,aY Tryz.prog id O (fs++[p.enc]++cs) fun r O'=>r=.v (.bool (f p))∧O'=O) :
  aY Tryz.prog 35 O [eR l,.fn (.func id) fs cs] fun r O'=>r=.v (.int .i64 (idx f l))∧O'=O:=by
 refine zf true O.length Tryz.func35 Tryz.ntmps35 ?_;dsimp only[Tmp,TypeId,ax];refine aB ?_
 (refine I ?_;simp -dsimp only[ai,ne_eq,Nat.reduceEqDiff,reduceCtorEq])
 refine bT 0 rfl (fun hlen=>?_);simp only[List.length_map]at hlen;refine cj ?_
 (refine I ?_;simp -dsimp only[ai,ne_eq,Nat.reduceEqDiff,reduceCtorEq])
 refine aj (aO (ι:={k:Nat // k<=l.length∧∀j p,j<k->l[j]?=some p->f p=false}) (fun k=>⟨19,[(0,eR l),(1,.fn (.func id) fs cs),(7,.v (.int .i64 l.length)),(8,.v (.int .i64 k.1))],O⟩) (fun k=>l.length-k.1) ⟨0,by omega,by intros;omega⟩ ?_ ?_)
 ·refine zq rfl ?_ ?_;simp -dsimp only[simprocAttr,↓aa,zp,zc];rfl
 rintro⟨k,hk,bq⟩;refine aB ?_
 (refine I ?_;simp -dsimp only[ai,ne_eq,Nat.reduceEqDiff,reduceCtorEq])
 apply gr rfl<;>intro h
 ·(refine au ?_;simp -dsimp only[ai,ne_eq,Nat.reduceEqDiff,reduceCtorEq])
  have aN:k<l.length:=by simpa using h
  obtain⟨p,hp⟩:∃p,l[k]?=some p:=⟨l[k],by simp[aN]⟩
  have eN:=List.mem_of_getElem? hp;refine aG (aj ?_);refine aB ?_
  (refine I ?_;simp -dsimp only[ai,ne_eq,Nat.reduceEqDiff,reduceCtorEq])
  refine aH ?_;simp -dsimp only[simprocAttr,↓aa,zp,hp];refine .inr (.inr ⟨_,(hf p eN),ah (zj ?_)⟩)
  (refine I ?_;simp -dsimp only[ai,ne_eq,Nat.reduceEqDiff,reduceCtorEq])
  apply aQ rfl<;>intro h
  ·refine aB ?_
   (refine I ?_;simp -dsimp only[ai,ne_eq,Nat.reduceEqDiff,reduceCtorEq])
   refine ak ?_;simp -dsimp only[simprocAttr,↓aa,zp,zr,Tryz.results35,List.take_length];rw[jw hp h bq];simpa using hO
  (refine au ?_;simp -dsimp only[ai,ne_eq,Nat.reduceEqDiff,reduceCtorEq])
  have hb:f p=false:=by simpa using h
  refine du ?_;refine⟨by omega,by omega,?_⟩
  (refine I ?_;simp -dsimp only[ai,ne_eq,Nat.reduceEqDiff,reduceCtorEq])
  refine⟨⟨k+1,aN,fun j q hj hq=>?_⟩,by simp;omega,?_⟩
  ·rcases Nat.lt_succ_iff_lt_or_eq.1 hj with hj|hj
   ·exact bq j q hj hq
   subst hj;rw[hp]at hq;simp only[Option.some.injEq]at hq;rw[<-hq];exact hb
  refine zq rfl ?_ ?_;simp -dsimp only[simprocAttr,↓aa,zp,zc]
  ·exact Sub.int (by simp)
  rfl
 refine aM ?_;simp -dsimp only[ai,ne_eq,Nat.reduceEqDiff,reduceCtorEq];have aN:k=l.length:=by simp at h;omega
 subst aN;refine aB ?_
 (refine I ?_;simp -dsimp only[ai,ne_eq,Nat.reduceEqDiff,reduceCtorEq])
 refine ak ?_;simp -dsimp only[simprocAttr,↓aa,zp,zr,Tryz.results35,List.take_length];rw[jv bq];simpa using hO
theorem jq(f:Pat->Bool)(id:Nat)(fs cs:List ae)(O:List ay)(hO:∀o∈O,o.upto O.length)(l:List Pat)
  (hf:∀p∈l,aY Tryz.prog id O (fs++[p.enc]++cs) fun r O'=>r=.v (.bool (f p))∧O'=O) :
  aY Tryz.prog 57 O [eR l,.fn (.func id) fs cs] fun r O'=>r=.v (.bool (l.any f))∧O'=O:=by
 refine zf true O.length Tryz.func57 Tryz.ntmps57 ?_;dsimp only[Tmp,TypeId,ax];refine aB ?_
 (refine I ?_;simp -dsimp only[ai,ne_eq,Nat.reduceEqDiff,reduceCtorEq])
 refine aB ?_;refine .inr (.inr ⟨_,(jx f id fs cs O hO l hf),ah (zj ?_)⟩)
 (refine I ?_;simp -dsimp only[ai,ne_eq,Nat.reduceEqDiff,reduceCtorEq])
 refine ak ?_;simp -dsimp only[simprocAttr,↓aa,zp,zr,Tryz.results57,List.take_length];rw[np];simpa using hO
theorem Cb(l:List Pat)(hl:l≠[])(hb:l.length<=2 ^ 30)(O:List ay)(hO:∀o∈O,o.upto (O.length+1)) :
  aY Tryz.prog 33 O [eR l] fun r O'=>r=.ms O.length 0 l.length l.length∧O'=O++[.cells (ar (l.map Pat.enc))]:=by
 refine zf true (O.length+1) Tryz.func33 Tryz.ntmps33 ?_;dsimp only[Tmp,TypeId,ax];refine aB ?_
 (refine I ?_;simp -dsimp only[ai,ne_eq,Nat.reduceEqDiff,reduceCtorEq])
 refine jk 0 rfl (fun h=>?_) ?_
 ·exact absurd (List.map_eq_nil_iff.1 h) hl
 simp -dsimp only[simprocAttr,↓aa,zp];refine cj ?_
 (refine I ?_;simp -dsimp only[ai,ne_eq,Nat.reduceEqDiff,reduceCtorEq])
 refine cB rfl ?_
 (refine au ?_;simp -dsimp only[ai,ne_eq,Nat.reduceEqDiff,reduceCtorEq])
 refine SZ ?_;simp -dsimp only[simprocAttr,↓aa,zp];refine⟨by omega,by omega,by simpa using hl,?_⟩
 (refine I ?_;simp -dsimp only[ai,ne_eq,Nat.reduceEqDiff,reduceCtorEq])
 refine ak ?_;simp -dsimp only[simprocAttr,↓aa,zp,zr,Tryz.results33];have e:∀x:ay,(O++[x]).take (O.length+1)=O++[x]:=fun x=>List.take_of_length_le (by simp);rw[e];refine⟨fun o ho=>?_,by omega,rfl⟩;rcases List.mem_append.1 ho with ho|ho
 ·exact hO o ho
 rw[List.mem_singleton.1 ho];exact Pat.dL _ _
theorem tQ(f:Pat->Bool)(id:Nat)(fs cs:List ae)(O:List ay)(hO:∀o∈O,o.upto O.length)(obb:Nat)(l:List Pat)(cap:Nat)(s7:O[obb]?=some (.cells (ar (l.map Pat.enc))))
  (hb:l.length<=2 ^ 30) (hf:∀p∈l,aY Tryz.prog id O (fs++[p.enc]++cs) fun r O'=>r=.v (.bool (f p))∧O'=O) :
  aY Tryz.prog 35 O [.ms obb 0 l.length cap,.fn (.func id) fs cs] fun r O'=>r=.v (.int .i64 (idx f l))∧O'=O:=by
 refine zf true O.length Tryz.func35 Tryz.ntmps35 ?_;dsimp only[Tmp,TypeId,ax];refine aB ?_
 (refine I ?_;simp -dsimp only[ai,ne_eq,Nat.reduceEqDiff,reduceCtorEq])
 refine cj ?_
 (refine I ?_;simp -dsimp only[ai,ne_eq,Nat.reduceEqDiff,reduceCtorEq])
 refine aj (aO (ι:={k:Nat // k<=l.length∧∀j p,j<k->l[j]?=some p->f p=false}) (fun k=>⟨19,[(0,.ms obb 0 l.length cap),(1,.fn (.func id) fs cs),(7,.v (.int .i64 l.length)),(8,.v (.int .i64 k.1))],O⟩) (fun k=>l.length-k.1) ⟨0,by omega,by intros;omega⟩ ?_ ?_)
 ·refine zq rfl ?_ ?_;simp -dsimp only[simprocAttr,↓aa,zp,zc];rfl
 rintro⟨k,hk,bq⟩;refine aB ?_
 (refine I ?_;simp -dsimp only[ai,ne_eq,Nat.reduceEqDiff,reduceCtorEq])
 apply gr rfl<;>intro h
 ·(refine au ?_;simp -dsimp only[ai,ne_eq,Nat.reduceEqDiff,reduceCtorEq])
  have aN:k<l.length:=by simpa using h
  obtain⟨p,hp⟩:∃p,l[k]?=some p:=⟨l[k],by simp[aN]⟩
  have eN:=List.mem_of_getElem? hp;refine aG (aj ?_);refine aB ?_
  (refine I ?_;simp -dsimp only[ai,ne_eq,Nat.reduceEqDiff,reduceCtorEq])
  refine aH ?_;simp -dsimp only[simprocAttr,↓aa,zp,s7,Pat.pz hp,Pat.iv,Pat.jb];refine⟨by omega,by omega,?_⟩;refine .inr (.inr ⟨_,(hf p eN),ah (zj ?_)⟩)
  (refine I ?_;simp -dsimp only[ai,ne_eq,Nat.reduceEqDiff,reduceCtorEq])
  apply aQ rfl<;>intro h
  ·refine aB ?_
   (refine I ?_;simp -dsimp only[ai,ne_eq,Nat.reduceEqDiff,reduceCtorEq])
   refine ak ?_;simp -dsimp only[simprocAttr,↓aa,zp,zr,Tryz.results35,List.take_length];rw[jw hp h bq];simpa using hO
  (refine au ?_;simp -dsimp only[ai,ne_eq,Nat.reduceEqDiff,reduceCtorEq])
  have hb:f p=false:=by simpa using h
  refine du ?_;refine⟨by omega,by omega,?_⟩
  (refine I ?_;simp -dsimp only[ai,ne_eq,Nat.reduceEqDiff,reduceCtorEq])
  refine⟨⟨k+1,aN,fun j q hj hq=>?_⟩,by simp;omega,?_⟩
  ·rcases Nat.lt_succ_iff_lt_or_eq.1 hj with hj|hj
   ·exact bq j q hj hq
   subst hj;rw[hp]at hq;simp only[Option.some.injEq]at hq;rw[<-hq];exact hb
  refine zq rfl ?_ ?_;simp -dsimp only[simprocAttr,↓aa,zp,zc]
  ·exact Sub.int (by simp)
  rfl
 refine aM ?_;simp -dsimp only[ai,ne_eq,Nat.reduceEqDiff,reduceCtorEq];have aN:k=l.length:=by simp at h;omega
 subst aN;refine aB ?_
 (refine I ?_;simp -dsimp only[ai,ne_eq,Nat.reduceEqDiff,reduceCtorEq])
 refine ak ?_;simp -dsimp only[simprocAttr,↓aa,zp,zr,Tryz.results35,List.take_length];rw[jv bq];simpa using hO
def cP:List ae:=[.v (.int .i64 0),.v (.string ByteArray.empty),.v (.int .i64 0),.aC 4 [] .ex]
def jr(f:Pat->Bool)(l:List Pat):List ae :=
 ar ((l.filter (fun p=>!f p)).map Pat.enc)++(List.replicate (l.length-(l.filter (fun p=>!f p)).length) cP).flatten
theorem gQ{α:Type}{l:List α}{i:Nat}{x:α}(h:l[i]?=some x):l.set i x=l:=by
 apply List.ext_getElem?;intro j;by_cases e:i=j
 ·subst e;rw[List.getElem?_set_self (ag h),h]
 rw[List.getElem?_set_ne e]
theorem Cq{f:Pat->Bool}{l:List Pat}{k:Nat}(h:idx f l=k):k<l.length∧(l.take (k+1)).filter (fun p=>!f p)=l.take k:=by
 unfold idx at h;cases hx:l.findIdx? f with
 | none =>
  simp only[hx]at h;omega
 | some j =>
  simp only[hx]at h;have:j=k:=by omega
  subst this;rw[List.findIdx?_eq_some_iff_getElem]at hx;obtain⟨h1,h2,h3⟩:=hx;refine⟨h1,?_⟩;rw[bN (List.getElem?_eq_getElem h1),List.filter_append];have:(l.take j).filter (fun p=>!f p)=l.take j:=by
   rw[List.filter_eq_self];intro p hp;obtain⟨i,hi⟩:=List.getElem?_of_mem hp;have aN:=ag hi;simp only[List.length_take]at aN;rw[List.getElem?_take_of_lt (by omega),List.getElem?_eq_getElem (by omega)]at hi;simp only[Option.some.injEq]at hi;subst hi;simpa using h3 i (by omega)
  rw[this];simp[h2]
theorem DX{f:Pat->Bool}{l:List Pat}(h:idx f l=-1):l.filter (fun p=>!f p)=l:=by
 unfold idx at h;cases hx:l.findIdx? f with
 | none =>
  rw[List.findIdx?_eq_none_iff]at hx;rw[List.filter_eq_self];intro p hp;simp[hx p hp]
 | some j =>
  simp only[hx]at h;omega
theorem FT(f:Pat->Bool)(l:List Pat):idx f l=-1∨∃k:Nat,idx f l=k:=by
 unfold idx;cases l.findIdx? f with
 | none=>exact .inl rfl
 | some j=>exact .inr ⟨j,rfl⟩
structure mW(f:Pat->Bool)(l:List Pat)(j:Nat)(L:List Pat):Prop where
 le:j<=l.length
 len:L.length=l.length
 lt:((l.take j).filter (fun p=>!f p)).length<j
 pre:L.take ((l.take j).filter (fun p=>!f p)).length=(l.take j).filter (fun p=>!f p)
 U3:L.drop j=l.drop j
theorem mW.get{f:Pat->Bool}{l L:List Pat}{j:Nat}(h:mW f l j L){p:Pat}(hp:l[j]?=some p):L[j]?=some p:=by
 have h1:(L.drop j)[0]?=(l.drop j)[0]?:=by rw[h.U3]
 simpa[hp]using h1
theorem mW.AQ{f:Pat->Bool}{l L:List Pat}{j:Nat}(h:mW f l j L){p:Pat}(hp:l[j]?=some p)(hf:f p=false):mW f l (j+1) (L.set ((l.take j).filter (fun p=>!f p)).length p):=by
 have aN:=ag hp;have e:(l.take (j+1)).filter (fun p=>!f p)=(l.take j).filter (fun p=>!f p)++[p]:=by
  rw[bN hp,List.filter_append];simp[hf]
 have h1:=h.lt;have h2:=h.len;refine⟨aN,by simp[h2],by rw[e];simp;omega,?_,?_⟩
 ·rw[e,List.length_append,List.length_singleton,bN (x:=p) (by rw[List.getElem?_set_self (by omega)]),List.take_set_of_le (by omega),h.pre]
 rw[List.drop_set_of_lt (by omega),show j+1=j+1 from rfl,<-List.drop_drop,h.U3,List.drop_drop]
theorem mW.skip{f:Pat->Bool}{l L:List Pat}{j:Nat}(h:mW f l j L){p:Pat}(hp:l[j]?=some p)(hf:f p=true):mW f l (j+1) L:=by
 have aN:=ag hp;have e:(l.take (j+1)).filter (fun p=>!f p)=(l.take j).filter (fun p=>!f p):=by
  rw[bN hp,List.filter_append];simp[hf]
 have h1:=h.lt;refine⟨aN,h.len,by rw[e];omega,by rw[e];exact h.pre,by rw[<-List.drop_drop,h.U3,List.drop_drop]⟩
theorem tF(f:Pat->Bool)(id:Nat)(hf:∀p:Pat,aV Tryz.prog id [p.enc] (.v (.bool (f p))))(O:List ay)(hO:∀o∈O,o.upto O.length)(obb:Nat)(l:List Pat)(hb:l.length<=2 ^ 30)
  (s7:O[obb]?=some (.cells (ar (l.map Pat.enc)))) :
  aY Tryz.prog 54 O [.ms obb 0 l.length l.length,.fn (.func id) [] []] fun r O'=>r=.ms obb 0 (l.filter (fun p=>!f p)).length l.length∧O'=O.set obb (.cells (jr f l)):=by
 have Mg:=ag s7;refine zf true O.length Tryz.func54 Tryz.ntmps54 ?_;dsimp only[Tmp,TypeId,ax];refine aB ?_
 (refine I ?_;simp -dsimp only[ai,ne_eq,Nat.reduceEqDiff,reduceCtorEq])
 refine aB ?_;refine .inr (.inr ⟨_,(tQ f id [] [] O hO obb l l.length s7 hb (fun p _=>(hf p).use (by simp[aq,Pat.aF]) O)),ah (zj ?_)⟩)
 (refine I ?_;simp -dsimp only[ai,ne_eq,Nat.reduceEqDiff,reduceCtorEq])
 refine cj ?_
 (refine I ?_;simp -dsimp only[ai,ne_eq,Nat.reduceEqDiff,reduceCtorEq])
 apply aQ rfl<;>intro h
 ·have Sf:idx f l=-1:=by simpa using h
  refine aB ?_
  (refine I ?_;simp -dsimp only[ai,ne_eq,Nat.reduceEqDiff,reduceCtorEq])
  refine ak ?_;simp -dsimp only[simprocAttr,↓aa,zp,zr,Tryz.results54,List.take_length];rw[DX Sf];have e:O.set obb (.cells (jr f l))=O:=by
   rw[jr,DX Sf,Nat.sub_self,List.replicate_zero,List.flatten_nil,List.append_nil];exact gQ s7
  rw[e];exact⟨hO,by omega,rfl,rfl⟩
 have lu:idx f l≠-1:=by simpa using h
 obtain⟨k,hk⟩:=(FT f l).resolve_left lu;obtain⟨DL,PI⟩:=Cq hk
 (refine au ?_;simp -dsimp only[ai,ne_eq,Nat.reduceEqDiff,reduceCtorEq])
 rw[hk];refine cj ?_
 repeat(refine⟨by omega,?_⟩)
 (refine I ?_;simp -dsimp only[ai,ne_eq,Nat.reduceEqDiff,reduceCtorEq])
 refine aj (aO (ι:={q:Nat×List Pat // mW f l q.1 q.2}) (fun q=>⟨42,[(0,.ms obb 0 l.length l.length),(1,.fn (.func id) [] []),(5,.v (.int .i64 ((l.take q.1.1).filter (fun p=>!f p)).length)),(6,.v (.int .i64 q.1.1))],O.set obb (.cells (ar (q.1.2.map Pat.enc)))⟩) (fun q=>l.length-q.1.1) ⟨(k+1,l),⟨DL,rfl,by rw[PI];simp<;>omega,by rw[PI];simp<;>omega,rfl⟩⟩ ?_ ?_)
 ·refine zq rfl ?_ ?_;simp -dsimp only[simprocAttr,↓aa,zp,zc]
  ·refine⟨Sub.int ?_,Sub.int (by simp)⟩;rw[PI];simp;omega
  exact(gQ s7).symm
 rintro⟨⟨j,L⟩,hI⟩;have hle:=hI.le;have hlen:=hI.len;have FJ:=hI.lt;simp only at hle hlen FJ;obtain⟨m,PN⟩:∃m,m=((l.take j).filter (fun p=>!f p)).length:=⟨_,rfl⟩
 have Mf:∀x:ay,(O.set obb x)[obb]?=some x:=fun x=>List.getElem?_set_self Mg;simp only[<-PN]at FJ ⊢;obtain⟨O2,oI⟩:∃O2,O2=O.set obb (.cells (ar (L.map Pat.enc))):=⟨_,rfl⟩
 have AJ:O2[obb]?=some (.cells (ar (L.map Pat.enc))):=by rw[oI];exact Mf _
 have sc:O2.length=O.length:=by rw[oI];simp
 have bD:∀(L:List Pat) (o:ay),o∈O.set obb (.cells (ar (L.map Pat.enc)))->o.upto O.length:=fun L o ho=>by
  rcases List.mem_or_eq_of_mem_set ho with ho|ho
  ·exact hO o ho
  subst ho;exact Pat.dL _ _
 have nQ:∀(X:List ay) (y:ay),X.length=O.length->(X++[y]).take O.length=X:=fun X y h=>by rw[<-h,jY]
 simp only[<-oI];refine cj ?_
 (refine I ?_;simp -dsimp only[ai,ne_eq,Nat.reduceEqDiff,reduceCtorEq])
 apply aQ rfl<;>intro h
 ·(refine au ?_;simp -dsimp only[ai,ne_eq,Nat.reduceEqDiff,reduceCtorEq])
  have aN:j<l.length:=by simpa using h
  obtain⟨p,hp⟩:∃p,l[j]?=some p:=⟨l[j],by simp[aN]⟩
  have Vk:=hI.get hp;simp only at Vk;have Ul:m<L.length:=by omega
  refine aG (aj ?_);refine aH ?_;simp -dsimp only[simprocAttr,↓aa,zp,AJ,jC AJ,Pat.pz Vk,Pat.iv,Pat.jb,bu]
  repeat(refine⟨by omega,?_⟩)
  (refine I ?_;simp -dsimp only[ai,ne_eq,Nat.reduceEqDiff,reduceCtorEq])
  refine aB ?_;refine zi (hf p) ?_
  (refine I ?_;simp -dsimp only[ai,ne_eq,Nat.reduceEqDiff,reduceCtorEq])
  apply aQ rfl<;>intro h
  ·have K5:f p=false:=by simpa using h
   refine aB ?_;simp -dsimp only[simprocAttr,↓aa,zp,jC AJ,nE AJ,Pat.iv]
   repeat(refine⟨by omega,?_⟩)
   (refine I ?_;simp -dsimp only[ai,ne_eq,Nat.reduceEqDiff,reduceCtorEq])
   refine du ?_
   repeat(refine⟨by omega,?_⟩)
   (refine I ?_;simp -dsimp only[ai,ne_eq,Nat.reduceEqDiff,reduceCtorEq])
   have e:bu (ar (L.map Pat.enc)) (m*4) p.enc.cells=ar ((L.set m p).map Pat.enc):=Pat.zb Ul p;rw[Pat.al]at e;rw[e];have Cw:O2.set obb (.cells (ar ((L.set m p).map Pat.enc)))=O.set obb (.cells (ar ((L.set m p).map Pat.enc))):=by rw[oI,List.set_set]
   rw[Cw];refine ba O.length [(0,.ms obb 0 l.length l.length),(1,.fn (.func id) [] []),(5,.v (.int .i64 (m+1))),(6,.v (.int .i64 j))] (by simp) (by omega) (O.set obb (.cells (ar ((L.set m p).map Pat.enc)))) ?_ ?_ ?_ ?_ ?_
   ·exact nQ _ _ (by simp)
   ·exact bD _
   ·simp -dsimp only[simprocAttr,↓aa,zp,dy,exists_eq_left',Option.some.injEq,sub_self,and_true]
   ·simp[ae.upto,aq,Mg]
   refine du ?_
   repeat(refine⟨by omega,?_⟩)
   (refine I ?_;simp -dsimp only[ai,ne_eq,Nat.reduceEqDiff,reduceCtorEq])
   have hK:=hI.AQ hp K5;refine⟨⟨(j+1,_),hK⟩,by simp;omega,?_⟩;have em:((l.take (j+1)).filter (fun p=>!f p)).length=m+1:=by
    rw[bN hp,List.filter_append,List.length_append,<-PN];simp[K5]
   refine zq rfl ?_ ?_;simp -dsimp only[simprocAttr,↓aa,zp,zc]
   ·exact⟨Sub.int (by simp only[em];omega),Sub.int (by omega)⟩
   simp only[PN]
  (refine au ?_;simp -dsimp only[ai,ne_eq,Nat.reduceEqDiff,reduceCtorEq])
  have K5:f p=true:=by simpa using h
  refine ba O.length [(0,.ms obb 0 l.length l.length),(1,.fn (.func id) [] []),(5,.v (.int .i64 m)),(6,.v (.int .i64 j))] (by(simp;omega)) (by omega) O2 ?_ ?_ ?_ ?_ ?_
  ·exact nQ _ _ sc
  ·rw[oI];exact bD _
  ·simp -dsimp only[simprocAttr,↓aa,zp,dy,exists_eq_left',Option.some.injEq,sub_self,and_true]
  ·simp[ae.upto,aq,Mg]
  refine du ?_
  repeat(refine⟨by omega,?_⟩)
  (refine I ?_;simp -dsimp only[ai,ne_eq,Nat.reduceEqDiff,reduceCtorEq])
  have hK:=hI.skip hp K5;refine⟨⟨(j+1,_),hK⟩,by simp;omega,?_⟩;have em:((l.take (j+1)).filter (fun p=>!f p)).length=m:=by
   rw[bN hp,List.filter_append,List.length_append,<-PN];simp[K5]
  refine zq rfl ?_ ?_;simp -dsimp only[simprocAttr,↓aa,zp,zc]
  ·exact⟨Sub.int (by simp only[em]),Sub.int (by omega)⟩
  simp only[oI]
 refine aM ?_;simp -dsimp only[ai,ne_eq,Nat.reduceEqDiff,reduceCtorEq];have aN:j=l.length:=by simp at h;omega
 subst aN;refine aH ?_;simp -dsimp only[simprocAttr,↓aa,zp,AJ,Pat.iv]
 repeat(refine⟨by omega,?_⟩)
 (refine I ?_;simp -dsimp only[ai,ne_eq,Nat.reduceEqDiff,reduceCtorEq])
 refine aB ?_
 repeat(refine⟨by omega,?_⟩)
 (refine I ?_;simp -dsimp only[ai,ne_eq,Nat.reduceEqDiff,reduceCtorEq])
 refine ak ?_;simp -dsimp only[simprocAttr,↓aa,zp,zr,Tryz.results54];have ez:∀x,O2.set obb x=O.set obb x:=fun x=>by rw[oI,List.set_set]
 rw[ez];have em:m=(l.filter (fun p=>!f p)).length:=by rw[PN,List.take_length]
 have ec:bu (ar (L.map Pat.enc)) (m*4) (List.replicate (l.length-m) cP).flatten=jr f l:=by
  have cX:=hI.pre;simp only[List.take_length,<-em]at cX;have hz:((List.replicate (l.length-m) cP).flatten).length=(l.length-m)*4:=by simp[cP]
  rw[bu,hz,List.drop_of_length_le (by rw[Pat.iv];omega),List.append_nil,jr,<-em,<-cX];congr 1;rw[List.map_take];have:=bI (sz:=4) (xs:=(L.map Pat.enc).take m) (fun x hx=>by
   obtain⟨p,_,rfl⟩:=List.mem_map.1 (List.mem_of_mem_take hx);exact p.bK)
  conv=>lhs;rw[<-List.take_append_drop m (L.map Pat.enc),cT]
  rw[List.take_append_of_le_length (by rw[this];simp;omega),List.take_of_length_le (by rw[this];simp;omega)]
 simp only[cP]at ec;rw[ec];have R6:(O.set obb (.cells (jr f l))).length=O.length:=by simp
 have W8:(O.set obb (.cells (jr f l))).take O.length=O.set obb (.cells (jr f l)):=List.take_of_length_le (by rw[R6];exact Nat.le_refl _);rw[W8];refine⟨by rw[R6];exact Nat.le_refl _,fun o ho=>?_,Mg,by rw[<-em,Nat.sub_zero,Nat.sub_zero],rfl⟩;rcases List.mem_or_eq_of_mem_set ho with ho|ho
 ·exact hO o ho
 subst ho;show aq _ _;rw[a9];intro c hc;rcases List.mem_append.1 hc with hc|hc
 ·exact a9.1 (Pat.dL O.length _) c hc
 simp only[List.mem_flatten,List.mem_replicate]at hc;obtain⟨_,⟨_,rfl⟩,hc⟩:=hc;simp only[cP,List.mem_cons,List.not_mem_nil,or_false]at hc;rcases hc with rfl|rfl|rfl|rfl<;>simp[ae.upto,aq]
theorem Hx(O:List ay)(hO:∀o∈O,o.upto O.length):aY Tryz.prog 87 O [.v (.slice none 0 0),.v (.int .i64 0)] fun r O'=>r=.aC 4 [] .ex∧O'=O:=by
 refine zf false O.length Tryz.func87 Tryz.ntmps87 ?_;dsimp only[Tmp,TypeId,ax];refine cy.cover (τ:=⟨27,[(0,.aC 4 [] .ex),(1,.v (.int .i64 0))],O⟩) ?_ ⟨rfl,rfl,⟨_,rfl,Sub.nil rfl (by simp) (by simp)⟩,⟨_,rfl,Sub.refl _⟩,trivial⟩;refine aB ?_
 (refine I ?_;simp -dsimp only[ai,ne_eq,Nat.reduceEqDiff,reduceCtorEq])
 refine cj ?_
 (refine I ?_;simp -dsimp only[ai,ne_eq,Nat.reduceEqDiff,reduceCtorEq])
 apply aQ rfl<;>intro h
 ·simp at h
 (refine au ?_;simp -dsimp only[ai,ne_eq,Nat.reduceEqDiff,reduceCtorEq])
 refine cj ?_
 (refine I ?_;simp -dsimp only[ai,ne_eq,Nat.reduceEqDiff,reduceCtorEq])
 refine aB ?_
 (refine I ?_;simp -dsimp only[ai,ne_eq,Nat.reduceEqDiff,reduceCtorEq])
 apply aQ rfl<;>intro h
 ·simp at h
 (refine au ?_;simp -dsimp only[ai,ne_eq,Nat.reduceEqDiff,reduceCtorEq])
 refine aB ?_
 (refine I ?_;simp -dsimp only[ai,ne_eq,Nat.reduceEqDiff,reduceCtorEq])
 refine ak ?_;simp -dsimp only[simprocAttr,↓aa,zp,zr,Tryz.results87,List.take_length];simpa[aq]using hO
theorem Fx(O:List ay)(hO:∀o∈O,o.upto (O.length+1))(n:Nat)(hn:0<n)(hb:n<=2 ^ 40):aY Tryz.prog 87 O [.v (.slice none 0 0),.v (.int .i64 n)] fun r O'=>r=.ms O.length 0 0 n∧O'=O++[.cells (List.replicate n cP).flatten]:=by
 refine zf false (O.length+1) Tryz.func87 Tryz.ntmps87 ?_;dsimp only[Tmp,TypeId,ax];refine cy.cover (τ:=⟨27,[(0,.aC 4 [] .ex),(1,.v (.int .i64 n))],O⟩) ?_ ⟨rfl,rfl,⟨_,rfl,Sub.nil rfl (by simp) (by simp)⟩,⟨_,rfl,Sub.refl _⟩,trivial⟩;refine aB ?_
 (refine I ?_;simp -dsimp only[ai,ne_eq,Nat.reduceEqDiff,reduceCtorEq])
 refine cj ?_
 (refine I ?_;simp -dsimp only[ai,ne_eq,Nat.reduceEqDiff,reduceCtorEq])
 apply aQ rfl<;>intro h
 ·simp at h;omega
 (refine au ?_;simp -dsimp only[ai,ne_eq,Nat.reduceEqDiff,reduceCtorEq])
 refine cj ?_;refine⟨by omega,by omega,?_⟩
 (refine I ?_;simp -dsimp only[ai,ne_eq,Nat.reduceEqDiff,reduceCtorEq])
 refine aB ?_
 (refine I ?_;simp -dsimp only[ai,ne_eq,Nat.reduceEqDiff,reduceCtorEq])
 apply aQ rfl<;>intro h
 ·refine du ?_;refine⟨Tryz.underlying3,by omega,by omega,by omega,by omega,by omega,?_⟩
  (refine I ?_;simp -dsimp only[ai,ne_eq,Nat.reduceEqDiff,reduceCtorEq])
  refine aB ?_
  (refine I ?_;simp -dsimp only[ai,ne_eq,Nat.reduceEqDiff,reduceCtorEq])
  refine ak ?_;simp -dsimp only[simprocAttr,↓aa,zp,zr,Tryz.results87];have e:∀x:ay,(O++[x]).take (O.length+1)=O++[x]:=fun x=>List.take_of_length_le (by simp);rw[e];refine⟨fun o ho=>?_,by omega,rfl,rfl⟩;rcases List.mem_append.1 ho with ho|ho
  ·exact hO o ho
  rw[List.mem_singleton.1 ho];show aq _ _;rw[a9];intro c hc;simp only[List.mem_flatten,List.mem_replicate]at hc;obtain⟨_,⟨_,rfl⟩,hc⟩:=hc;simp only[List.mem_cons,List.not_mem_nil,or_false]at hc;rcases hc with rfl|rfl|rfl|rfl<;>simp[ae.upto,aq]
 simp at h;omega
def total(rows:List (List Pat)):Nat:=rows.flatten.length
theorem qF{rows:List (List Pat)}{k:Nat}{r:List Pat}(h:rows[k]?=some r):total (rows.take (k+1))=total (rows.take k)+r.length:=by
 rw[total,bN h];simp[total]
theorem vW(rows:List (List Pat))(k:Nat):total (rows.take k)<=total rows:=by
 have:rows.flatten=(rows.take k).flatten++(rows.drop k).flatten:=by rw[<-List.flatten_append,List.take_append_drop]
 rw[total,total,this];simp
theorem Gx(n:Nat):((List.replicate n cP).flatten).length=n*4:=by simp[cP]
theorem Dr(n m:Nat):((List.replicate n cP).flatten).drop (m*4)=(List.replicate (n-m) cP).flatten:=by
 induction m generalizing n with
 | zero=>simp
 | succ m ih =>
  cases n with
  | zero=>simp
  | succ n =>
   rw[List.replicate_succ,List.flatten_cons,List.drop_append,List.drop_of_length_le (by simp[cP];omega),show(m+1)*4-cP.length=m*4 by simp[cP];omega,List.nil_append,ih,Nat.add_sub_add_right]
theorem Ix(A r:List Pat)(n:Nat):bu (ar (A.map Pat.enc)++(List.replicate n cP).flatten) (A.length*4) (ar (r.map Pat.enc))=ar ((A++r).map Pat.enc)++(List.replicate (n-r.length) cP).flatten:=by
 have h1:=Pat.iv A;have h2:=Pat.iv r;rw[bu,<-h1,List.take_left,List.drop_append,List.drop_of_length_le (by omega),List.nil_append,h2,show(ar (A.map Pat.enc)).length+r.length*4-(ar (A.map Pat.enc)).length=r.length*4 by omega,Dr,List.map_append,cT,List.append_assoc]
theorem km(rows:List (List Pat))(hb:rows.length<=2 ^ 30)(ht:total rows<=2 ^ 30):aV Tryz.prog 62 [kV rows] (eR rows.flatten):=by
 refine zf true 0 Tryz.func62 Tryz.ntmps62 ?_;dsimp only[Tmp,TypeId,ax];refine aB ?_
 (refine I ?_;simp -dsimp only[ai,ne_eq,Nat.reduceEqDiff,reduceCtorEq])
 refine aB ?_
 (refine I ?_;simp -dsimp only[ai,ne_eq,Nat.reduceEqDiff,reduceCtorEq])
 refine cj ?_
 (refine I ?_;simp -dsimp only[ai,ne_eq,Nat.reduceEqDiff,reduceCtorEq])
 refine aj (aO (ι:={k:Nat // k<=rows.length}) (fun k=>⟨36,[(0,kV rows),(9,kV rows),(10,.v (.int .i64 rows.length)),(11,.v (.int .i64 k.1)),(3,.v (.int .i64 (total (rows.take k.1))))],[]⟩) (fun k=>rows.length-k.1) ⟨0,by omega⟩ ?_ ?_)
 ·refine zq rfl ?_ ?_;simp -dsimp only[simprocAttr,↓aa,zp,zc,total,List.flatten_nil];rfl
 rintro⟨k,hk⟩;refine aB ?_
 (refine I ?_;simp -dsimp only[ai,ne_eq,Nat.reduceEqDiff,reduceCtorEq])
 apply gr rfl<;>intro h
 ·(refine au ?_;simp -dsimp only[ai,ne_eq,Nat.reduceEqDiff,reduceCtorEq])
  have aN:k<rows.length:=by simpa using h
  obtain⟨r,hr⟩:∃r,rows[k]?=some r:=⟨rows[k],by simp[aN]⟩
  have h1:=qF hr;have h2:=vW rows (k+1);refine aG (aj ?_);refine aH ?_;simp -dsimp only[simprocAttr,↓aa,zp,hr]
  (refine I ?_;simp -dsimp only[ai,ne_eq,Nat.reduceEqDiff,reduceCtorEq])
  refine aB ?_;refine⟨by omega,by omega,?_⟩
  (refine I ?_;simp -dsimp only[ai,ne_eq,Nat.reduceEqDiff,reduceCtorEq])
  refine aB ?_
  (refine I ?_;simp -dsimp only[ai,ne_eq,Nat.reduceEqDiff,reduceCtorEq])
  apply aQ rfl<;>intro h
  ·simp at h;omega
  (refine au ?_;simp -dsimp only[ai,ne_eq,Nat.reduceEqDiff,reduceCtorEq])
  refine du ?_;refine⟨by omega,by omega,?_⟩
  (refine I ?_;simp -dsimp only[ai,ne_eq,Nat.reduceEqDiff,reduceCtorEq])
  refine⟨⟨k+1,aN⟩,by simp;omega,?_⟩;refine zq rfl ?_ ?_;simp -dsimp only[simprocAttr,↓aa,zp,zc]
  ·exact⟨Sub.int (by simp),Sub.int (by simp only[h1];omega)⟩
  rfl
 refine aM ?_;simp -dsimp only[ai,ne_eq,Nat.reduceEqDiff,reduceCtorEq];have aN:k=rows.length:=by simp at h;omega
 subst aN;simp only[List.take_length];by_cases h0:total rows=0
 ·rw[h0];refine aB ?_;refine .inr (.inl ⟨_,_,(Hx [] (by simp)),.inl (ah (zj ?_))⟩)
  (refine I ?_;simp -dsimp only[ai,ne_eq,Nat.reduceEqDiff,reduceCtorEq])
  have yI:∀k r,rows[k]?=some r->r=[]:=fun k r hr=>by
   have h1:=qF hr;have h2:=vW rows (k+1);exact List.length_eq_zero_iff.1 (by omega)
  have gf:rows.flatten=[]:=List.length_eq_zero_iff.1 h0;refine j4 6 rfl ?_;simp -dsimp only[simprocAttr,↓aa,zp];refine cj ?_
  (refine I ?_;simp -dsimp only[ai,ne_eq,Nat.reduceEqDiff,reduceCtorEq])
  refine aj (aO (ι:={k:Nat // k<=rows.length}) (fun k=>⟨36,[(25,kV rows),(26,.v (.int .i64 rows.length)),(27,.v (.int .i64 k.1)),(6,.aC 4 [] (.tok 0))],[.spare 0]⟩) (fun k=>rows.length-k.1) ⟨0,by omega⟩ ?_ ?_)
  ·refine zq rfl ?_ ?_;simp -dsimp only[simprocAttr,↓aa,zp,zc];rfl
  rintro⟨k,hk⟩;refine aB ?_
  (refine I ?_;simp -dsimp only[ai,ne_eq,Nat.reduceEqDiff,reduceCtorEq])
  apply gr rfl<;>intro h
  ·(refine au ?_;simp -dsimp only[ai,ne_eq,Nat.reduceEqDiff,reduceCtorEq])
   have aN:k<rows.length:=by simpa using h
   obtain⟨r,hr⟩:∃r,rows[k]?=some r:=⟨rows[k],by simp[aN]⟩
   have pQ:=yI k r hr;subst pQ;refine aG (aj ?_);refine aH ?_;simp -dsimp only[simprocAttr,↓aa,zp,hr]
   (refine I ?_;simp -dsimp only[ai,ne_eq,Nat.reduceEqDiff,reduceCtorEq])
   refine du ?_
   (refine I ?_;simp -dsimp only[ai,ne_eq,Nat.reduceEqDiff,reduceCtorEq])
   refine du ?_;refine⟨by omega,by omega,?_⟩
   (refine I ?_;simp -dsimp only[ai,ne_eq,Nat.reduceEqDiff,reduceCtorEq])
   refine⟨⟨k+1,aN⟩,by simp;omega,?_⟩;refine zq rfl ?_ ?_;simp -dsimp only[simprocAttr,↓aa,zp,zc]
   ·exact Sub.int (by simp)
   rfl
  refine aM ?_;simp -dsimp only[ai,ne_eq,Nat.reduceEqDiff,reduceCtorEq];refine aB ?_
  (refine I ?_;simp -dsimp only[ai,ne_eq,Nat.reduceEqDiff,reduceCtorEq])
  refine ak ?_;simp -dsimp only[simprocAttr,↓aa,zp,zr,Tryz.results62];simp[gf,aq]
 refine aB ?_;refine .inr (.inl ⟨_,_,(Fx [] (by simp) (total rows) (by omega) (by omega)),.inl (ah (zj ?_))⟩)
 (refine I ?_;simp -dsimp only[ai,ne_eq,Nat.reduceEqDiff,reduceCtorEq])
 refine cj ?_
 (refine I ?_;simp -dsimp only[ai,ne_eq,Nat.reduceEqDiff,reduceCtorEq])
 obtain⟨n,hn⟩:∃n,n=total rows:=⟨_,rfl⟩
 simp only[<-hn];refine aj (aO (ι:={k:Nat // k<=rows.length}) (fun k=>⟨36,[(25,kV rows),(26,.v (.int .i64 rows.length)),(27,.v (.int .i64 k.1)),(6,.ms 0 0 (total (rows.take k.1)) n)],[.cells (ar ((rows.take k.1).flatten.map Pat.enc)++(List.replicate (n-total (rows.take k.1)) cP).flatten)]⟩) (fun k=>rows.length-k.1) ⟨0,by omega⟩ ?_ ?_)
 ·refine zq rfl ?_ ?_;simp -dsimp only[simprocAttr,↓aa,zp,zc,total,List.flatten_nil];simp[total,ar]
 rintro⟨k,hk⟩;refine aB ?_
 (refine I ?_;simp -dsimp only[ai,ne_eq,Nat.reduceEqDiff,reduceCtorEq])
 apply gr rfl<;>intro h
 ·(refine au ?_;simp -dsimp only[ai,ne_eq,Nat.reduceEqDiff,reduceCtorEq])
  have aN:k<rows.length:=by simpa using h
  obtain⟨r,hr⟩:∃r,rows[k]?=some r:=⟨rows[k],by simp[aN]⟩
  have h1:=qF hr;have h2:=vW rows (k+1);refine aG (aj ?_);refine aH ?_;simp -dsimp only[simprocAttr,↓aa,zp,hr]
  (refine I ?_;simp -dsimp only[ai,ne_eq,Nat.reduceEqDiff,reduceCtorEq])
  refine du ?_;have lB:=Pat.iv (rows.take k).flatten;have mV:(rows.take k).flatten.length=total (rows.take k):=rfl;have QV:=Gx (n-total (rows.take k));refine⟨by omega,by omega,by omega,?_⟩;have hf:=Ix (rows.take k).flatten r (n-total (rows.take k));rw[mV]at hf;simp -dsimp only[simprocAttr,↓aa,zp,hf]
  (refine I ?_;simp -dsimp only[ai,ne_eq,Nat.reduceEqDiff,reduceCtorEq])
  refine du ?_;refine⟨by omega,by omega,?_⟩
  (refine I ?_;simp -dsimp only[ai,ne_eq,Nat.reduceEqDiff,reduceCtorEq])
  refine⟨⟨k+1,aN⟩,by simp;omega,?_⟩;refine zq rfl ?_ ?_;simp -dsimp only[simprocAttr,↓aa,zp,zc]
  ·exact⟨Sub.int (by simp),Sub.of_eq (by rw[h1])⟩
  have h3:=h1;rw[bN hr]at h3;simp only[bN hr,h3,List.flatten_append,List.flatten_cons,List.flatten_nil,List.append_nil,Nat.sub_add_eq]
 refine aM ?_;simp -dsimp only[ai,ne_eq,Nat.reduceEqDiff,reduceCtorEq];have aN:k=rows.length:=by simp at h;omega
 subst aN;simp only[List.take_length,<-hn,Nat.sub_self,List.replicate_zero,List.flatten_nil,List.append_nil];refine aB ?_
 (refine I ?_;simp -dsimp only[ai,ne_eq,Nat.reduceEqDiff,reduceCtorEq])
 refine aR 2 0 (.aC 4 (rows.flatten.map Pat.enc) .sh) rfl (by simp[ay.aP]) trivial rfl ?_ ?_;rotate_left;simp -dsimp only[simprocAttr,↓aa,zp]
 ·refine ak ?_;simp -dsimp only[simprocAttr,↓aa,zp,zr,Tryz.results62]
 refine da.ms rfl ?_ (by rw[List.length_map,hn];rfl) ?_
 ·intro x hx;obtain⟨p,_,rfl⟩:=List.mem_map.1 hx;exact p.bK
 rw[List.drop_zero,List.take_of_length_le (by rw[Pat.iv,hn];exact Nat.le_refl _)];rw[<-ef,Pat.bV]
theorem ck(n m:Nat):aq n (List.replicate m Pat.any.enc):=by
 rw[a9];intro x hx;rw[(List.mem_replicate.1 hx).2];exact Pat.aF n _
theorem b8(n:Nat)(l:List (List Pat)):aq n (l.map eR):=by
 rw[a9];intro x hx;obtain⟨r,_,rfl⟩:=List.mem_map.1 hx;exact⟨Pat.an n r,trivial⟩
def cU:List (List Pat)->List (List Pat)
 | []=>[]
 | []::r=>cU r
 | (p::x)::r=>if p.free then x::cU r else cU r
theorem py:∀rows:List (List Pat),(cU rows).length<=rows.length
 | []=>by simp[cU]
 | []::r=>by
  have:=py r;simp[cU];omega
 | (p::_)::r=>by
  have:=py r;simp only[cU];split<;>simp<;>omega
theorem k7:∀a b:List (List Pat),cU (a++b)=cU a++cU b
 | [],b=>by simp[cU]
 | []::r,b=>by simp[cU,k7 r b]
 | (p::_)::r,b=>by
  simp only[List.cons_append,cU,k7 r b];split<;>simp
theorem F5(rows:List (List Pat))(hb:rows.length<=2 ^ 30)(cA:∀r∈rows,r≠[]):aV Tryz.prog 31 [kV rows] (kV (cU rows)):=by
 refine zf true 0 Tryz.func31 Tryz.ntmps31 ?_;dsimp only[Tmp,TypeId,ax];refine aB ?_
 (refine I ?_;simp -dsimp only[ai,ne_eq,Nat.reduceEqDiff,reduceCtorEq])
 refine aB ?_
 (refine I ?_;simp -dsimp only[ai,ne_eq,Nat.reduceEqDiff,reduceCtorEq])
 refine cj ?_
 (refine I ?_;simp -dsimp only[ai,ne_eq,Nat.reduceEqDiff,reduceCtorEq])
 refine j4 3 rfl ?_;simp -dsimp only[simprocAttr,↓aa,zp];refine aj (aO (ι:={k:Nat // k<=rows.length}) (fun k=>⟨23,[(6,kV rows),(7,.v (.int .i64 rows.length)),(8,.v (.int .i64 k)),(3,.aC 1 ((cU (rows.take k)).map eR) (.tok 0))],[.spare (cU (rows.take k)).length]⟩) (fun k=>rows.length-k) ⟨0,by omega⟩ ?_ ?_)
 ·refine zq rfl ?_ ?_;simp -dsimp only[simprocAttr,↓aa,zp,zc]
  ·exact Sub.aC (by simp[cU])
  simp[cU]
 rintro⟨k,hk⟩;refine aB ?_
 (refine I ?_;simp -dsimp only[ai,ne_eq,Nat.reduceEqDiff,reduceCtorEq])
 apply gr rfl<;>intro h
 ·(refine au ?_;simp -dsimp only[ai,ne_eq,Nat.reduceEqDiff,reduceCtorEq])
  have aN:k<rows.length:=by simpa using h
  obtain⟨r,hr⟩:∃r,rows[k]?=some r:=⟨rows[k],by simp[aN]⟩
  refine aG (aj ?_);refine aH ?_;simp -dsimp only[simprocAttr,↓aa,zp,hr]
  (refine I ?_;simp -dsimp only[ai,ne_eq,Nat.reduceEqDiff,reduceCtorEq])
  obtain⟨p,r',rfl⟩:∃p r',r=p::r':=List.exists_cons_of_ne_nil (cA r (List.mem_of_getElem? hr));refine aB ?_;refine .inl ⟨_,free_spec p,by simp only[aq,ae.upto,zt,zu,ck],ah ?_⟩;simp -dsimp only[simprocAttr,↓aa,zp]
  (refine I ?_;simp -dsimp only[ai,ne_eq,Nat.reduceEqDiff,reduceCtorEq])
  have hf:=py (rows.take k);simp only[List.length_take]at hf;apply aQ rfl<;>intro h
  ·refine fq ?_;simp -dsimp only[simprocAttr,↓aa,zp,List.take_length,List.drop_one,List.tail_cons];refine⟨by omega,by omega,?_⟩
   (refine I ?_;simp -dsimp only[ai,ne_eq,Nat.reduceEqDiff,reduceCtorEq])
   refine du ?_;refine⟨by omega,by omega,?_⟩
   (refine I ?_;simp -dsimp only[ai,ne_eq,Nat.reduceEqDiff,reduceCtorEq])
   refine⟨⟨k+1,aN⟩,by simp;omega,?_⟩;have e:cU (rows.take (k+1))=cU (rows.take k)++[r']:=by
    simp[bN hr,k7,cU,h]
   refine zq rfl ?_ ?_;simp -dsimp only[simprocAttr,↓aa,zp,zc]
   ·exact⟨Sub.int (by simp),Sub.aC (by simp[e])⟩
   simp[e]
  (refine au ?_;simp -dsimp only[ai,ne_eq,Nat.reduceEqDiff,reduceCtorEq])
  refine du ?_;refine⟨by omega,by omega,?_⟩
  (refine I ?_;simp -dsimp only[ai,ne_eq,Nat.reduceEqDiff,reduceCtorEq])
  refine⟨⟨k+1,aN⟩,by simp;omega,?_⟩;have e:cU (rows.take (k+1))=cU (rows.take k):=by
   simp[bN hr,k7,cU,h]
  refine zq rfl ?_ ?_;simp -dsimp only[simprocAttr,↓aa,zp,zc]
  ·exact⟨Sub.int (by simp),Sub.aC (by rw[e])⟩
  simp[e]
 refine aM ?_;simp -dsimp only[ai,ne_eq,Nat.reduceEqDiff,reduceCtorEq];have aN:k=rows.length:=by simp at h;omega
 subst aN;refine aB ?_
 (refine I ?_;simp -dsimp only[ai,ne_eq,Nat.reduceEqDiff,reduceCtorEq])
 refine ak ?_;simp -dsimp only[simprocAttr,↓aa,zp,zr,Tryz.results31,List.take_length];simpa using b8 _ _
def bd(name:ByteArray)(many:Nat):List (List Pat)->List (List Pat)
 | []=>[]
 | []::r=>bd name many r
 | (p::x)::r=>if p.free then(List.replicate many Pat.any++x)::bd name many r else if p.name=name then(p.args++x)::bd name many r else bd name many r
theorem lZ(name:ByteArray)(many:Nat):∀rows:List (List Pat),(bd name many rows).length<=rows.length
 | []=>by simp[bd]
 | []::r=>by
  have:=lZ name many r;simp[bd];omega
 | (p::_)::r=>by
  have:=lZ name many r;simp only[bd];split
  ·simp;omega
  split<;>simp<;>omega
theorem ia(name:ByteArray)(many:Nat):∀a b:List (List Pat),bd name many (a++b)=bd name many a++bd name many b
 | [],b=>by simp[bd]
 | []::r,b=>by simp[bd,ia name many r b]
 | (p::_)::r,b=>by
  simp only[List.cons_append,bd,ia name many r b];split
  ·simp
  split<;>simp
theorem AY(rows:List (List Pat))(name:ByteArray)(many:Nat)(hb:rows.length<=2 ^ 30)(rC:many<=2 ^ 20)(cA:∀r∈rows,r≠[])(PX:∀r∈rows,r.length<=2 ^ 20)(dt:∀r∈rows,∀p∈r,p.args.length<=2 ^ 20) :
  aV Tryz.prog 32 [kV rows,.v (.string name),.v (.int .i64 many)] (kV (bd name many rows)):=by
 refine zf true 0 Tryz.func32 Tryz.ntmps32 ?_;dsimp only[Tmp,TypeId,ax];refine aB ?_
 (refine I ?_;simp -dsimp only[ai,ne_eq,Nat.reduceEqDiff,reduceCtorEq])
 refine aB ?_
 (refine I ?_;simp -dsimp only[ai,ne_eq,Nat.reduceEqDiff,reduceCtorEq])
 refine cj ?_
 (refine I ?_;simp -dsimp only[ai,ne_eq,Nat.reduceEqDiff,reduceCtorEq])
 refine j4 7 rfl ?_;simp -dsimp only[simprocAttr,↓aa,zp];refine aj (aO (ι:={k:Nat // k<=rows.length}) (fun k=>⟨50,[(1,.v (.string name)),(2,.v (.int .i64 many)),(10,kV rows),(11,.v (.int .i64 rows.length)),(12,.v (.int .i64 k)),(7,.aC 1 ((bd name many (rows.take k)).map eR) (.tok 0))],[.spare (bd name many (rows.take k)).length]⟩) (fun k=>rows.length-k) ⟨0,by omega⟩ ?_ ?_)
 ·refine zq rfl ?_ ?_;simp -dsimp only[simprocAttr,↓aa,zp,zc]
  ·exact Sub.aC (by simp[bd])
  simp[bd]
 rintro⟨k,hk⟩;refine aB ?_
 (refine I ?_;simp -dsimp only[ai,ne_eq,Nat.reduceEqDiff,reduceCtorEq])
 apply gr rfl<;>intro h
 ·(refine au ?_;simp -dsimp only[ai,ne_eq,Nat.reduceEqDiff,reduceCtorEq])
  have aN:k<rows.length:=by simpa using h
  obtain⟨r,hr⟩:∃r,rows[k]?=some r:=⟨rows[k],by simp[aN]⟩
  have eN:=List.mem_of_getElem? hr;refine aG (aj ?_);refine aH ?_;simp -dsimp only[simprocAttr,↓aa,zp,hr]
  (refine I ?_;simp -dsimp only[ai,ne_eq,Nat.reduceEqDiff,reduceCtorEq])
  obtain⟨p,r',rfl⟩:∃p r',r=p::r':=List.exists_cons_of_ne_nil (cA r eN);have h1:=PX _ eN;have h2:=dt _ eN p (by simp);simp only[List.length_cons]at h1;have hf:=lZ name many (rows.take k);simp only[List.length_take]at hf;refine aj ?_;refine aB ?_;refine .inl ⟨_,free_spec p,by simp only[aq,ae.upto,zt,zu,ck],ah ?_⟩;simp -dsimp only[simprocAttr,↓aa,zp]
  (refine I ?_;simp -dsimp only[ai,ne_eq,Nat.reduceEqDiff,reduceCtorEq])
  apply aQ rfl<;>intro h
  ·refine fq ?_;simp -dsimp only[simprocAttr,↓aa,zp,List.take_length,List.drop_one,List.tail_cons];refine .inl ⟨_,(xh many (by omega)),by simp only[aq,ae.upto,zt,zu,ck],ah ?_⟩;simp -dsimp only[simprocAttr,↓aa,zp,List.take_length,List.drop_one,List.tail_cons];refine .inl ⟨_,(km [List.replicate many Pat.any,r'] (by simp) (by simp[total];omega)),by simp only[aq,ae.upto,zt,zu,ck],ah ?_⟩;simp -dsimp only[simprocAttr,↓aa,zp];refine⟨by omega,by omega,?_,?_⟩
   ·(show fO _ _=true);kernel_rfl
   (refine I ?_;simp -dsimp only[ai,ne_eq,Nat.reduceEqDiff,reduceCtorEq])
   refine du ?_;refine⟨by omega,by omega,?_⟩
   (refine I ?_;simp -dsimp only[ai,ne_eq,Nat.reduceEqDiff,reduceCtorEq])
   refine⟨⟨k+1,aN⟩,by simp;omega,?_⟩;have e:bd name many (rows.take (k+1))=bd name many (rows.take k)++[List.replicate many Pat.any++r']:=by
    simp[bN hr,ia,bd,h]
   refine zq rfl ?_ ?_;simp -dsimp only[simprocAttr,↓aa,zp,zc]
   ·exact⟨Sub.int (by simp),Sub.aC (by simp[e])⟩
   simp[e]
  have Oq:=h;refine aB ?_
  (refine I ?_;simp -dsimp only[ai,ne_eq,Nat.reduceEqDiff,reduceCtorEq])
  apply aQ rfl<;>intro h
  ·have K8:p.name=name:=by simpa using h
   refine fq ?_;simp -dsimp only[simprocAttr,↓aa,zp,List.take_length,List.drop_one,List.tail_cons];refine .inl ⟨_,(km [p.args,r'] (by simp) (by simp[total];omega)),by simp only[aq,ae.upto,zt,zu,ck],ah ?_⟩;simp -dsimp only[simprocAttr,↓aa,zp];refine⟨by omega,by omega,?_,?_⟩
   ·(show fO _ _=true);kernel_rfl
   (refine I ?_;simp -dsimp only[ai,ne_eq,Nat.reduceEqDiff,reduceCtorEq])
   refine du ?_;refine⟨by omega,by omega,?_⟩
   (refine I ?_;simp -dsimp only[ai,ne_eq,Nat.reduceEqDiff,reduceCtorEq])
   refine⟨⟨k+1,aN⟩,by simp;omega,?_⟩;have e:bd name many (rows.take (k+1))=bd name many (rows.take k)++[p.args++r']:=by
    simp[bN hr,ia,bd,Oq,K8]
   refine zq rfl ?_ ?_;simp -dsimp only[simprocAttr,↓aa,zp,zc]
   ·exact⟨Sub.int (by simp),Sub.aC (by simp[e])⟩
   simp[e]
  have K8:¬p.name=name:=by simpa using h
  (refine au ?_;simp -dsimp only[ai,ne_eq,Nat.reduceEqDiff,reduceCtorEq])
  refine du ?_;refine⟨by omega,by omega,?_⟩
  (refine I ?_;simp -dsimp only[ai,ne_eq,Nat.reduceEqDiff,reduceCtorEq])
  refine⟨⟨k+1,aN⟩,by simp;omega,?_⟩;have e:bd name many (rows.take (k+1))=bd name many (rows.take k):=by
   simp[bN hr,ia,bd,Oq,K8]
  refine zq rfl ?_ ?_;simp -dsimp only[simprocAttr,↓aa,zp,zc]
  ·exact⟨Sub.int (by simp),Sub.aC (by simp[e])⟩
  simp[e]
 refine aM ?_;simp -dsimp only[ai,ne_eq,Nat.reduceEqDiff,reduceCtorEq];have aN:k=rows.length:=by simp at h;omega
 subst aN;refine aB ?_
 (refine I ?_;simp -dsimp only[ai,ne_eq,Nat.reduceEqDiff,reduceCtorEq])
 refine ak ?_;simp -dsimp only[simprocAttr,↓aa,zp,zr,Tryz.results32,List.take_length];simpa using b8 _ _
def iD(f:List Pat->Nat->Bool×Nat):List Pat->Nat->Bool×Nat
 | [],m=>(true,m)
 | p::r,m=>if 400<m+1 then(false,m+1)else match f p.args (m+1)with
  | (true,m2)=>iD f r m2
  | (false,m2)=>(false,m2)
def iS:Nat->List Pat->Nat->Bool×Nat
 | 0,l,m=>(l.isEmpty,m)
 | d+1,l,m=>iD (iS d) l m
theorem xN{f:List Pat->Nat->Bool×Nat}(hf:∀l m,m<=400->(f l m).1=true->(f l m).2<=400):∀(l:List Pat) (m:Nat),m<=400->(iD f l m).1=true->(iD f l m).2<=400
 | [],m,hm,_=>hm
 | p::r,m,hm,h=>by
  simp only[iD]at h ⊢;split at h
  ·cases h
  rename_i aN;rw[if_neg aN];have:=hf p.args (m+1) (by omega);split at h
  ·rename_i m2 he;rw[he]at this;exact xN hf r m2 (this rfl) h
  cases h
theorem rY:∀(d:Nat) (l:List Pat) (m:Nat),m<=400->(iS d l m).1=true->(iS d l m).2<=400
 | 0,_,_,hm,_=>hm
 | d+1,l,m,hm,h=>xN (rY d) l m hm h
abbrev aI(n:Int):ae:=.v (.int .i64 n)
theorem xP:∀(d:Nat) (hd:d<=21) (l:List Pat) (m:Nat) (lr:m<=400) (O:List ay) (hO:∀o∈O,o.upto O.length) (id:Nat) (jE:O[id]?=some (.cells [aI m])),
  aY Tryz.prog 51 O [eR l,aI ((21:Int)-d),.mp id 0] fun r O'=>r=.v (.bool (iS d l m).1)∧O'=O.set id (.cells [aI (iS d l m).2])
 | 0,hd,l,m,lr,O,hO,id,jE=>by
  refine zf true O.length Tryz.func51 Tryz.ntmps51 ?_;dsimp only[Tmp,TypeId,ax];refine aB ?_
  (refine I ?_;simp -dsimp only[ai,ne_eq,Nat.reduceEqDiff,reduceCtorEq])
  refine cj ?_
  (refine I ?_;simp -dsimp only[ai,ne_eq,Nat.reduceEqDiff,reduceCtorEq])
  apply aQ rfl<;>intro h
  ·refine aB ?_
   (refine I ?_;simp -dsimp only[ai,ne_eq,Nat.reduceEqDiff,reduceCtorEq])
   refine ak ?_;simp -dsimp only[simprocAttr,↓aa,zp,zr,Tryz.results51,List.take_length];refine⟨hO,?_,(gQ jE).symm⟩;cases l<;>simp[iS];omega
  simp at h
 | d+1,hd,l,m,lr,O,hO,id,jE=>by
  have R4:=ag jE;have ih:=xP d (by omega);refine zf true O.length Tryz.func51 Tryz.ntmps51 ?_;dsimp only[Tmp,TypeId,ax];refine aB ?_
  (refine I ?_;simp -dsimp only[ai,ne_eq,Nat.reduceEqDiff,reduceCtorEq])
  refine cj ?_
  (refine I ?_;simp -dsimp only[ai,ne_eq,Nat.reduceEqDiff,reduceCtorEq])
  apply aQ rfl<;>intro h
  ·simp at h;omega
  (refine au ?_;simp -dsimp only[ai,ne_eq,Nat.reduceEqDiff,reduceCtorEq])
  refine bT 0 rfl (fun hlen=>?_);simp only[List.length_map]at hlen;refine cj ?_
  (refine I ?_;simp -dsimp only[ai,ne_eq,Nat.reduceEqDiff,reduceCtorEq])
  refine aj (aO (ι:={q:Nat×Nat // q.1<=l.length∧q.2<=400∧iS (d+1) l m=iD (iS d) (l.drop q.1) q.2}) (fun q=>⟨39,[(1,aI ((21:Int)-(d+1:Nat))),(2,.mp id 0),(14,eR l),(15,aI l.length),(16,aI q.1.1)],O.set id (.cells [aI q.1.2])⟩) (fun q=>l.length-q.1.1) ⟨(0,m),by omega,lr,rfl⟩ ?_ ?_)
  ·refine zq rfl ?_ ?_;simp -dsimp only[simprocAttr,↓aa,zp,zc];exact(gQ jE).symm
  rintro⟨⟨k,m'⟩,hk,eS,he⟩;simp only at hk eS he;have Mf:∀x:ay,(O.set id x)[id]?=some x:=fun x=>List.getElem?_set_self R4;have bD:∀(n:Int) (o:ay),o∈O.set id (.cells [aI n])->o.upto O.length:=fun n o ho=>by
   rcases List.mem_or_eq_of_mem_set ho with ho|ho
   ·exact hO o ho
   subst ho;simp[ay.upto,aq,ae.upto]
  obtain⟨O2,oI⟩:∃O2,O2=O.set id (.cells [aI m']):=⟨_,rfl⟩
  have AJ:O2[id]?=some (.cells [aI m']):=by rw[oI];exact Mf _
  have sc:O2.length=O.length:=by rw[oI];simp
  have nQ:∀(X:List ay) (y:ay),X.length=O.length->(X++[y]).take O.length=X:=fun X y h=>by rw[<-h,jY]
  have UJ:∀x,O2.set id x=O.set id x:=fun x=>by rw[oI,List.set_set]
  simp only[<-oI];refine aB ?_
  (refine I ?_;simp -dsimp only[ai,ne_eq,Nat.reduceEqDiff,reduceCtorEq])
  apply gr rfl<;>intro h
  ·(refine au ?_;simp -dsimp only[ai,ne_eq,Nat.reduceEqDiff,reduceCtorEq])
   have aN:k<l.length:=by simpa using h
   obtain⟨p,hp⟩:∃p,l[k]?=some p:=⟨l[k],by simp[aN]⟩
   have gy:l.drop k=p::l.drop (k+1):=by
    rw[List.drop_eq_getElem_cons aN];rw[List.getElem?_eq_getElem aN]at hp;simp only[Option.some.injEq]at hp;rw[hp]
   refine aG (aj ?_);refine aH ?_;simp -dsimp only[simprocAttr,↓aa,zp,hp]
   (refine I ?_;simp -dsimp only[ai,ne_eq,Nat.reduceEqDiff,reduceCtorEq])
   refine aH ?_;simp -dsimp only[simprocAttr,↓aa,zp,jC AJ,nE AJ,UJ];refine⟨by omega,by omega,?_⟩
   (refine I ?_;simp -dsimp only[ai,ne_eq,Nat.reduceEqDiff,reduceCtorEq])
   obtain⟨O3,Cw⟩:∃O3,O3=O.set id (.cells [aI ((m':Int)+1)]):=⟨_,rfl⟩
   have Me:O3[id]?=some (.cells [aI ((m':Int)+1)]):=by rw[Cw];exact Mf _
   have R6:O3.length=O.length:=by rw[Cw];simp
   have Uh:O2.length=O3.length:=by rw[sc,R6]
   rw[<-Cw,Uh];refine aH ?_;simp -dsimp only[simprocAttr,↓aa,zp,jC Me];refine cO (fun h=>?_) (fun h=>?_)
   ·have hle:¬(400<m'+1):=by
     intro hh;simp at h;omega
    simp -dsimp only[simprocAttr,↓aa,zp,h,jC Me];refine⟨by omega,by omega,?_⟩;have ed:(21:Int)-((d+1:Nat):Int)+1=21-(d:Int):=by omega
    simp -dsimp only[ed];have hq:=rY d p.args (m'+1) (by omega);have Sx:∀(x:List ay) (y:ay),(O3++x).set id y=O.set id y++x:=fun x y=>by rw[nE Me,Cw,List.set_set]
    refine .inr (.inl ⟨_,_,(ih p.args (m'+1) (by omega) (O3++[.cells [.v (.int .i64 p.kind),.v (.string p.name),.v (.int .i64 p.n),.aC 4 (p.args.map Pat.enc) .sh]]) (fun o ho=>by rcases List.mem_append.1 ho with ho|ho;exact ay.ep (by simp;omega) (bD _ o (Cw ▸ ho));rw[List.mem_singleton.1 ho];simp[ay.upto,aq,ae.upto,Pat.an]) id (by rw[jC Me];rfl)),.inl (ah ?_)⟩);rw[Sx];obtain⟨⟨b,m2⟩,hb⟩:∃q,q=iS d p.args (m'+1):=⟨_,rfl⟩
    simp only[<-hb]at hq ⊢;have zH:iS (d+1) l m=if b then iD (iS d) (l.drop (k+1)) m2 else(false,m2):=by
     rw[he,gy,iD,if_neg hle,<-hb];cases b<;>rfl
    simp -dsimp only[simprocAttr,↓aa,zp,h]
    (refine I ?_;simp -dsimp only[ai,ne_eq,Nat.reduceEqDiff,reduceCtorEq])
    apply aQ rfl<;>intro h
    ·have TT:b=false:=by simpa using h
     subst TT;refine aB ?_
     (refine I ?_;simp -dsimp only[ai,ne_eq,Nat.reduceEqDiff,reduceCtorEq])
     refine ak ?_;simp -dsimp only[simprocAttr,↓aa,zp,zr,Tryz.results51];simp -dsimp only[nQ _ _ (show(O.set id (.cells [aI (m2:Int)])).length=O.length by simp)];rw[zH];exact⟨by simp,bD _,rfl,rfl⟩
    have xu:b=true:=by simpa using h
    subst xu
    (refine au ?_;simp -dsimp only[ai,ne_eq,Nat.reduceEqDiff,reduceCtorEq])
    refine ba O.length [(1,aI ((21:Int)-(d+1:Nat))),(2,.mp id 0),(14,eR l),(15,aI l.length),(16,aI k)] (by simp) (by omega) (O.set id (.cells [aI m2])) ?_ ?_ ?_ ?_ ?_
    ·exact nQ _ _ (by simp)
    ·exact bD _
    ·simp -dsimp only[simprocAttr,↓aa,zp,dy,exists_eq_left',Option.some.injEq,sub_self,and_true]
    ·simp[ae.upto,aq,Pat.an,R4]
    refine du ?_;refine⟨by omega,by omega,?_⟩
    (refine I ?_;simp -dsimp only[ai,ne_eq,Nat.reduceEqDiff,reduceCtorEq])
    refine⟨⟨(k+1,m2),by omega,hq rfl,by rw[zH];rfl⟩,by simp;omega,?_⟩;refine zq rfl ?_ ?_;simp -dsimp only[simprocAttr,↓aa,zp,zc]
    ·exact Sub.int (by simp)
    rfl
   have Ub:400<m'+1:=by
    simp at h;omega
   simp -dsimp only[simprocAttr,↓aa,zp,h]
   (refine I ?_;simp -dsimp only[ai,ne_eq,Nat.reduceEqDiff,reduceCtorEq])
   refine de rfl ?_;refine aB ?_
   (refine I ?_;simp -dsimp only[ai,ne_eq,Nat.reduceEqDiff,reduceCtorEq])
   refine ak ?_;simp -dsimp only[simprocAttr,↓aa,zp,zr,Tryz.results51];simp -dsimp only[nQ _ _ R6];have zH:iS (d+1) l m=(false,m'+1):=by
    rw[he,gy,iD,if_pos Ub]
   rw[zH];refine⟨by omega,fun o ho=>bD _ o (Cw ▸ ho),rfl,Cw⟩
  refine aM ?_;simp -dsimp only[ai,ne_eq,Nat.reduceEqDiff,reduceCtorEq];have aN:k=l.length:=by simp at h;omega
  subst aN;refine aB ?_
  (refine I ?_;simp -dsimp only[ai,ne_eq,Nat.reduceEqDiff,reduceCtorEq])
  refine ak ?_;simp -dsimp only[simprocAttr,↓aa,zp,zr,Tryz.results51];have zH:iS (d+1) l m=(true,m'):=by
   rw[he,List.drop_length];rfl
  rw[zH,<-sc,List.take_length,sc];exact⟨Nat.le_refl _,fun o ho=>bD _ o (oI ▸ ho),rfl,oI⟩
theorem tP(f:Data->Bool)(id:Nat)(fs cs:List ae)(O:List ay)(hO:∀o∈O,o.upto O.length)(l:List Data)
  (hf:∀p∈l,aY Tryz.prog id O (fs++[p.enc]++cs) fun r O'=>r=.v (.bool (f p))∧O'=O) :
  aY Tryz.prog 86 O [eD l,.fn (.func id) fs cs] fun r O'=>r=.v (.int .i64 (idx f l))∧O'=O:=by
 refine zf true O.length Tryz.func86 Tryz.ntmps86 ?_;dsimp only[Tmp,TypeId,ax];refine aB ?_
 (refine I ?_;simp -dsimp only[ai,ne_eq,Nat.reduceEqDiff,reduceCtorEq])
 refine bT 0 rfl (fun hlen=>?_);simp only[List.length_map]at hlen;refine cj ?_
 (refine I ?_;simp -dsimp only[ai,ne_eq,Nat.reduceEqDiff,reduceCtorEq])
 refine aj (aO (ι:={k:Nat // k<=l.length∧∀j p,j<k->l[j]?=some p->f p=false}) (fun k=>⟨19,[(0,eD l),(1,.fn (.func id) fs cs),(7,.v (.int .i64 l.length)),(8,.v (.int .i64 k.1))],O⟩) (fun k=>l.length-k.1) ⟨0,by omega,by intros;omega⟩ ?_ ?_)
 ·refine zq rfl ?_ ?_;simp -dsimp only[simprocAttr,↓aa,zp,zc];rfl
 rintro⟨k,hk,bq⟩;refine aB ?_
 (refine I ?_;simp -dsimp only[ai,ne_eq,Nat.reduceEqDiff,reduceCtorEq])
 apply gr rfl<;>intro h
 ·(refine au ?_;simp -dsimp only[ai,ne_eq,Nat.reduceEqDiff,reduceCtorEq])
  have aN:k<l.length:=by simpa using h
  obtain⟨p,hp⟩:∃p,l[k]?=some p:=⟨l[k],by simp[aN]⟩
  have eN:=List.mem_of_getElem? hp;refine aG (aj ?_);refine aB ?_
  (refine I ?_;simp -dsimp only[ai,ne_eq,Nat.reduceEqDiff,reduceCtorEq])
  refine aH ?_;simp -dsimp only[simprocAttr,↓aa,zp,hp];refine .inr (.inr ⟨_,(hf p eN),ah (zj ?_)⟩)
  (refine I ?_;simp -dsimp only[ai,ne_eq,Nat.reduceEqDiff,reduceCtorEq])
  apply aQ rfl<;>intro h
  ·refine aB ?_
   (refine I ?_;simp -dsimp only[ai,ne_eq,Nat.reduceEqDiff,reduceCtorEq])
   refine ak ?_;simp -dsimp only[simprocAttr,↓aa,zp,zr,Tryz.results86,List.take_length];rw[jw hp h bq];simpa using hO
  (refine au ?_;simp -dsimp only[ai,ne_eq,Nat.reduceEqDiff,reduceCtorEq])
  have hb:f p=false:=by simpa using h
  refine du ?_;refine⟨by omega,by omega,?_⟩
  (refine I ?_;simp -dsimp only[ai,ne_eq,Nat.reduceEqDiff,reduceCtorEq])
  refine⟨⟨k+1,aN,fun j q hj hq=>?_⟩,by simp;omega,?_⟩
  ·rcases Nat.lt_succ_iff_lt_or_eq.1 hj with hj|hj
   ·exact bq j q hj hq
   subst hj;rw[hp]at hq;simp only[Option.some.injEq]at hq;rw[<-hq];exact hb
  refine zq rfl ?_ ?_;simp -dsimp only[simprocAttr,↓aa,zp,zc]
  ·exact Sub.int (by simp)
  rfl
 refine aM ?_;simp -dsimp only[ai,ne_eq,Nat.reduceEqDiff,reduceCtorEq];have aN:k=l.length:=by simp at h;omega
 subst aN;refine aB ?_
 (refine I ?_;simp -dsimp only[ai,ne_eq,Nat.reduceEqDiff,reduceCtorEq])
 refine ak ?_;simp -dsimp only[simprocAttr,↓aa,zp,zr,Tryz.results86,List.take_length];rw[jv bq];simpa using hO
theorem qg(f:Data->Bool)(id:Nat)(fs cs:List ae)(O:List ay)(hO:∀o∈O,o.upto O.length)(l:List Data)
  (hf:∀p∈l,aY Tryz.prog id O (fs++[p.enc]++cs) fun r O'=>r=.v (.bool (f p))∧O'=O) :
  aY Tryz.prog 52 O [eD l,.fn (.func id) fs cs] fun r O'=>r=.v (.bool (l.any f))∧O'=O:=by
 refine zf true O.length Tryz.func52 Tryz.ntmps52 ?_;dsimp only[Tmp,TypeId,ax];refine aB ?_
 (refine I ?_;simp -dsimp only[ai,ne_eq,Nat.reduceEqDiff,reduceCtorEq])
 refine aB ?_;refine .inr (.inr ⟨_,(tP f id fs cs O hO l hf),ah (zj ?_)⟩)
 (refine I ?_;simp -dsimp only[ai,ne_eq,Nat.reduceEqDiff,reduceCtorEq])
 refine ak ?_;simp -dsimp only[simprocAttr,↓aa,zp,zr,Tryz.results52,List.take_length];rw[np];simpa using hO
theorem Be(d:Data):aV Tryz.prog 53 [d.enc] (.v (.bool (decide ((256:Int)<d.cons.length)))):=by
 refine zf true 0 Tryz.func53 Tryz.ntmps53 ?_;dsimp only[Tmp,TypeId,ax];refine aB ?_
 (refine I ?_;simp -dsimp only[ai,ne_eq,Nat.reduceEqDiff,reduceCtorEq])
 refine aB ?_
 (refine I ?_;simp -dsimp only[ai,ne_eq,Nat.reduceEqDiff,reduceCtorEq])
 refine ak ?_;simp -dsimp only[simprocAttr,↓aa,zp,zr,Tryz.results53]
def dP:List (List Pat)->Nat->Bool
 | [],_=>true
 | r::rows,m=>if 16<r.length then false else match iS 20 r m with
  | (true,m2)=>dP rows m2
  | (false,_)=>false
def small(datas:List Data)(rows:List (List Pat)):Bool:=dP rows 0&&(decide (rows.length<=64)&&!datas.any (fun d=>decide ((256:Int)<d.cons.length)))
theorem Dd(datas:List Data)(rows:List (List Pat)):aV Tryz.prog 25 [eD datas,kV rows] (.v (.bool (small datas rows))):=by
 refine zf true 0 Tryz.func25 Tryz.ntmps25 ?_;dsimp only[Tmp,TypeId,ax];refine aB ?_
 (refine I ?_;simp -dsimp only[ai,ne_eq,Nat.reduceEqDiff,reduceCtorEq])
 refine aB ?_
 (refine I ?_;simp -dsimp only[ai,ne_eq,Nat.reduceEqDiff,reduceCtorEq])
 refine bT 1 rfl (fun hlen=>?_);simp only[List.length_map]at hlen;refine cj ?_
 (refine I ?_;simp -dsimp only[ai,ne_eq,Nat.reduceEqDiff,reduceCtorEq])
 refine aj (aO (ι:={q:Nat×Nat // q.1<=rows.length∧q.2<=400∧dP rows 0=dP (rows.drop q.1) q.2}) (fun q=>⟨31,[(0,eD datas),(1,kV rows),(5,.mp 0 0),(8,kV rows),(9,aI rows.length),(10,aI q.1.1)],[.cells [aI q.1.2]]⟩) (fun q=>rows.length-q.1.1) ⟨(0,0),by omega,by omega,rfl⟩ ?_ ?_)
 ·refine zq rfl ?_ ?_;simp -dsimp only[simprocAttr,↓aa,zp,zc];rfl
 rintro⟨⟨k,m⟩,hk,lr,he⟩;simp only at hk lr he;refine aB ?_
 (refine I ?_;simp -dsimp only[ai,ne_eq,Nat.reduceEqDiff,reduceCtorEq])
 apply gr rfl<;>intro h
 ·(refine au ?_;simp -dsimp only[ai,ne_eq,Nat.reduceEqDiff,reduceCtorEq])
  have aN:k<rows.length:=by simpa using h
  obtain⟨r,hr⟩:∃r,rows[k]?=some r:=⟨rows[k],by simp[aN]⟩
  have gy:rows.drop k=r::rows.drop (k+1):=by
   rw[List.drop_eq_getElem_cons aN];rw[List.getElem?_eq_getElem aN]at hr;simp only[Option.some.injEq]at hr;rw[hr]
  refine aG (aj ?_);refine aH ?_;simp -dsimp only[simprocAttr,↓aa,zp,hr]
  (refine I ?_;simp -dsimp only[ai,ne_eq,Nat.reduceEqDiff,reduceCtorEq])
  refine aB ?_;refine cO (fun h=>?_) (fun h=>?_)
  ·have hle:¬(16<r.length):=by
    simp at h;omega
   simp -dsimp only[simprocAttr,↓aa,zp,h];refine .inr (.inl ⟨_,_,(xP 20 (by omega) r m lr [.cells [aI m]] (by simp[ay.upto,aq,ae.upto]) 0 rfl),.inl (ah ?_)⟩);have hq:=rY 20 r m lr;obtain⟨⟨b,m2⟩,hb⟩:∃q,q=iS 20 r m:=⟨_,rfl⟩
   simp only[<-hb]at hq ⊢;have zH:dP rows 0=if b then dP (rows.drop (k+1)) m2 else false:=by
    rw[he,gy,dP,if_neg hle,<-hb];cases b<;>rfl
   simp -dsimp only[simprocAttr,↓aa,zp,h]
   (refine I ?_;simp -dsimp only[ai,ne_eq,Nat.reduceEqDiff,reduceCtorEq])
   apply aQ rfl<;>intro h
   ·have TT:b=false:=by simpa using h
    subst TT;refine aB ?_
    (refine I ?_;simp -dsimp only[ai,ne_eq,Nat.reduceEqDiff,reduceCtorEq])
    refine ak ?_;simp -dsimp only[simprocAttr,↓aa,zp,zr,Tryz.results25];simp[small,zH]
   have xu:b=true:=by simpa using h
   subst xu
   (refine au ?_;simp -dsimp only[ai,ne_eq,Nat.reduceEqDiff,reduceCtorEq])
   refine du ?_;refine⟨by omega,by omega,?_⟩
   (refine I ?_;simp -dsimp only[ai,ne_eq,Nat.reduceEqDiff,reduceCtorEq])
   refine⟨⟨(k+1,m2),by omega,hq rfl,by rw[zH];rfl⟩,by simp;omega,?_⟩;refine zq rfl ?_ ?_;simp -dsimp only[simprocAttr,↓aa,zp,zc]
   ·exact Sub.int (by simp)
   rfl
  have Ub:16<r.length:=by
   simp at h;omega
  simp -dsimp only[simprocAttr,↓aa,zp,h]
  (refine I ?_;simp -dsimp only[ai,ne_eq,Nat.reduceEqDiff,reduceCtorEq])
  refine de rfl ?_;refine aB ?_
  (refine I ?_;simp -dsimp only[ai,ne_eq,Nat.reduceEqDiff,reduceCtorEq])
  refine ak ?_;simp -dsimp only[simprocAttr,↓aa,zp,zr,Tryz.results25];simp[small,he,gy,dP,Ub]
 refine aM ?_;simp -dsimp only[ai,ne_eq,Nat.reduceEqDiff,reduceCtorEq];have aN:k=rows.length:=by simp at h;omega
 subst aN;have zH:dP rows 0=true:=by rw[he,List.drop_length];rfl
 refine aB ?_;refine cO (fun h=>?_) (fun h=>?_)
 ·have HT:rows.length<=64:=by
   simp at h;omega
  simp -dsimp only[simprocAttr,↓aa,zp,h];refine .inr (.inr ⟨_,(qg (fun d=>decide ((256:Int)<d.cons.length)) 53 [] [] [.cells [aI m]] (by simp[ay.upto,aq,ae.upto]) datas (fun d _=>(Be d).use (by simp[aq,Data.aF]) _)),ah ?_⟩);simp -dsimp only[simprocAttr,↓aa,zp,h]
  (refine I ?_;simp -dsimp only[ai,ne_eq,Nat.reduceEqDiff,reduceCtorEq])
  refine ak ?_;simp -dsimp only[simprocAttr,↓aa,zp,zr,Tryz.results25];simp[small,zH,HT]
 have HT:¬rows.length<=64:=by
  simp at h;omega
 simp -dsimp only[simprocAttr,↓aa,zp,h]
 (refine I ?_;simp -dsimp only[ai,ne_eq,Nat.reduceEqDiff,reduceCtorEq])
 refine ak ?_;simp -dsimp only[simprocAttr,↓aa,zp,zr,Tryz.results25];simp[small,HT]
def bF.gu(t:bF)(s:ByteArray):K:=(find t.cons s).getD K.zero
theorem QA(l:List (ByteArray×K))(s:ByteArray):((find l s).map K.enc).getD (.agg [.v (.int .i64 0),.v (.int .i64 0),.v (.int .i64 0)])=.agg [.v (.int .i64 ((find l s).getD K.zero).data),.v (.int .i64 ((find l s).getD K.zero).pos),.v (.int .i64 ((find l s).getD K.zero).many)]:=xF l s _ rfl
def bF.kind(t:bF)(p:Pat):Int:=if p.kind=2 then -1 else if p.kind=3 then(t.gu p.name).data else -2
theorem xD(t:bF)(p:Pat):aV Tryz.prog 56 [t.enc,p.enc] (.v (.int .i64 (t.kind p))):=by
 refine zf true 0 Tryz.func56 Tryz.ntmps56 ?_;dsimp only[Tmp,TypeId,ax];refine aB ?_
 (refine I ?_;simp -dsimp only[ai,ne_eq,Nat.reduceEqDiff,reduceCtorEq])
 refine cj ?_
 (refine I ?_;simp -dsimp only[ai,ne_eq,Nat.reduceEqDiff,reduceCtorEq])
 refine aj ?_;refine aB ?_
 (refine I ?_;simp -dsimp only[ai,ne_eq,Nat.reduceEqDiff,reduceCtorEq])
 apply aQ rfl<;>intro h
 ·have hk:p.kind=2:=by simpa using h
  refine aB ?_
  (refine I ?_;simp -dsimp only[ai,ne_eq,Nat.reduceEqDiff,reduceCtorEq])
  refine ak ?_;simp -dsimp only[simprocAttr,↓aa,zp,zr,Tryz.results56];simp[bF.kind,hk]
 have FF:¬p.kind=2:=by simpa using h
 refine aB ?_
 (refine I ?_;simp -dsimp only[ai,ne_eq,Nat.reduceEqDiff,reduceCtorEq])
 apply aQ rfl<;>intro h
 ·have hk:p.kind=3:=by simpa using h
  refine aH ?_;simp -dsimp only[simprocAttr,↓aa,zp,QA]
  (refine I ?_;simp -dsimp only[ai,ne_eq,Nat.reduceEqDiff,reduceCtorEq])
  refine ak ?_;simp -dsimp only[simprocAttr,↓aa,zp,zr,Tryz.results56];simp[bF.kind,hk,bF.gu]
 have hk:¬p.kind=3:=by simpa using h
 (refine au ?_;simp -dsimp only[ai,ne_eq,Nat.reduceEqDiff,reduceCtorEq])
 refine aB ?_
 (refine I ?_;simp -dsimp only[ai,ne_eq,Nat.reduceEqDiff,reduceCtorEq])
 refine ak ?_;simp -dsimp only[simprocAttr,↓aa,zp,zr,Tryz.results56];simp[bF.kind,hk,FF]
mutual
def bF.pattern(t:bF):Pat->Int
 | .mk k s n l=>if k=0 then 0 else if k=1 then 0 else if k=2 then(if n < -1073741824 then 4 else if 1073741823<n then 4 else 0)else if k=3 then(match find t.cons s with
  | none=>6
  | some c=>if l.length=c.many then t.dD l else 3)else 3
def bF.dD(t:bF):List Pat->Int
 | []=>0
 | p::r=>if t.pattern p=0 then t.dD r else t.pattern p
end
theorem bF.jV(t:bF)(p:Pat):t.pattern p=if p.kind=0 then 0 else if p.kind=1 then 0 else if p.kind=2 then(if p.n < -1073741824 then 4 else if 1073741823<p.n then 4 else 0)else if p.kind=3 then(match find t.cons p.name with
  | none=>6
  | some c=>if p.args.length=c.many then t.dD p.args else 3)else 3:=by
 cases p;rw[bF.pattern];rfl
theorem rM(t:bF)(p:Pat):aV Tryz.prog 27 [t.enc,p.enc] (.v (.int .i64 (t.pattern p))):=by
  have ih:∀q∈p.args,aV Tryz.prog 27 [t.enc,q.enc] (.v (.int .i64 (t.pattern q))):=fun q hq=>rM t q;have he:=t.jV p;obtain⟨z,hz⟩:∃z,z=t.pattern p:=⟨_,rfl⟩
  rw[<-hz]at he ⊢;refine zf true 0 Tryz.func27 Tryz.ntmps27 ?_;dsimp only[Tmp,TypeId,ax];refine aB ?_
  (refine I ?_;simp -dsimp only[ai,ne_eq,Nat.reduceEqDiff,reduceCtorEq])
  refine cj ?_
  (refine I ?_;simp -dsimp only[ai,ne_eq,Nat.reduceEqDiff,reduceCtorEq])
  refine aj ?_;refine cj ?_
  (refine I ?_;simp -dsimp only[ai,ne_eq,Nat.reduceEqDiff,reduceCtorEq])
  apply aQ rfl<;>intro h
  ·have h0:p.kind=0:=by simpa using h
   rw[if_pos h0]at he
   (refine au ?_;simp -dsimp only[ai,ne_eq,Nat.reduceEqDiff,reduceCtorEq])
   apply aQ rfl<;>intro h
   ·refine aB ?_
    (refine I ?_;simp -dsimp only[ai,ne_eq,Nat.reduceEqDiff,reduceCtorEq])
    refine ak ?_;simp -dsimp only[simprocAttr,↓aa,zp,zr,Tryz.results27];rw[he]
   simp[h0]at h
  have h0:¬p.kind=0:=by simpa using h
  rw[if_neg h0]at he;refine du ?_
  (refine I ?_;simp -dsimp only[ai,ne_eq,Nat.reduceEqDiff,reduceCtorEq])
  apply aQ rfl<;>intro h
  ·have h1:p.kind=1:=by simpa using h
   rw[if_pos h1]at he;refine aB ?_
   (refine I ?_;simp -dsimp only[ai,ne_eq,Nat.reduceEqDiff,reduceCtorEq])
   refine ak ?_;simp -dsimp only[simprocAttr,↓aa,zp,zr,Tryz.results27];rw[he]
  have h1:¬p.kind=1:=by simpa using h
  rw[if_neg h1]at he;refine aB ?_
  (refine I ?_;simp -dsimp only[ai,ne_eq,Nat.reduceEqDiff,reduceCtorEq])
  apply aQ rfl<;>intro h
  ·have h2:p.kind=2:=by simpa using h
   rw[if_pos h2]at he;refine cj ?_;refine cO (fun h=>?_) (fun h=>?_)
   ·have h3:¬p.n < -1073741824:=by simpa using h
    rw[if_neg h3]at he;simp -dsimp only[simprocAttr,↓aa,zp,h]
    (refine I ?_;simp -dsimp only[ai,ne_eq,Nat.reduceEqDiff,reduceCtorEq])
    apply aQ rfl<;>intro h
    ·have h4:1073741823<p.n:=by simpa using h
     rw[if_pos h4]at he;refine aB ?_
     (refine I ?_;simp -dsimp only[ai,ne_eq,Nat.reduceEqDiff,reduceCtorEq])
     refine ak ?_;simp -dsimp only[simprocAttr,↓aa,zp,zr,Tryz.results27];rw[he]
    have h4:¬1073741823<p.n:=by simpa using h
    rw[if_neg h4]at he
    (refine au ?_;simp -dsimp only[ai,ne_eq,Nat.reduceEqDiff,reduceCtorEq])
    refine aB ?_
    (refine I ?_;simp -dsimp only[ai,ne_eq,Nat.reduceEqDiff,reduceCtorEq])
    refine ak ?_;simp -dsimp only[simprocAttr,↓aa,zp,zr,Tryz.results27];rw[he]
   have h3:p.n < -1073741824:=by simpa using h
   rw[if_pos h3]at he;simp -dsimp only[simprocAttr,↓aa,zp,h]
   (refine I ?_;simp -dsimp only[ai,ne_eq,Nat.reduceEqDiff,reduceCtorEq])
   refine de rfl ?_;refine aB ?_
   (refine I ?_;simp -dsimp only[ai,ne_eq,Nat.reduceEqDiff,reduceCtorEq])
   refine ak ?_;simp -dsimp only[simprocAttr,↓aa,zp,zr,Tryz.results27];rw[he]
  have h2:¬p.kind=2:=by simpa using h
  rw[if_neg h2]at he;refine aB ?_
  (refine I ?_;simp -dsimp only[ai,ne_eq,Nat.reduceEqDiff,reduceCtorEq])
  apply aQ rfl<;>intro h
  ·have h3:p.kind=3:=by simpa using h
   rw[if_pos h3]at he
   (refine au ?_;simp -dsimp only[ai,ne_eq,Nat.reduceEqDiff,reduceCtorEq])
   cases S':find t.cons p.name with
   | none =>
    rw[S']at he;refine aH ?_;simp -dsimp only[simprocAttr,↓aa,zp,S',Option.getD_none]
    (refine I ?_;simp -dsimp only[ai,ne_eq,Nat.reduceEqDiff,reduceCtorEq])
    refine aG (aj ?_);refine aB ?_
    (refine I ?_;simp -dsimp only[ai,ne_eq,Nat.reduceEqDiff,reduceCtorEq])
    refine de rfl ?_;refine aB ?_
    (refine I ?_;simp -dsimp only[ai,ne_eq,Nat.reduceEqDiff,reduceCtorEq])
    refine ak ?_;simp -dsimp only[simprocAttr,↓aa,zp,zr,Tryz.results27];rw[he]
   | some c =>
    rw[S']at he;simp only at he;refine aH ?_;simp -dsimp only[simprocAttr,↓aa,zp,S',Option.getD_some]
    (refine I ?_;simp -dsimp only[ai,ne_eq,Nat.reduceEqDiff,reduceCtorEq])
    refine aG (aj ?_);refine aB ?_
    (refine I ?_;simp -dsimp only[ai,ne_eq,Nat.reduceEqDiff,reduceCtorEq])
    apply aQ rfl<;>intro h
    ·cases h
    refine aB ?_
    (refine I ?_;simp -dsimp only[ai,ne_eq,Nat.reduceEqDiff,reduceCtorEq])
    apply aQ rfl<;>intro h
    ·have hl:¬p.args.length=c.many:=by
      simp at h;omega
     rw[if_neg hl]at he;refine aB ?_
     (refine I ?_;simp -dsimp only[ai,ne_eq,Nat.reduceEqDiff,reduceCtorEq])
     refine ak ?_;simp -dsimp only[simprocAttr,↓aa,zp,zr,Tryz.results27];rw[he]
    have hl:p.args.length=c.many:=by
     simp at h;omega
    rw[if_pos hl]at he
    (refine au ?_;simp -dsimp only[ai,ne_eq,Nat.reduceEqDiff,reduceCtorEq])
    refine cj ?_
    (refine I ?_;simp -dsimp only[ai,ne_eq,Nat.reduceEqDiff,reduceCtorEq])
    refine bT 46 rfl (fun hlen=>?_);simp only[List.length_map]at hlen;refine aj (aO (ι:={k:Nat // k<=p.args.length∧t.dD p.args=t.dD (p.args.drop k)}) (fun k=>⟨59,[(2,.mp 0 0),(46,eR p.args),(47,aI p.args.length),(48,aI k.1)],[.cells [.aC 3 (t.datas.map Data.enc) .sh,.im .str (t.cons.map entry)],.cells [.v (.int .i64 p.kind),.v (.string p.name),.v (.int .i64 p.n),.aC 4 (p.args.map Pat.enc) .sh],.cells [.v (.int .i64 c.data),.v (.int .i64 c.pos),.v (.int .i64 c.many)]]⟩) (fun k=>p.args.length-k.1) ⟨0,by omega,rfl⟩ ?_ ?_)
    ·refine zq rfl ?_ ?_;simp -dsimp only[simprocAttr,↓aa,zp,zc];rfl
    rintro⟨k,hk,hL⟩;refine aB ?_
    (refine I ?_;simp -dsimp only[ai,ne_eq,Nat.reduceEqDiff,reduceCtorEq])
    apply gr rfl<;>intro h
    ·(refine au ?_;simp -dsimp only[ai,ne_eq,Nat.reduceEqDiff,reduceCtorEq])
     have aN:k<p.args.length:=by simpa using h
     obtain⟨q,hq⟩:∃q,p.args[k]?=some q:=⟨p.args[k],by simp[aN]⟩
     have gy:p.args.drop k=q::p.args.drop (k+1):=by
      rw[List.drop_eq_getElem_cons aN];rw[List.getElem?_eq_getElem aN]at hq;simp only[Option.some.injEq]at hq;rw[hq]
     rw[gy,bF.dD]at hL;have Xl:=ih q (List.mem_of_getElem? hq);refine aG (aj ?_);refine aH ?_;simp -dsimp only[simprocAttr,↓aa,zp,hq]
     (refine I ?_;simp -dsimp only[ai,ne_eq,Nat.reduceEqDiff,reduceCtorEq])
     refine aB ?_;refine .inl ⟨_,Xl,by simp only[aq,ae.upto,zt,zu,ck],ah ?_⟩;simp -dsimp only[simprocAttr,↓aa,zp]
     (refine I ?_;simp -dsimp only[ai,ne_eq,Nat.reduceEqDiff,reduceCtorEq])
     refine aB ?_
     (refine I ?_;simp -dsimp only[ai,ne_eq,Nat.reduceEqDiff,reduceCtorEq])
     apply aQ rfl<;>intro h
     ·have hz:¬t.pattern q=0:=by simpa using h
      refine aB ?_
      (refine I ?_;simp -dsimp only[ai,ne_eq,Nat.reduceEqDiff,reduceCtorEq])
      refine ak ?_;simp -dsimp only[simprocAttr,↓aa,zp,zr,Tryz.results27];rw[he,hL,if_neg hz]
     have hz:t.pattern q=0:=by simpa using h
     rw[if_pos hz]at hL
     (refine au ?_;simp -dsimp only[ai,ne_eq,Nat.reduceEqDiff,reduceCtorEq])
     refine ba 3 [(2,.mp 0 0),(46,eR p.args),(47,aI p.args.length),(48,aI k)] (by simp) (by simp) [.cells [.aC 3 (t.datas.map Data.enc) .sh,.im .str (t.cons.map entry)],.cells [.v (.int .i64 p.kind),.v (.string p.name),.v (.int .i64 p.n),.aC 4 (p.args.map Pat.enc) .sh],.cells [.v (.int .i64 c.data),.v (.int .i64 c.pos),.v (.int .i64 c.many)]] ?_ ?_ ?_ ?_ ?_
     ·rfl
     ·simp[ay.upto,aq,ae.upto,Data.an,Pat.an,bM]
     ·simp -dsimp only[simprocAttr,↓aa,zp,dy,exists_eq_left',Option.some.injEq,sub_self,and_true]
     ·simp[ae.upto,aq,Pat.an]
     refine du ?_;refine⟨by omega,by omega,?_⟩
     (refine I ?_;simp -dsimp only[ai,ne_eq,Nat.reduceEqDiff,reduceCtorEq])
     refine⟨⟨k+1,aN,hL⟩,by simp;omega,?_⟩;refine zq rfl ?_ ?_;simp -dsimp only[simprocAttr,↓aa,zp,zc]
     ·exact Sub.int (by simp)
     rfl
    refine aM ?_;simp -dsimp only[ai,ne_eq,Nat.reduceEqDiff,reduceCtorEq];have aN:k=p.args.length:=by simp at h;omega
    subst aN;refine aB ?_
    (refine I ?_;simp -dsimp only[ai,ne_eq,Nat.reduceEqDiff,reduceCtorEq])
    refine ak ?_;simp -dsimp only[simprocAttr,↓aa,zp,zr,Tryz.results27];rw[he,hL,List.drop_length];rfl
  have h3:¬p.kind=3:=by simpa using h
  rw[if_neg h3]at he;refine aB ?_
  (refine I ?_;simp -dsimp only[ai,ne_eq,Nat.reduceEqDiff,reduceCtorEq])
  refine ak ?_;simp -dsimp only[simprocAttr,↓aa,zp,zr,Tryz.results27];rw[he]
termination_by SizeOf.sizeOf p
decreasing_by
 cases p;simp only[Pat.args]at hq;have:=List.sizeOf_lt_of_mem hq;simp;omega
theorem x4(O:List ay)(hO:∀o∈O,o.upto O.length)(id:Nat)(m:Int)(jE:O[id]?=some (.cells [aI m]))(p:Pat) :
  aY Tryz.prog 59 O [p.enc,.mp id 0] fun r O'=>r=.v (.bool (decide (p.n=m)))∧O'=O:=by
 refine zf true O.length Tryz.func59 Tryz.ntmps59 ?_;dsimp only[Tmp,TypeId,ax];refine aB ?_
 (refine I ?_;simp -dsimp only[ai,ne_eq,Nat.reduceEqDiff,reduceCtorEq])
 refine aH ?_;simp -dsimp only[simprocAttr,↓aa,zp,jC jE]
 (refine I ?_;simp -dsimp only[ai,ne_eq,Nat.reduceEqDiff,reduceCtorEq])
 refine ak ?_;simp -dsimp only[simprocAttr,↓aa,zp,zr,Tryz.results59,jY]
 try simp
 exact hO
theorem x5(O:List ay)(hO:∀o∈O,o.upto O.length)(id:Nat)(s:ByteArray)(a:ae)(jE:O[id]?=some (.cells [.v (.string s),a]))(p:Pat) :
  aY Tryz.prog 60 O [p.enc,.mp id 0] fun r O'=>r=.v (.bool (decide (p.name=s)))∧O'=O:=by
 refine zf true O.length Tryz.func60 Tryz.ntmps60 ?_;dsimp only[Tmp,TypeId,ax];refine aB ?_
 (refine I ?_;simp -dsimp only[ai,ne_eq,Nat.reduceEqDiff,reduceCtorEq])
 refine aH ?_;simp -dsimp only[simprocAttr,↓aa,zp,jC jE]
 (refine I ?_;simp -dsimp only[ai,ne_eq,Nat.reduceEqDiff,reduceCtorEq])
 refine ak ?_;simp -dsimp only[simprocAttr,↓aa,zp,zr,Tryz.results60,jY]
 try simp
 exact hO
theorem zO(O:List ay)(hO:∀o∈O,o.upto O.length)(id:Nat)(q:Pat)(jE:O[id]?=some (.cells [.v (.int .i64 q.kind),.v (.string q.name),.v (.int .i64 q.n),.aC 4 (q.args.map Pat.enc) .sh]))(p:Pat) :
  aY Tryz.prog 58 O [p.enc,.mp id 0] fun r O'=>r=.v (.bool (decide (p.name=q.name)))∧O'=O:=by
 refine zf true O.length Tryz.func58 Tryz.ntmps58 ?_;dsimp only[Tmp,TypeId,ax];refine aB ?_
 (refine I ?_;simp -dsimp only[ai,ne_eq,Nat.reduceEqDiff,reduceCtorEq])
 refine aH ?_;simp -dsimp only[simprocAttr,↓aa,zp,jC jE]
 (refine I ?_;simp -dsimp only[ai,ne_eq,Nat.reduceEqDiff,reduceCtorEq])
 refine ak ?_;simp -dsimp only[simprocAttr,↓aa,zp,zr,Tryz.results58,jY]
 try simp
 exact hO
theorem C9:∀(n:Nat) (l:List Int),(∀j:Nat,j<n->(j:Int)∈l)->n<=l.length
 | 0,_,_=>Nat.zero_le _
 | n+1,l,h=>by
  have hn:=h n (by omega);have ih:=C9 n (l.erase (n:Int)) (fun j hj=>by
   rw[List.mem_erase_of_ne (by omega)];exact h j (by omega))
  rw[List.length_erase_of_mem hn]at ih;have:0<l.length:=List.length_pos_of_mem hn;omega
def kQ(l:List Pat):Nat->Nat->Nat
 | n,0=>n
 | n,f+1=>if l.any (fun p=>decide (p.n=(n:Int)))then kQ l (n+1) f else n
def fw(l:List Pat):List fa->Option fa
 | []=>none
 | c::r=>if l.any (fun p=>decide (p.name=c.name))then fw l r else some c
def bF.mY(t:bF)(l:List Pat):Option Pat :=
 match l with
 | []=>some Pat.any
 | p::_ =>
  if p.kind=2 then some (.mk 2 ByteArray.empty (kQ l 0 (l.length+1)) [])
  else match t.datas[(t.gu p.name).data]? with
   | none=>none
   | some d=>(fw l d.cons).map fun c=>.mk 3 c.name 0 (List.replicate c.args.length Pat.any)
def my:Option Pat->ae
 | some p=>.c5 [p.enc,.v (.bool true)]
 | none=>.c5 [Pat.any.enc,.v (.bool false)]
theorem BJ(t:bF):aV Tryz.prog 30 [t.enc,eR []] (.c5 [Pat.any.enc,.v (.bool true)]):=by
 refine zf true 0 Tryz.func30 Tryz.ntmps30 ?_;dsimp only[Tmp,TypeId,ax];refine aB ?_
 (refine I ?_;simp -dsimp only[ai,ne_eq,Nat.reduceEqDiff,reduceCtorEq])
 refine cj ?_
 (refine I ?_;simp -dsimp only[ai,ne_eq,Nat.reduceEqDiff,reduceCtorEq])
 refine de rfl ?_;refine aB ?_
 (refine I ?_;simp -dsimp only[ai,ne_eq,Nat.reduceEqDiff,reduceCtorEq])
 refine ak ?_;simp -dsimp only[simprocAttr,↓aa,zp,zr,Tryz.results30];exact⟨by simp[aq,ae.upto],rfl⟩
theorem CT{l:List Pat}{n f:Nat}(h:l.any (fun p=>decide (p.n=(n:Int)))=false):kQ l n f=n:=by
 cases f with
 | zero=>rfl
 | succ f=>rw[kQ,h];rfl
theorem BI(t:bF)(p:Pat)(r:List Pat)(hk:p.kind=2)(hb:r.length<=2 ^ 30):aV Tryz.prog 30 [t.enc,eR (p::r)] (.c5 [(Pat.mk 2 ByteArray.empty (kQ (p::r) 0 (r.length+2)) []).enc,.v (.bool true)]):=by
 obtain⟨l,hl⟩:∃l,l=p::r:=⟨_,rfl⟩
 have hlen:l.length=r.length+1:=by rw[hl];rfl
 refine zf true 0 Tryz.func30 Tryz.ntmps30 ?_;dsimp only[Tmp,TypeId,ax];refine aB ?_
 (refine I ?_;simp -dsimp only[ai,ne_eq,Nat.reduceEqDiff,reduceCtorEq])
 refine cj ?_
 (refine I ?_;simp -dsimp only[ai,ne_eq,Nat.reduceEqDiff,reduceCtorEq])
 apply aQ rfl<;>intro h
 ·simp at h;omega
 (refine au ?_;simp -dsimp only[ai,ne_eq,Nat.reduceEqDiff,reduceCtorEq])
 refine cg ?_;simp -dsimp only[simprocAttr,↓aa,zp,hk]
 (refine I ?_;simp -dsimp only[ai,ne_eq,Nat.reduceEqDiff,reduceCtorEq])
 apply aQ rfl<;>intro h
 ·refine aB ?_
  (refine I ?_;simp -dsimp only[ai,ne_eq,Nat.reduceEqDiff,reduceCtorEq])
  have rB:(ae.aC 4 (p.enc::List.map Pat.enc r) .sh)=eR l:=by rw[hl];rfl
  simp -dsimp only[rB,<-hl];refine aG (aj (aO (ι:={n:Nat // n<=l.length∧(∀j:Nat,j<n->(j:Int)∈l.map Pat.n)∧kQ l 0 (r.length+2)=kQ l n (r.length+2-n)}) (fun n=>⟨56,[(1,eR l),(4,.mp 1 0),(6,.mp 2 0),(5,.v (.bool false))],[.cells [.aC 3 (t.datas.map Data.enc) .sh,.im .str (t.cons.map entry)],.cells cP,.cells [aI n.1]]⟩) (fun n=>l.length-n.1) ⟨0,by omega,by intros;omega,rfl⟩ ?_ ?_))
  ·refine zq rfl ?_ ?_;simp -dsimp only[simprocAttr,↓aa,zp,zc];rfl
  rintro⟨n,hn,hj,he⟩;refine cj ?_;refine .inr (.inr ⟨_,(jq (fun p=>decide (p.n=(n:Int))) 59 [] [.mp 2 0] [.cells [.aC 3 (t.datas.map Data.enc) .sh,.im .str (t.cons.map entry)],.cells cP,.cells [aI n]] (by simp[ay.upto,aq,ae.upto,cP,Data.an,bM]) l (fun p _=>x4 _ (by simp[ay.upto,aq,ae.upto,cP,Data.an,bM]) 2 n rfl p)),ah (zj ?_)⟩)
  (refine I ?_;simp -dsimp only[ai,ne_eq,Nat.reduceEqDiff,reduceCtorEq])
  apply aQ rfl<;>intro h
  ·(refine au ?_;simp -dsimp only[ai,ne_eq,Nat.reduceEqDiff,reduceCtorEq])
   have eN:(n:Int)∈l.map Pat.n:=by
    obtain⟨q,hq,e⟩:=List.any_eq_true.1 h;exact List.mem_map.2 ⟨q,hq,by simpa using e⟩
   have lT:∀j:Nat,j<n+1->(j:Int)∈l.map Pat.n:=fun j WH=>by
    rcases Nat.lt_succ_iff_lt_or_eq.1 WH with q|q
    ·exact hj j q
    rw[q];exact eN
   have VS:=C9 (n+1) _ lT;simp only[List.length_map]at VS;have pk:kQ l 0 (r.length+2)=kQ l (n+1) (r.length+2-(n+1)):=by
    rw[he,show r.length+2-n=(r.length+2-(n+1))+1 by omega,kQ,h];rfl
   refine aj ?_;refine du ?_;refine⟨by omega,by omega,?_⟩
   (refine I ?_;simp -dsimp only[ai,ne_eq,Nat.reduceEqDiff,reduceCtorEq])
   refine⟨⟨n+1,VS,lT,pk⟩,by simp;omega,?_⟩;refine zq rfl ?_ ?_;simp -dsimp only[simprocAttr,↓aa,zp,zc];rfl
  refine aM ?_;simp -dsimp only[ai,ne_eq,Nat.reduceEqDiff,reduceCtorEq];refine aH ?_;simp -dsimp only[simprocAttr,↓aa,zp,cP]
  (refine I ?_;simp -dsimp only[ai,ne_eq,Nat.reduceEqDiff,reduceCtorEq])
  refine ak ?_;simp -dsimp only[simprocAttr,↓aa,zp,zr,Tryz.results30];rw[he,CT h];exact⟨by simp[aq,ae.upto],rfl⟩
 cases h
theorem EY(l:List (ByteArray×K))(s:ByteArray):((find l s).map K.enc).getD (.agg [.v (.int .i64 0),.v (.int .i64 0),.v (.int .i64 0)])=.agg [.v (.int .i64 ((find l s).getD K.zero).data),.v (.int .i64 ((find l s).getD K.zero).pos),.v (.int .i64 ((find l s).getD K.zero).many)]:=xF l s _ rfl
theorem BH(t:bF)(p:Pat)(r:List Pat)(hk:¬p.kind=2)(d:Data)(hd:t.datas[(t.gu p.name).data]?=some d)(Mm:∀c∈d.cons,c.args.length<=2513169434843) :
  aV Tryz.prog 30 [t.enc,eR (p::r)] (my ((fw (p::r) d.cons).map fun c=>.mk 3 c.name 0 (List.replicate c.args.length Pat.any))):=by
 obtain⟨l,hl⟩:∃l,l=p::r:=⟨_,rfl⟩
 have hlen:l.length=r.length+1:=by rw[hl];rfl
 have rB:(ae.aC 4 (p.enc::List.map Pat.enc r) .sh)=eR l:=by rw[hl];rfl
 rw[bF.gu]at hd;refine zf true 0 Tryz.func30 Tryz.ntmps30 ?_;dsimp only[Tmp,TypeId,ax];refine aB ?_
 (refine I ?_;simp -dsimp only[ai,ne_eq,Nat.reduceEqDiff,reduceCtorEq])
 refine cj ?_
 (refine I ?_;simp -dsimp only[ai,ne_eq,Nat.reduceEqDiff,reduceCtorEq])
 apply aQ rfl<;>intro h
 ·simp at h;omega
 (refine au ?_;simp -dsimp only[ai,ne_eq,Nat.reduceEqDiff,reduceCtorEq])
 refine cj ?_
 (refine I ?_;simp -dsimp only[ai,ne_eq,Nat.reduceEqDiff,reduceCtorEq])
 apply aQ rfl<;>intro h
 ·exact absurd (by simpa using h) hk
 (refine au ?_;simp -dsimp only[ai,ne_eq,Nat.reduceEqDiff,reduceCtorEq])
 refine cg ?_;simp -dsimp only[simprocAttr,↓aa,zp,EY,hd];refine⟨?_,?_⟩
 ·(show fO _ _=true);kernel_rfl
 (refine I ?_;simp -dsimp only[ai,ne_eq,Nat.reduceEqDiff,reduceCtorEq])
 refine bT 37 rfl (fun zJ=>?_);simp only[List.length_map]at zJ;simp -dsimp only[rB,<-hl];refine aj (aO (ι:={k:Nat // k<=d.cons.length∧fw l d.cons=fw l (d.cons.drop k)}) (fun k=>⟨56,[(1,eR l),(4,.mp 1 0),(37,eC d.cons),(38,aI d.cons.length),(39,aI k.1)],[.cells [.aC 3 (t.datas.map Data.enc) .sh,.im .str (t.cons.map entry)],.cells cP]⟩) (fun k=>d.cons.length-k.1) ⟨0,by omega,rfl⟩ ?_ ?_)
 ·refine zq rfl ?_ ?_;simp -dsimp only[simprocAttr,↓aa,zp,zc];rfl
 rintro⟨k,DL,he⟩;refine aB ?_
 (refine I ?_;simp -dsimp only[ai,ne_eq,Nat.reduceEqDiff,reduceCtorEq])
 apply gr rfl<;>intro h
 ·(refine au ?_;simp -dsimp only[ai,ne_eq,Nat.reduceEqDiff,reduceCtorEq])
  have aN:k<d.cons.length:=by simpa using h
  obtain⟨c,hc⟩:∃c,d.cons[k]?=some c:=⟨d.cons[k],by simp[aN]⟩
  have gy:d.cons.drop k=c::d.cons.drop (k+1):=by
   rw[List.drop_eq_getElem_cons aN];rw[List.getElem?_eq_getElem aN]at hc;simp only[Option.some.injEq]at hc;rw[hc]
  rw[gy,fw]at he;have iq:=Mm c (List.mem_of_getElem? hc);refine aG (aj ?_);refine aH ?_;simp -dsimp only[simprocAttr,↓aa,zp,hc]
  (refine I ?_;simp -dsimp only[ai,ne_eq,Nat.reduceEqDiff,reduceCtorEq])
  refine aB ?_;refine .inr (.inr ⟨_,(jq (fun p=>decide (p.name=c.name)) 60 [] [.mp 2 0] [.cells [.aC 3 (t.datas.map Data.enc) .sh,.im .str (t.cons.map entry)],.cells cP,.cells [.v (.string c.name),.aC 4 (c.args.map Pat.enc) .sh]] (by simp[ay.upto,aq,ae.upto,cP,Data.an,bM,Pat.an]) l (fun p _=>x5 _ (by simp[ay.upto,aq,ae.upto,cP,Data.an,bM,Pat.an]) 2 c.name _ rfl p)),ah (zj ?_)⟩)
  (refine I ?_;simp -dsimp only[ai,ne_eq,Nat.reduceEqDiff,reduceCtorEq])
  apply aQ rfl<;>intro h
  ·have lG:l.any (fun p=>decide (p.name=c.name))=false:=by simpa using h
   rw[lG]at he;simp only[Bool.false_eq_true,if_false]at he;refine aH ?_;simp -dsimp only[simprocAttr,↓aa,zp,cP];refine .inl ⟨_,(xh c.args.length (by omega)),by simp only[aq,ae.upto,zt,zu,ck],ah ?_⟩;simp -dsimp only[simprocAttr,↓aa,zp,cP];refine⟨?_,?_⟩
   ·(show fO _ _=true);kernel_rfl
   (refine I ?_;simp -dsimp only[ai,ne_eq,Nat.reduceEqDiff,reduceCtorEq])
   refine ak ?_;simp -dsimp only[simprocAttr,↓aa,zp,zr,Tryz.results30];rw[he];exact⟨by simp[aq,ae.upto,ck],by simp[my,Pat.dN,Pat.kind,Pat.name,Pat.n,Pat.args,OP]⟩
  have lG:l.any (fun p=>decide (p.name=c.name))=true:=by simpa using h
  rw[if_pos lG]at he
  (refine au ?_;simp -dsimp only[ai,ne_eq,Nat.reduceEqDiff,reduceCtorEq])
  refine ba 2 [(1,eR l),(4,.mp 1 0),(37,eC d.cons),(38,aI d.cons.length),(39,aI k)] (by simp) (by simp) [.cells [.aC 3 (t.datas.map Data.enc) .sh,.im .str (t.cons.map entry)],.cells cP] ?_ ?_ ?_ ?_ ?_
  ·rfl
  ·simp[ay.upto,aq,ae.upto,cP,Data.an,bM,Pat.an]
  ·simp -dsimp only[simprocAttr,↓aa,zp,dy,exists_eq_left',Option.some.injEq,sub_self,and_true]
  ·simp[ae.upto,aq,Pat.an,fa.an]
  refine du ?_;refine⟨by omega,by omega,?_⟩
  (refine I ?_;simp -dsimp only[ai,ne_eq,Nat.reduceEqDiff,reduceCtorEq])
  refine⟨⟨k+1,aN,he⟩,by simp;omega,?_⟩;refine zq rfl ?_ ?_;simp -dsimp only[simprocAttr,↓aa,zp,zc]
  ·exact Sub.int (by simp)
  rfl
 refine aM ?_;simp -dsimp only[ai,ne_eq,Nat.reduceEqDiff,reduceCtorEq];have gg:k=d.cons.length:=by simp at h;omega
 subst gg;rw[List.drop_length]at he;refine aH ?_;simp -dsimp only[simprocAttr,↓aa,zp,cP]
 (refine I ?_;simp -dsimp only[ai,ne_eq,Nat.reduceEqDiff,reduceCtorEq])
 refine ak ?_;simp -dsimp only[simprocAttr,↓aa,zp,zr,Tryz.results30];rw[he];exact⟨by simp[aq,ae.upto],rfl⟩
theorem Ca(l:List Pat)(hb:l.length<=2 ^ 30):aV Tryz.prog 33 [eR l] (eR l):=by
 refine zf true 0 Tryz.func33 Tryz.ntmps33 ?_;dsimp only[Tmp,TypeId,ax];refine aB ?_
 (refine I ?_;simp -dsimp only[ai,ne_eq,Nat.reduceEqDiff,reduceCtorEq])
 refine jk 0 rfl (fun yI=>?_) ?_
 ·simp -dsimp only[simprocAttr,↓aa,zp];refine cj ?_
  (refine I ?_;simp -dsimp only[ai,ne_eq,Nat.reduceEqDiff,reduceCtorEq])
  refine de rfl ?_;refine aB ?_
  (refine I ?_;simp -dsimp only[ai,ne_eq,Nat.reduceEqDiff,reduceCtorEq])
  refine ak ?_;simp -dsimp only[simprocAttr,↓aa,zp,zr,Tryz.results33];simpa[aq]using yI
 simp -dsimp only[simprocAttr,↓aa,zp];refine cj ?_
 (refine I ?_;simp -dsimp only[ai,ne_eq,Nat.reduceEqDiff,reduceCtorEq])
 refine cB rfl ?_
 (refine au ?_;simp -dsimp only[ai,ne_eq,Nat.reduceEqDiff,reduceCtorEq])
 refine aB ?_;refine⟨by omega,by omega,?_⟩
 (refine I ?_;simp -dsimp only[ai,ne_eq,Nat.reduceEqDiff,reduceCtorEq])
 refine ak ?_;simp -dsimp only[simprocAttr,↓aa,zp,zr,Tryz.results33]
abbrev eI(l:List Int):ae:=.aC 1 (l.map aI) .sh
mutual
def Pat.nodes:Pat->Nat
 | .mk _ _ _ l=>1+bX l
def bX:List Pat->Nat
 | []=>0
 | p::r=>p.nodes+bX r
end
theorem Pat.fX(p:Pat):p.nodes=1+bX p.args:=by
 cases p;rw[Pat.nodes];rfl
theorem iZ:∀{l:List Pat} {p:Pat},p∈l->p.nodes<=bX l
 | q::r,p,h=>by
  rw[bX];rcases List.mem_cons.1 h with e|e
  ·subst e;omega
  have:=iZ e;omega
theorem iY:∀l:List Pat,l.length<=bX l
 | []=>by simp
 | p::r=>by
  have:=iY r;rw[bX,Pat.fX];simp;omega

end Go.Proofs.YtkkookchlddbkaaGreat.V
