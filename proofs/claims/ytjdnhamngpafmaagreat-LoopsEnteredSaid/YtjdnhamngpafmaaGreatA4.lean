/-
  Texts bound together by a program of mine: YtjdnhamngpafmaaGreatT20, YtjdnhamngpafmaaGreatT21, YtjdnhamngpafmaaGreatT22, YtjdnhamngpafmaaGreatPu, YtjdnhamngpafmaaGreatPv, YtjdnhamngpafmaaGreatPw, YtjdnhamngpafmaaGreatPx, YtjdnhamngpafmaaGreatT23, YtjdnhamngpafmaaGreatT37, YtjdnhamngpafmaaGreatPf, YtjdnhamngpafmaaGreatT41, YtjdnhamngpafmaaGreatPj, YtjdnhamngpafmaaGreatT43, YtjdnhamngpafmaaGreatT48, YtjdnhamngpafmaaGreatPg, YtjdnhamngpafmaaGreatPk, YtjdnhamngpafmaaGreatT44, YtjdnhamngpafmaaGreatT45, YtjdnhamngpafmaaGreatT46, YtjdnhamngpafmaaGreatT54, YtjdnhamngpafmaaGreatPl, YtjdnhamngpafmaaGreatPdb, YtjdnhamngpafmaaGreatPdc, YtjdnhamngpafmaaGreatPdd, YtjdnhamngpafmaaGreatPua, YtjdnhamngpafmaaGreatPub, YtjdnhamngpafmaaGreatPuc, YtjdnhamngpafmaaGreatPug, YtjdnhamngpafmaaGreatPuh, YtjdnhamngpafmaaGreatPum.
-/
import Derived.Test.YtjdnhamngpafmaaGreatA3
import Derived.Sort.Grow
set_option linter.all false
set_option maxRecDepth 100000
set_option maxHeartbeats 4000000

namespace Go.Proofs.YtjdnhamngpafmaaGreat
open Go.Av
theorem jx{cs xs:List ae}{n:Nat}(h:xs.length=n)(hc:cs.length=n):bk cs 0 xs=xs:=by
 simp[bk];omega
theorem sy{x:ae}(h:x.flat):x.cells.map ae.bo=x.share.cells:=by
 cases x<;>rfl
theorem fD(es:List (Int×SV))(k:Int):(jv es k).cells.map ae.bo=(eO es k).enc.cells:=by
 rw[sy (iU es k),uS]
theorem IP{u:cf}{m:Mach}{O:List al}(br:∀o∈O,o.upto O.length)(h0:O[2]?=some (.cells (az u m)))(f:Fr)(hf:O[f.bL]?=some (.cells (aQ f)))(hv:O[f.c8]?=some (.map (.int .i64) (f.vals.map gd)))
  (hu:∀e∈f.vals,SV.bc O.length e.2) (tc:f.bL≠f.c8) (t:Term) (hk:t.kind=4):ba Tryz.prog 112 O [.mp 2 0,.mp f.bL 0,t.enc] (fun r O'=>r=.cK []∧O'=O.set 2 (.cells (az u (m.stop t.n 0)))):=by
 have gp:=I hf;have RH:=I hv;have ef:=I h0;have dR:=hf;unfold aQ at dR;have pk:(Option.map SV.enc (gl f.vals t.arg)).getD (.agg [aI 0,aI 0,.aB 4 [] .ex,.v (.pointer none)])=jv f.vals t.arg:=rfl;have ry:bk [ae.v (.int .i64 0),.v (.int .i64 0),.aB 4 [] .ex,.v (.pointer none)] 0 (jv f.vals t.arg).cells=(jv f.vals t.arg).cells:=jx (fb _ _) rfl;have jT:=fD f.vals t.arg;have yc:=(iN hu t.arg).aL;generalize eO f.vals t.arg=V at *;rw[SV.fu]at yc;rw[SV.aj]at jT;have js:=jZ br h0 t.n 0;have eS:=bg br h0 (ds:=az u (m.stop t.n 0)) (fun h=>bS h rfl);have jH:=bX (O:=O) (k:=2) (x:=.cells (az u (m.stop t.n 0)));refine zf true O.length Tryz.func112 Tryz.ntmps112 ?_;dsimp only[Tmp,TypeId,slotsOf];refine ay (ah ?_);refine aJ 5 ([aI t.kind,aI t.arg,aI t.n,aT t.cases,aE t.to]) [(0,.mp 2 0),(1,.mp f.bL 0),(5,.ip none [aI t.kind,aI t.arg,aI t.n,aT t.cases,aE t.to])] rfl (by rfl) (by omega) (by simp[bq,aY,Go.Av.look]) ?_ ?_ ?_
 ·exact br
 ·simp[ae.upto,au,gp,ef,av,Edge.ag]
 refine aS ?_;simp -dsimp only[simprocAttr,↓aa,zp,dR,hv,lv,pk,iU,fb,ry];refine⟨bN [f.bL,f.c8] O.length [.pure,.pure,.pure,.rd 0,.pure,.pure,.rd 1,.wr 2 [],.wr 3 [2]] (by simp[tc]) (by simp;omega) rfl rfl (by kernel_rfl),aV ?_⟩;simp -dsimp only[bD,ne_eq,Nat.reduceEqDiff,reduceCtorEq];refine aJ 6 [aI V.kind,aI V.n,.aB 4 (V.list.map SV.enc) .sh,eP V.arr] [(0,.mp 2 0),(1,.mp f.bL 0),(5,.ip none [aI t.kind,aI t.arg,aI t.n,aT t.cases,aE t.to]),(6,.ip none [aI V.kind,aI V.n,.aB 4 (V.list.map SV.enc) .sh,eP V.arr])] rfl jT (by omega) (by simp[bq,aY,Go.Av.look]) br ?_ ?_
 ·simp only[au,ae.upto,true_and,and_true]at yc;simp[ae.upto,au,gp,ef,av,Edge.ag,yc]
 refine ay (ah ?_);refine ai ?_;refine ay (ah ?_);apply aM rfl<;>intro h
 ·refine cF ?_;refine .inr (.inl ⟨_,_,js,.inl (an (zj ?_))⟩)
  (refine aV ?_;simp -dsimp only[bD,ne_eq,Nat.reduceEqDiff,reduceCtorEq])
  skip
  simp -dsimp only[simprocAttr,↓aa,zp,zr,Tryz.results112,jH,List.length_set];exact⟨eS,trivial⟩
 exact af h (by omega)
theorem IM{u:cf}{m:Mach}{O:List al}(br:∀o∈O,o.upto O.length)(h0:O[2]?=some (.cells (az u m)))(f:Fr)(hf:O[f.bL]?=some (.cells (aQ f)))(hv:O[f.c8]?=some (.map (.int .i64) (f.vals.map gd)))
  (hu:∀e∈f.vals,SV.bc O.length e.2) (tc:f.bL≠f.c8) (t:Term) (hk:t.kind=1) (e:Edge) (he:t.to[0]?=some e) {O':List al} (hC:ba Tryz.prog 129 O [.mp 2 0,.mp f.bL 0,e.enc] (fun r O1=>r=.cK []∧O1=O')) (hlen:O.length=O'.length) (mJ:∀o∈O',o.upto O'.length):ba Tryz.prog 112 O [.mp 2 0,.mp f.bL 0,t.enc] (fun r O1=>r=.cK []∧O1=O'):=by
 have gp:=I hf;have RH:=I hv;have ef:=I h0;have dR:=hf;unfold aQ at dR;have pk:(Option.map SV.enc (gl f.vals t.arg)).getD (.agg [aI 0,aI 0,.aB 4 [] .ex,.v (.pointer none)])=jv f.vals t.arg:=rfl;have ry:bk [ae.v (.int .i64 0),.v (.int .i64 0),.aB 4 [] .ex,.v (.pointer none)] 0 (jv f.vals t.arg).cells=(jv f.vals t.arg).cells:=jx (fb _ _) rfl;have jT:=fD f.vals t.arg;have yc:=(iN hu t.arg).aL;generalize eO f.vals t.arg=V at *;rw[SV.fu]at yc;rw[SV.aj]at jT;refine zf true O.length Tryz.func112 Tryz.ntmps112 ?_;dsimp only[Tmp,TypeId,slotsOf];refine ay (ah ?_);refine aJ 5 ([aI t.kind,aI t.arg,aI t.n,aT t.cases,aE t.to]) [(0,.mp 2 0),(1,.mp f.bL 0),(5,.ip none [aI t.kind,aI t.arg,aI t.n,aT t.cases,aE t.to])] rfl (by rfl) (by omega) (by simp[bq,aY,Go.Av.look]) ?_ ?_ ?_
 ·exact br
 ·simp[ae.upto,au,gp,ef,av,Edge.ag]
 refine aS ?_;simp -dsimp only[simprocAttr,↓aa,zp,dR,hv,lv,pk,iU,fb,ry];refine⟨bN [f.bL,f.c8] O.length [.pure,.pure,.pure,.rd 0,.pure,.pure,.rd 1,.wr 2 [],.wr 3 [2]] (by simp[tc]) (by simp;omega) rfl rfl (by kernel_rfl),aV ?_⟩;simp -dsimp only[bD,ne_eq,Nat.reduceEqDiff,reduceCtorEq];refine aJ 6 [aI V.kind,aI V.n,.aB 4 (V.list.map SV.enc) .sh,eP V.arr] [(0,.mp 2 0),(1,.mp f.bL 0),(5,.ip none [aI t.kind,aI t.arg,aI t.n,aT t.cases,aE t.to]),(6,.ip none [aI V.kind,aI V.n,.aB 4 (V.list.map SV.enc) .sh,eP V.arr])] rfl jT (by omega) (by simp[bq,aY,Go.Av.look]) br ?_ ?_
 ·simp only[au,ae.upto,true_and,and_true]at yc;simp[ae.upto,au,gp,ef,av,Edge.ag,yc]
 refine ay (ah ?_);refine ai ?_;refine ay (ah ?_);apply aM rfl<;>intro h
 ·exact ab h (by omega)
 refine ay (ah ?_);apply aM rfl<;>intro h
 ·refine j4 ?_;simp -dsimp only[simprocAttr,↓aa,zp,he];refine .inr (.inl ⟨_,_,hC,.inl (an (zj ?_))⟩)
  (refine aV ?_;simp -dsimp only[bD,ne_eq,Nat.reduceEqDiff,reduceCtorEq])
  skip
  simp -dsimp only[simprocAttr,↓aa,zp,zr,Tryz.results112,hlen,List.take_length];exact⟨mJ,trivial⟩
 exact af h (by omega)
theorem Ez{u:cf}{m:Mach}{O:List al}(br:∀o∈O,o.upto O.length)(h0:O[2]?=some (.cells (az u m)))(f:Fr)(hf:O[f.bL]?=some (.cells (aQ f)))(hv:O[f.c8]?=some (.map (.int .i64) (f.vals.map gd)))
  (hu:∀e∈f.vals,SV.bc O.length e.2) (tc:f.bL≠f.c8) (t:Term) (hk:t.kind=0) {O':List al} (hC:ba Tryz.prog 130 O [.mp 2 0,.mp f.bL 0,(eO f.vals t.arg).enc] (fun r O1=>r=.cK []∧O1=O')) (hlen:O.length=O'.length) (mJ:∀o∈O',o.upto O'.length):ba Tryz.prog 112 O [.mp 2 0,.mp f.bL 0,t.enc] (fun r O1=>r=.cK []∧O1=O'):=by
 have gp:=I hf;have RH:=I hv;have ef:=I h0;have dR:=hf;unfold aQ at dR;have pk:(Option.map SV.enc (gl f.vals t.arg)).getD (.agg [aI 0,aI 0,.aB 4 [] .ex,.v (.pointer none)])=jv f.vals t.arg:=rfl;have ry:bk [ae.v (.int .i64 0),.v (.int .i64 0),.aB 4 [] .ex,.v (.pointer none)] 0 (jv f.vals t.arg).cells=(jv f.vals t.arg).cells:=jx (fb _ _) rfl;have jT:=fD f.vals t.arg;have yc:=(iN hu t.arg).aL;generalize eO f.vals t.arg=V at *;rw[SV.fu]at yc;rw[SV.aj]at jT;refine zf true O.length Tryz.func112 Tryz.ntmps112 ?_;dsimp only[Tmp,TypeId,slotsOf];refine ay (ah ?_);refine aJ 5 ([aI t.kind,aI t.arg,aI t.n,aT t.cases,aE t.to]) [(0,.mp 2 0),(1,.mp f.bL 0),(5,.ip none [aI t.kind,aI t.arg,aI t.n,aT t.cases,aE t.to])] rfl (by rfl) (by omega) (by simp[bq,aY,Go.Av.look]) ?_ ?_ ?_
 ·exact br
 ·simp[ae.upto,au,gp,ef,av,Edge.ag]
 refine aS ?_;simp -dsimp only[simprocAttr,↓aa,zp,dR,hv,lv,pk,iU,fb,ry];refine⟨bN [f.bL,f.c8] O.length [.pure,.pure,.pure,.rd 0,.pure,.pure,.rd 1,.wr 2 [],.wr 3 [2]] (by simp[tc]) (by simp;omega) rfl rfl (by kernel_rfl),aV ?_⟩;simp -dsimp only[bD,ne_eq,Nat.reduceEqDiff,reduceCtorEq];refine aJ 6 [aI V.kind,aI V.n,.aB 4 (V.list.map SV.enc) .sh,eP V.arr] [(0,.mp 2 0),(1,.mp f.bL 0),(5,.ip none [aI t.kind,aI t.arg,aI t.n,aT t.cases,aE t.to]),(6,.ip none [aI V.kind,aI V.n,.aB 4 (V.list.map SV.enc) .sh,eP V.arr])] rfl jT (by omega) (by simp[bq,aY,Go.Av.look]) br ?_ ?_
 ·simp only[au,ae.upto,true_and,and_true]at yc;simp[ae.upto,au,gp,ef,av,Edge.ag,yc]
 refine ay (ah ?_);refine ai ?_;refine ay (ah ?_);apply aM rfl<;>intro h
 ·exact ab h (by omega)
 refine ay (ah ?_);apply aM rfl<;>intro h
 ·exact ab h (by omega)
 refine ay (ah ?_);apply aM rfl<;>intro h
 ·refine cF ?_;refine .inr (.inl ⟨_,_,hC,.inl (an (zj ?_))⟩)
  (refine aV ?_;simp -dsimp only[bD,ne_eq,Nat.reduceEqDiff,reduceCtorEq])
  skip
  simp -dsimp only[simprocAttr,↓aa,zp,zr,Tryz.results112,hlen,List.take_length];exact⟨mJ,trivial⟩
 exact af h (by omega)
theorem IQ{u:cf}{m:Mach}{O:List al}(br:∀o∈O,o.upto O.length)(h0:O[2]?=some (.cells (az u m)))(f:Fr)(hf:O[f.bL]?=some (.cells (aQ f)))(hv:O[f.c8]?=some (.map (.int .i64) (f.vals.map gd)))
  (hu:∀e∈f.vals,SV.bc O.length e.2) (tc:f.bL≠f.c8) (t:Term) (hk:t.kind≠0∧t.kind≠1∧t.kind≠4) (hV:(eO f.vals t.arg).kind≠0):ba Tryz.prog 112 O [.mp 2 0,.mp f.bL 0,t.enc] (fun r O'=>r=.cK []∧O'=O.set 2 (.cells (az u (m.stop 5 0)))):=by
 have gp:=I hf;have RH:=I hv;have ef:=I h0;have dR:=hf;unfold aQ at dR;have pk:(Option.map SV.enc (gl f.vals t.arg)).getD (.agg [aI 0,aI 0,.aB 4 [] .ex,.v (.pointer none)])=jv f.vals t.arg:=rfl;have ry:bk [ae.v (.int .i64 0),.v (.int .i64 0),.aB 4 [] .ex,.v (.pointer none)] 0 (jv f.vals t.arg).cells=(jv f.vals t.arg).cells:=jx (fb _ _) rfl;have jT:=fD f.vals t.arg;have yc:=(iN hu t.arg).aL;generalize eO f.vals t.arg=V at *;rw[SV.fu]at yc;rw[SV.aj]at jT;have js:=jZ br h0 5 0;have eS:=bg br h0 (ds:=az u (m.stop 5 0)) (fun h=>bS h rfl);have jH:=bX (O:=O) (k:=2) (x:=.cells (az u (m.stop 5 0)));have hd:decide (V.kind=0)=false:=decide_eq_false hV;refine zf true O.length Tryz.func112 Tryz.ntmps112 ?_;dsimp only[Tmp,TypeId,slotsOf];refine ay (ah ?_);refine aJ 5 ([aI t.kind,aI t.arg,aI t.n,aT t.cases,aE t.to]) [(0,.mp 2 0),(1,.mp f.bL 0),(5,.ip none [aI t.kind,aI t.arg,aI t.n,aT t.cases,aE t.to])] rfl (by rfl) (by omega) (by simp[bq,aY,Go.Av.look]) ?_ ?_ ?_
 ·exact br
 ·simp[ae.upto,au,gp,ef,av,Edge.ag]
 refine aS ?_;simp -dsimp only[simprocAttr,↓aa,zp,dR,hv,lv,pk,iU,fb,ry];refine⟨bN [f.bL,f.c8] O.length [.pure,.pure,.pure,.rd 0,.pure,.pure,.rd 1,.wr 2 [],.wr 3 [2]] (by simp[tc]) (by simp;omega) rfl rfl (by kernel_rfl),aV ?_⟩;simp -dsimp only[bD,ne_eq,Nat.reduceEqDiff,reduceCtorEq];refine aJ 6 [aI V.kind,aI V.n,.aB 4 (V.list.map SV.enc) .sh,eP V.arr] [(0,.mp 2 0),(1,.mp f.bL 0),(5,.ip none [aI t.kind,aI t.arg,aI t.n,aT t.cases,aE t.to]),(6,.ip none [aI V.kind,aI V.n,.aB 4 (V.list.map SV.enc) .sh,eP V.arr])] rfl jT (by omega) (by simp[bq,aY,Go.Av.look]) br ?_ ?_
 ·simp only[au,ae.upto,true_and,and_true]at yc;simp[ae.upto,au,gp,ef,av,Edge.ag,yc]
 refine ay (ah ?_);refine ai ?_;refine ay (ah ?_);apply aM rfl<;>intro h
 ·exact ab h (by omega)
 refine ay (ah ?_);apply aM rfl<;>intro h
 ·exact ab h (by omega)
 refine ay (ah ?_);apply aM rfl<;>intro h
 ·exact ab h (by omega)
 refine cJ ?_;simp -dsimp only[simprocAttr,↓aa,zp,hd];refine ah ?_;refine cN rfl ?_;refine ay ?_;refine .inr (.inl ⟨_,_,js,.inl (an (zj ?_))⟩);refine ah ?_;refine aq ?_;simp -dsimp only[simprocAttr,↓aa,zp,zr,Tryz.results112,jH,List.length_set];exact⟨eS,trivial⟩
theorem CQ{u:cf}{m:Mach}{O:List al}(br:∀o∈O,o.upto O.length)(h0:O[2]?=some (.cells (az u m)))(f:Fr)(hf:O[f.bL]?=some (.cells (aQ f)))(hv:O[f.c8]?=some (.map (.int .i64) (f.vals.map gd)))
  (hu:∀e∈f.vals,SV.bc O.length e.2) (tc:f.bL≠f.c8) (t:Term) (hk:t.kind≠0∧t.kind≠1∧t.kind≠4) (hV:(eO f.vals t.arg).kind=0) (gA:t.cases.length<=2 ^ 60) (e:Edge) (he:t.to[eT t (eO f.vals t.arg).n]?=some e) {O':List al} (hC:ba Tryz.prog 129 O [.mp 2 0,.mp f.bL 0,e.enc] (fun r O1=>r=.cK []∧O1=O')) (hlen:O.length=O'.length) (mJ:∀o∈O',o.upto O'.length):ba Tryz.prog 112 O [.mp 2 0,.mp f.bL 0,t.enc] (fun r O1=>r=.cK []∧O1=O'):=by
 have gp:=I hf;have RH:=I hv;have ef:=I h0;have dR:=hf;unfold aQ at dR;have pk:(Option.map SV.enc (gl f.vals t.arg)).getD (.agg [aI 0,aI 0,.aB 4 [] .ex,.v (.pointer none)])=jv f.vals t.arg:=rfl;have ry:bk [ae.v (.int .i64 0),.v (.int .i64 0),.aB 4 [] .ex,.v (.pointer none)] 0 (jv f.vals t.arg).cells=(jv f.vals t.arg).cells:=jx (fb _ _) rfl;have jT:=fD f.vals t.arg;have yc:=(iN hu t.arg).aL;generalize eO f.vals t.arg=V at *;rw[SV.fu]at yc;rw[SV.aj]at jT;have oI:=zS t V.n gA;generalize eT t V.n=q at *;have hd:decide (V.kind=0)=true:=decide_eq_true hV;refine zf true O.length Tryz.func112 Tryz.ntmps112 ?_;dsimp only[Tmp,TypeId,slotsOf];refine ay (ah ?_);refine aJ 5 ([aI t.kind,aI t.arg,aI t.n,aT t.cases,aE t.to]) [(0,.mp 2 0),(1,.mp f.bL 0),(5,.ip none [aI t.kind,aI t.arg,aI t.n,aT t.cases,aE t.to])] rfl (by rfl) (by omega) (by simp[bq,aY,Go.Av.look]) ?_ ?_ ?_
 ·exact br
 ·simp[ae.upto,au,gp,ef,av,Edge.ag]
 refine aS ?_;simp -dsimp only[simprocAttr,↓aa,zp,dR,hv,lv,pk,iU,fb,ry];refine⟨bN [f.bL,f.c8] O.length [.pure,.pure,.pure,.rd 0,.pure,.pure,.rd 1,.wr 2 [],.wr 3 [2]] (by simp[tc]) (by simp;omega) rfl rfl (by kernel_rfl),aV ?_⟩;simp -dsimp only[bD,ne_eq,Nat.reduceEqDiff,reduceCtorEq];refine aJ 6 [aI V.kind,aI V.n,.aB 4 (V.list.map SV.enc) .sh,eP V.arr] [(0,.mp 2 0),(1,.mp f.bL 0),(5,.ip none [aI t.kind,aI t.arg,aI t.n,aT t.cases,aE t.to]),(6,.ip none [aI V.kind,aI V.n,.aB 4 (V.list.map SV.enc) .sh,eP V.arr])] rfl jT (by omega) (by simp[bq,aY,Go.Av.look]) br ?_ ?_
 ·simp only[au,ae.upto,true_and,and_true]at yc;simp[ae.upto,au,gp,ef,av,Edge.ag,yc]
 refine ay (ah ?_);refine ai ?_;refine ay (ah ?_);apply aM rfl<;>intro h
 ·exact ab h (by omega)
 refine ay (ah ?_);apply aM rfl<;>intro h
 ·exact ab h (by omega)
 refine ay (ah ?_);apply aM rfl<;>intro h
 ·exact ab h (by omega)
 refine cJ ?_;simp -dsimp only[simprocAttr,↓aa,zp,hd];refine ah ?_;refine cd rfl ?_;refine cm ?_;refine cF ?_;refine .inl ⟨_,oI,by simp only[au,ae.upto,zt,zu,av],an ?_⟩;simp -dsimp only[simprocAttr,↓aa,zp,he];refine .inr (.inl ⟨_,_,hC,.inl (an (zj ?_))⟩);refine⟨ob (by kernel_rfl),?_⟩
 (refine aV ?_;simp -dsimp only[bD,ne_eq,Nat.reduceEqDiff,reduceCtorEq])
 skip
 simp -dsimp only[simprocAttr,↓aa,zp,zr,Tryz.results112,hlen,List.take_length];exact⟨mJ,trivial⟩
theorem o7(B:Block):ae.agg [aT B.params,bP B.ins,aI B.term.kind,aI B.term.arg,aI B.term.n,aT B.term.cases,aE B.term.to]=B.enc:=rfl
theorem step_end{u:cf}{m:Mach}{O:List al}(br:∀o∈O,o.upto O.length)(h0:O[2]?=some (.cells (az u m)))(f:Fr)(r:List Fr)(dp:m.frames=f::r)(hf:O[f.bL]?=some (.cells (aQ f)))(AI:f.bL≠2)
  {cs:List ae} (dz:O[m.sid]?=some (.cells cs)) (gn:cs[r.length]?=some (.mp f.bL 0)) (AK:r.length<=2 ^ 40) (F:Func) (hF:u.fns[f.fn.toNat]?=some F) (mz:0<=f.fn) (B:Block) (hB:F.blocks[f.blk.toNat]?=some B) (uk:0<=f.blk) (pj:f.pos=B.ins.length) {O':List al} (hC:ba Tryz.prog 112 O [.mp 2 0,.mp f.bL 0,B.term.enc] (fun r O1=>r=.cK []∧O1=O')) (hlen:O.length<=O'.length) (mJ:∀o∈O',o.upto O'.length) :
  ba Tryz.prog 83 O [.mp 2 0] (fun r O1=>r=.cK []∧O1=O'):=by
 have gp:=I hf;have ef:=I h0;have dR:=hf;unfold aQ at dR;have lp:O[2]?=some (.cells [a7 u.fns,aI u.main,.os m.sid (r.length+1) 1,aI m.left,.v (.bool m.short),.v (.bool m.over),.aB 1 (m.out.map aI) (.tok 3),aI m.fin,aI m.val]):=by
  rw[h0];unfold az;rw[dp];rfl
 have r8:((r.length+1:Nat):Int)-1=(r.length:Nat):=by omega
 refine eY hT true (O'.length) Tryz.func83 rfl (by kernel_rfl) (by simp[Tryz.ntmps83]) (by assumption) ?_;show cu Tryz.prog _ _ _ ⟨137,_,_⟩;dsimp only[Tmp,TypeId,slotsOf];refine aS ?_;simp -dsimp only[simprocAttr,↓aa,zp,lp,r8,Nat.mul_one,dz,gn]
 repeat(refine⟨by omega,?_⟩)
 refine⟨ob (by kernel_rfl),?_⟩;refine ah ?_;refine aS ?_;simp -dsimp only[simprocAttr,↓aa,zp,lp,dR,hF,hB,o7]
 repeat(refine⟨by omega,?_⟩)
 refine⟨bN [2,f.bL] O.length [.pure,.pure,.pure,.pure,.rd 0,.pure,.pure,.pure,.rd 1,.pure,.pure,.pure,.pure,.pure,.pure,.rd 1,.pure,.pure,.wr 2 [],.wr 3 [2]] (by simp;omega) (by simp;omega) rfl rfl (by kernel_rfl),aV ?_⟩;simp -dsimp only[bD,ne_eq,Nat.reduceEqDiff,reduceCtorEq];refine aJ 3 ([aT B.params,bP B.ins,aI B.term.kind,aI B.term.arg,aI B.term.n,aT B.term.cases,aE B.term.to]) [(0,.mp 2 0),(2,.mp f.bL 0),(3,.ip none [aT B.params,bP B.ins,aI B.term.kind,aI B.term.arg,aI B.term.n,aT B.term.cases,aE B.term.to])] rfl (by rfl) (by omega) (by simp[bq,aY,Go.Av.look]) ?_ ?_ ?_
 ·exact br
 ·simp[ae.upto,au,gp,ef,av,Edge.ag,Ins.ag]
 refine cJ ?_;simp -dsimp only[simprocAttr,↓aa,zp,dR];refine⟨ob (by kernel_rfl),?_⟩;refine ah ?_;apply aM rfl<;>intro h
 ·refine ay ?_;refine .inr (.inl ⟨_,_,hC,.inl (an (zj ?_))⟩);refine ah ?_;refine aq ?_;simp -dsimp only[simprocAttr,↓aa,zp,zr,Tryz.results83,List.take_length];exact⟨mJ,trivial⟩
 exact af h (by omega)
theorem HB{u:cf}{m:Mach}{O:List al}(br:∀o∈O,o.upto O.length)(h0:O[2]?=some (.cells (az u m)))(f:Fr)(r:List Fr)(dp:m.frames=f::r)(hf:O[f.bL]?=some (.cells (aQ f)))(AI:f.bL≠2)
  {cs:List ae} (dz:O[m.sid]?=some (.cells cs)) (gn:cs[r.length]?=some (.mp f.bL 0)) (AK:r.length<=2 ^ 40) (F:Func) (hF:u.fns[f.fn.toNat]?=some F) (mz:0<=f.fn) (B:Block) (hB:F.blocks[f.blk.toNat]?=some B) (uk:0<=f.blk) (hv:O[f.c8]?=some (.map (.int .i64) (f.vals.map gd))) (tc:f.bL≠f.c8) (hu:∀e∈f.vals,SV.bc O.length e.2) (i:Ins) (hi:B.ins[f.pos]?=some i) (s7:f.pos<=2 ^ 41) (jK:i.args.length<=4096) (f':Fr) (eU:f' = { f with pos:=f.pos+1 }) (args:List SV) (en:args=cx f.vals i.args) (O1:List al) (dD:O1=O.set f.bL (.cells (aQ f'))) (jq:i.op=13) {O':List al} (hC:ba Tryz.prog 81 O1 [.mp 2 0,aI i.n,.aB 4 (args.map SV.enc) .sh,aI i.to] (fun r O2=>r=.cK []∧O2=O')) (hlen:O.length<=O'.length) (mJ:∀o∈O',o.upto O'.length) :
  ba Tryz.prog 83 O [.mp 2 0] (fun r O1=>r=.cK []∧O1=O'):=by
 have gp:=I hf;have ef:=I h0;have dR:=hf;unfold aQ at dR;have lp:O[2]?=some (.cells [a7 u.fns,aI u.main,.os m.sid (r.length+1) 1,aI m.left,.v (.bool m.short),.v (.bool m.over),.aB 1 (m.out.map aI) (.tok 3),aI m.fin,aI m.val]):=by
  rw[h0];unfold az;rw[dp];rfl
 have r8:((r.length+1:Nat):Int)-1=(r.length:Nat):=by omega
 have Jc:=I hi;have hs:=dh hf;have dN:O.length=O1.length:=by rw[dD];simp
 have sK:[aI f.fn,aI f.blk,aI ((f.pos:Int)+1),aI f.to,.mm f.c8]=aQ f':=by
  rw[eU];simp[aQ]
 have l4:O1[f'.bL]?=some (.cells (aQ f')):=by rw[dD,eU];exact hs _
 have s8:O1[f'.c8]?=some (.map (.int .i64) (f'.vals.map gd)):=by rw[dD,eU];exact bm hv tc
 have eg:∀o∈O1,o.upto O1.length:=by
  rw[<-dN,dD];refine bg br hf fun h=>?_;simp only[aQ,au,ae.upto,true_and,and_true]at h ⊢;rw[eU];exact h
 have gk:=iW eg l4 s8 (by rw[eU,<-dN];exact hu) i.args jK;have jn:f'.bL=f.bL:=by rw[eU]
 have m8:f'.vals=f.vals:=by rw[eU]
 rw[jn,m8,<-en]at gk;rw[jn]at l4;refine eY hT true (O'.length) Tryz.func83 rfl (by kernel_rfl) (by simp[Tryz.ntmps83]) (by assumption) ?_;show cu Tryz.prog _ _ _ ⟨137,_,_⟩;dsimp only[Tmp,TypeId,slotsOf];refine aS ?_;simp -dsimp only[simprocAttr,↓aa,zp,lp,r8,Nat.mul_one,dz,gn]
 repeat(refine⟨by omega,?_⟩)
 refine⟨ob (by kernel_rfl),?_⟩;refine ah ?_;refine aS ?_;simp -dsimp only[simprocAttr,↓aa,zp,lp,dR,hF,hB,o7]
 repeat(refine⟨by omega,?_⟩)
 refine⟨bN [2,f.bL] O.length [.pure,.pure,.pure,.pure,.rd 0,.pure,.pure,.pure,.rd 1,.pure,.pure,.pure,.pure,.pure,.pure,.rd 1,.pure,.pure,.wr 2 [],.wr 3 [2]] (by simp;omega) (by simp;omega) rfl rfl (by kernel_rfl),aV ?_⟩;simp -dsimp only[bD,ne_eq,Nat.reduceEqDiff,reduceCtorEq];refine aJ 3 ([aT B.params,bP B.ins,aI B.term.kind,aI B.term.arg,aI B.term.n,aT B.term.cases,aE B.term.to]) [(0,.mp 2 0),(2,.mp f.bL 0),(3,.ip none [aT B.params,bP B.ins,aI B.term.kind,aI B.term.arg,aI B.term.n,aT B.term.cases,aE B.term.to])] rfl (by rfl) (by omega) (by simp[bq,aY,Go.Av.look]) ?_ ?_ ?_
 ·exact br
 ·simp[ae.upto,au,gp,ef,av,Edge.ag,Ins.ag]
 refine cJ ?_;simp -dsimp only[simprocAttr,↓aa,zp,dR];refine⟨ob (by kernel_rfl),?_⟩;refine ah ?_;apply aM rfl<;>intro h
 ·exact ab h (by omega)
 refine cm ?_;refine aS ?_;simp -dsimp only[simprocAttr,↓aa,zp,dR,hi,Int.toNat_natCast]
 repeat(refine⟨by omega,?_⟩)
 refine⟨bN [f.bL] O.length [.pure,.pure,.pure,.pure,.pure,.rd 0,.pure,.pure,.wr 1 [],.wr 2 [1]] (by simp) (by simp;omega) rfl rfl (by kernel_rfl),aV ?_⟩;simp -dsimp only[bD,ne_eq,Nat.reduceEqDiff,reduceCtorEq];refine aJ 4 ([aI i.to,aI i.op,aI i.n,aT i.args]) [(0,.mp 2 0),(2,.mp f.bL 0),(4,.ip none [aI i.to,aI i.op,aI i.n,aT i.args])] rfl (by rfl) (by omega) (by simp[bq,aY,Go.Av.look]) ?_ ?_ ?_
 ·exact br
 ·simp[ae.upto,au,gp,ef,av]
 refine aS ?_;simp -dsimp only[simprocAttr,↓aa,zp,dR,hs,sK,<-dD]
 repeat(refine⟨by omega,?_⟩)
 refine ah ?_;refine ay ?_;refine .inr (.inr ⟨_,gk,an (zj ?_)⟩);refine ah ?_;refine ay (ah ?_);refine ai ?_;refine ay (ah ?_);apply aM rfl<;>intro h
 ·refine cF ?_;refine .inr (.inl ⟨_,_,hC,.inl (an (zj ?_))⟩)
  (refine aV ?_;simp -dsimp only[bD,ne_eq,Nat.reduceEqDiff,reduceCtorEq])
  skip
  simp -dsimp only[simprocAttr,↓aa,zp,zr,Tryz.results83,List.take_length];exact⟨mJ,trivial⟩
 exact af h (by omega)
theorem Kf{u:cf}{m:Mach}{O:List al}(br:∀o∈O,o.upto O.length)(h0:O[2]?=some (.cells (az u m)))(f:Fr)(r:List Fr)(dp:m.frames=f::r)(hf:O[f.bL]?=some (.cells (aQ f)))(AI:f.bL≠2)
  {cs:List ae} (dz:O[m.sid]?=some (.cells cs)) (gn:cs[r.length]?=some (.mp f.bL 0)) (AK:r.length<=2 ^ 40) (F:Func) (hF:u.fns[f.fn.toNat]?=some F) (mz:0<=f.fn) (B:Block) (hB:F.blocks[f.blk.toNat]?=some B) (uk:0<=f.blk) (hv:O[f.c8]?=some (.map (.int .i64) (f.vals.map gd))) (tc:f.bL≠f.c8) (hu:∀e∈f.vals,SV.bc O.length e.2) (i:Ins) (hi:B.ins[f.pos]?=some i) (s7:f.pos<=2 ^ 41) (jK:i.args.length<=4096) (f':Fr) (eU:f' = { f with pos:=f.pos+1 }) (args:List SV) (en:args=cx f.vals i.args) (O1:List al) (dD:O1=O.set f.bL (.cells (aQ f'))) (jq:i.op=14) (c:SV) (K8:args[0]?=some c) (hk:c.kind=2) (EI:0<=c.n) (G:Func) (hG:u.fns[c.n.toNat]?=some G) (D:Block) (hD:G.blocks[0]?=some D) (GJ:D.params.length=args.length) (OS:∀v∈args,SV.bc O1.length v) {O':List al} (hC:ba Tryz.prog 81 O1 [.mp 2 0,aI c.n,.aB 4 (args.map SV.enc) .sh,aI i.to] (fun r O2=>r=.cK []∧O2=O')) (hlen:O.length<=O'.length) (mJ:∀o∈O',o.upto O'.length) (oJ:O1[2]?=some (.cells (az u m))) :
  ba Tryz.prog 83 O [.mp 2 0] (fun r O1=>r=.cK []∧O1=O'):=by
 have gp:=I hf;have ef:=I h0;have dR:=hf;unfold aQ at dR;have lp:O[2]?=some (.cells [a7 u.fns,aI u.main,.os m.sid (r.length+1) 1,aI m.left,.v (.bool m.short),.v (.bool m.over),.aB 1 (m.out.map aI) (.tok 3),aI m.fin,aI m.val]):=by
  rw[h0];unfold az;rw[dp];rfl
 have r8:((r.length+1:Nat):Int)-1=(r.length:Nat):=by omega
 have Jc:=I hi;have hs:=dh hf;have dN:O.length=O1.length:=by rw[dD];simp
 have sK:[aI f.fn,aI f.blk,aI ((f.pos:Int)+1),aI f.to,.mm f.c8]=aQ f':=by
  rw[eU];simp[aQ]
 have l4:O1[f'.bL]?=some (.cells (aQ f')):=by rw[dD,eU];exact hs _
 have s8:O1[f'.c8]?=some (.map (.int .i64) (f'.vals.map gd)):=by rw[dD,eU];exact bm hv tc
 have eg:∀o∈O1,o.upto O1.length:=by
  rw[<-dN,dD];refine bg br hf fun h=>?_;simp only[aQ,au,ae.upto,true_and,and_true]at h ⊢;rw[eU];exact h
 have gk:=iW eg l4 s8 (by rw[eU,<-dN];exact hu) i.args jK;have jn:f'.bL=f.bL:=by rw[eU]
 have m8:f'.vals=f.vals:=by rw[eU]
 rw[jn,m8,<-en]at gk;rw[jn]at l4;unfold az at oJ;have hd:decide (c.kind=2)=true:=decide_eq_true hk;have kq:decide ((D.params.length:Int)=args.length)=true:=decide_eq_true (by omega);refine eY hT true (O'.length) Tryz.func83 rfl (by kernel_rfl) (by simp[Tryz.ntmps83]) (by assumption) ?_;show cu Tryz.prog _ _ _ ⟨137,_,_⟩;dsimp only[Tmp,TypeId,slotsOf];refine aS ?_;simp -dsimp only[simprocAttr,↓aa,zp,lp,r8,Nat.mul_one,dz,gn]
 repeat(refine⟨by omega,?_⟩)
 refine⟨ob (by kernel_rfl),?_⟩;refine ah ?_;refine aS ?_;simp -dsimp only[simprocAttr,↓aa,zp,lp,dR,hF,hB,o7]
 repeat(refine⟨by omega,?_⟩)
 refine⟨bN [2,f.bL] O.length [.pure,.pure,.pure,.pure,.rd 0,.pure,.pure,.pure,.rd 1,.pure,.pure,.pure,.pure,.pure,.pure,.rd 1,.pure,.pure,.wr 2 [],.wr 3 [2]] (by simp;omega) (by simp;omega) rfl rfl (by kernel_rfl),aV ?_⟩;simp -dsimp only[bD,ne_eq,Nat.reduceEqDiff,reduceCtorEq];refine aJ 3 ([aT B.params,bP B.ins,aI B.term.kind,aI B.term.arg,aI B.term.n,aT B.term.cases,aE B.term.to]) [(0,.mp 2 0),(2,.mp f.bL 0),(3,.ip none [aT B.params,bP B.ins,aI B.term.kind,aI B.term.arg,aI B.term.n,aT B.term.cases,aE B.term.to])] rfl (by rfl) (by omega) (by simp[bq,aY,Go.Av.look]) ?_ ?_ ?_
 ·exact br
 ·simp[ae.upto,au,gp,ef,av,Edge.ag,Ins.ag]
 refine cJ ?_;simp -dsimp only[simprocAttr,↓aa,zp,dR];refine⟨ob (by kernel_rfl),?_⟩;refine ah ?_;apply aM rfl<;>intro h
 ·exact ab h (by omega)
 refine cm ?_;refine aS ?_;simp -dsimp only[simprocAttr,↓aa,zp,dR,hi,Int.toNat_natCast]
 repeat(refine⟨by omega,?_⟩)
 refine⟨bN [f.bL] O.length [.pure,.pure,.pure,.pure,.pure,.rd 0,.pure,.pure,.wr 1 [],.wr 2 [1]] (by simp) (by simp;omega) rfl rfl (by kernel_rfl),aV ?_⟩;simp -dsimp only[bD,ne_eq,Nat.reduceEqDiff,reduceCtorEq];refine aJ 4 ([aI i.to,aI i.op,aI i.n,aT i.args]) [(0,.mp 2 0),(2,.mp f.bL 0),(4,.ip none [aI i.to,aI i.op,aI i.n,aT i.args])] rfl (by rfl) (by omega) (by simp[bq,aY,Go.Av.look]) ?_ ?_ ?_
 ·exact br
 ·simp[ae.upto,au,gp,ef,av]
 refine aS ?_;simp -dsimp only[simprocAttr,↓aa,zp,dR,hs,sK,<-dD]
 repeat(refine⟨by omega,?_⟩)
 refine ah ?_;refine ay ?_;refine .inr (.inr ⟨_,gk,an (zj ?_)⟩);refine ah ?_;refine ay (ah ?_);refine ai ?_;refine ay (ah ?_);apply aM rfl<;>intro h
 ·exact ab h (by omega)
 refine ay (ah ?_);apply aM rfl<;>intro h
 ·refine aS ?_;simp -dsimp only[simprocAttr,↓aa,zp,K8];refine ah ?_;refine aJ 6 [aI c.kind,aI c.n,.aB 4 (c.list.map SV.enc) .sh,eP c.arr] [(0,.mp 2 0),(2,.mp f.bL 0),(4,.ip none [aI i.to,aI i.op,aI i.n,aT i.args]),(5,.aB 4 (args.map SV.enc) .sh),(6,.ip none [aI c.kind,aI c.n,.aB 4 (c.list.map SV.enc) .sh,eP c.arr])] rfl (by simp only[List.map_cons,List.map_nil,cy,b8,cr]) (by omega) (by simp[bq,aY,Go.Av.look]) eg ?_ ?_
  ·have vL:=(OS c (List.mem_of_getElem? K8)).aL;rw[SV.fu]at vL;simp only[au,ae.upto,true_and,and_true]at vL;have OJ:=SV.ag OS;simp[ae.upto,au,<-dN,gp,ef,av,vL,OJ];simp[dN,vL,OJ]
  refine aS ?_;simp -dsimp only[simprocAttr,↓aa,zp,hd,oJ,hG,hD,kq]
  repeat(refine⟨by omega,?_⟩)
  refine⟨ob (by kernel_rfl),?_⟩;refine ah ?_;refine cN rfl ?_;refine cF ?_;refine .inr (.inl ⟨_,_,hC,.inl (an (zj ?_))⟩)
  (refine aV ?_;simp -dsimp only[bD,ne_eq,Nat.reduceEqDiff,reduceCtorEq])
  skip
  simp -dsimp only[simprocAttr,↓aa,zp,zr,Tryz.results83,List.take_length];exact⟨mJ,trivial⟩
 exact af h (by omega)
theorem wo{u:cf}{m:Mach}{O:List al}(br:∀o∈O,o.upto O.length)(h0:O[2]?=some (.cells (az u m)))(f:Fr)(r:List Fr)(dp:m.frames=f::r)(hf:O[f.bL]?=some (.cells (aQ f)))(AI:f.bL≠2)
  {cs:List ae} (dz:O[m.sid]?=some (.cells cs)) (gn:cs[r.length]?=some (.mp f.bL 0)) (AK:r.length<=2 ^ 40) (F:Func) (hF:u.fns[f.fn.toNat]?=some F) (mz:0<=f.fn) (B:Block) (hB:F.blocks[f.blk.toNat]?=some B) (uk:0<=f.blk) (hv:O[f.c8]?=some (.map (.int .i64) (f.vals.map gd))) (tc:f.bL≠f.c8) (hu:∀e∈f.vals,SV.bc O.length e.2) (i:Ins) (hi:B.ins[f.pos]?=some i) (s7:f.pos<=2 ^ 41) (jK:i.args.length<=4096) (f':Fr) (eU:f' = { f with pos:=f.pos+1 }) (args:List SV) (en:args=cx f.vals i.args) (O1:List al) (dD:O1=O.set f.bL (.cells (aQ f'))) (jq:i.op=14) (c:SV) (K8:args[0]?=some c) (hk:c.kind≠2) (OS:∀v∈args,SV.bc O1.length v) (oJ:O1[2]?=some (.cells (az u m))) :
  ba Tryz.prog 83 O [.mp 2 0] (fun r O2=>r=.cK []∧O2=O1.set 2 (.cells (az u (m.stop 5 0)))):=by
 have gp:=I hf;have ef:=I h0;have dR:=hf;unfold aQ at dR;have lp:O[2]?=some (.cells [a7 u.fns,aI u.main,.os m.sid (r.length+1) 1,aI m.left,.v (.bool m.short),.v (.bool m.over),.aB 1 (m.out.map aI) (.tok 3),aI m.fin,aI m.val]):=by
  rw[h0];unfold az;rw[dp];rfl
 have r8:((r.length+1:Nat):Int)-1=(r.length:Nat):=by omega
 have Jc:=I hi;have hs:=dh hf;have dN:O.length=O1.length:=by rw[dD];simp
 have sK:[aI f.fn,aI f.blk,aI ((f.pos:Int)+1),aI f.to,.mm f.c8]=aQ f':=by
  rw[eU];simp[aQ]
 have l4:O1[f'.bL]?=some (.cells (aQ f')):=by rw[dD,eU];exact hs _
 have s8:O1[f'.c8]?=some (.map (.int .i64) (f'.vals.map gd)):=by rw[dD,eU];exact bm hv tc
 have eg:∀o∈O1,o.upto O1.length:=by
  rw[<-dN,dD];refine bg br hf fun h=>?_;simp only[aQ,au,ae.upto,true_and,and_true]at h ⊢;rw[eU];exact h
 have gk:=iW eg l4 s8 (by rw[eU,<-dN];exact hu) i.args jK;have jn:f'.bL=f.bL:=by rw[eU]
 have m8:f'.vals=f.vals:=by rw[eU]
 rw[jn,m8,<-en]at gk;rw[jn]at l4;have gU:O.length<=O.length:=Nat.le_refl _;have js:=jZ eg oJ 5 0;have eS:=bg eg oJ (ds:=az u (m.stop 5 0)) (fun h=>bS h rfl);have jH:=bX (O:=O1) (k:=2) (x:=.cells (az u (m.stop 5 0)));unfold az at oJ;have hd:decide (c.kind=2)=false:=decide_eq_false hk;refine eY hT true (O.length) Tryz.func83 rfl (by kernel_rfl) (by simp[Tryz.ntmps83]) (by assumption) ?_;show cu Tryz.prog _ _ _ ⟨137,_,_⟩;dsimp only[Tmp,TypeId,slotsOf];refine aS ?_;simp -dsimp only[simprocAttr,↓aa,zp,lp,r8,Nat.mul_one,dz,gn]
 repeat(refine⟨by omega,?_⟩)
 refine⟨ob (by kernel_rfl),?_⟩;refine ah ?_;refine aS ?_;simp -dsimp only[simprocAttr,↓aa,zp,lp,dR,hF,hB,o7]
 repeat(refine⟨by omega,?_⟩)
 refine⟨bN [2,f.bL] O.length [.pure,.pure,.pure,.pure,.rd 0,.pure,.pure,.pure,.rd 1,.pure,.pure,.pure,.pure,.pure,.pure,.rd 1,.pure,.pure,.wr 2 [],.wr 3 [2]] (by simp;omega) (by simp;omega) rfl rfl (by kernel_rfl),aV ?_⟩;simp -dsimp only[bD,ne_eq,Nat.reduceEqDiff,reduceCtorEq];refine aJ 3 ([aT B.params,bP B.ins,aI B.term.kind,aI B.term.arg,aI B.term.n,aT B.term.cases,aE B.term.to]) [(0,.mp 2 0),(2,.mp f.bL 0),(3,.ip none [aT B.params,bP B.ins,aI B.term.kind,aI B.term.arg,aI B.term.n,aT B.term.cases,aE B.term.to])] rfl (by rfl) (by omega) (by simp[bq,aY,Go.Av.look]) ?_ ?_ ?_
 ·exact br
 ·simp[ae.upto,au,gp,ef,av,Edge.ag,Ins.ag]
 refine cJ ?_;simp -dsimp only[simprocAttr,↓aa,zp,dR];refine⟨ob (by kernel_rfl),?_⟩;refine ah ?_;apply aM rfl<;>intro h
 ·exact ab h (by omega)
 refine cm ?_;refine aS ?_;simp -dsimp only[simprocAttr,↓aa,zp,dR,hi,Int.toNat_natCast]
 repeat(refine⟨by omega,?_⟩)
 refine⟨bN [f.bL] O.length [.pure,.pure,.pure,.pure,.pure,.rd 0,.pure,.pure,.wr 1 [],.wr 2 [1]] (by simp) (by simp;omega) rfl rfl (by kernel_rfl),aV ?_⟩;simp -dsimp only[bD,ne_eq,Nat.reduceEqDiff,reduceCtorEq];refine aJ 4 ([aI i.to,aI i.op,aI i.n,aT i.args]) [(0,.mp 2 0),(2,.mp f.bL 0),(4,.ip none [aI i.to,aI i.op,aI i.n,aT i.args])] rfl (by rfl) (by omega) (by simp[bq,aY,Go.Av.look]) ?_ ?_ ?_
 ·exact br
 ·simp[ae.upto,au,gp,ef,av]
 refine aS ?_;simp -dsimp only[simprocAttr,↓aa,zp,dR,hs,sK,<-dD]
 repeat(refine⟨by omega,?_⟩)
 refine ah ?_;refine ay ?_;refine .inr (.inr ⟨_,gk,an (zj ?_)⟩);refine ah ?_;refine ay (ah ?_);refine ai ?_;refine ay (ah ?_);apply aM rfl<;>intro h
 ·exact ab h (by omega)
 refine ay (ah ?_);apply aM rfl<;>intro h
 ·refine aS ?_;simp -dsimp only[simprocAttr,↓aa,zp,K8];refine ah ?_;refine aJ 6 [aI c.kind,aI c.n,.aB 4 (c.list.map SV.enc) .sh,eP c.arr] [(0,.mp 2 0),(2,.mp f.bL 0),(4,.ip none [aI i.to,aI i.op,aI i.n,aT i.args]),(5,.aB 4 (args.map SV.enc) .sh),(6,.ip none [aI c.kind,aI c.n,.aB 4 (c.list.map SV.enc) .sh,eP c.arr])] rfl (by simp only[List.map_cons,List.map_nil,cy,b8,cr]) (by omega) (by simp[bq,aY,Go.Av.look]) eg ?_ ?_
  ·have vL:=(OS c (List.mem_of_getElem? K8)).aL;rw[SV.fu]at vL;simp only[au,ae.upto,true_and,and_true]at vL;have OJ:=SV.ag OS;simp[ae.upto,au,<-dN,gp,ef,av,vL,OJ];simp[dN,vL,OJ]
  refine aS ?_;simp -dsimp only[simprocAttr,↓aa,zp,hd]
  repeat(refine⟨by omega,?_⟩)
  refine⟨ob (by kernel_rfl),?_⟩;refine ah ?_;refine cd rfl ?_;refine cF ?_;refine .inr (.inl ⟨_,_,js,.inl (an ?_)⟩);simp -dsimp only[simprocAttr,↓aa,zp,dN]
  (refine aV ?_;simp -dsimp only[bD,ne_eq,Nat.reduceEqDiff,reduceCtorEq])
  skip
  simp -dsimp only[simprocAttr,↓aa,zp,zr,Tryz.results83,jH,List.length_set,dN];exact⟨eS,trivial⟩
 exact af h (by omega)
theorem yT{u:cf}{m:Mach}{O:List al}(br:∀o∈O,o.upto O.length)(h0:O[2]?=some (.cells (az u m)))(f:Fr)(r:List Fr)(dp:m.frames=f::r)(hf:O[f.bL]?=some (.cells (aQ f)))(AI:f.bL≠2)
  {cs:List ae} (dz:O[m.sid]?=some (.cells cs)) (gn:cs[r.length]?=some (.mp f.bL 0)) (AK:r.length<=2 ^ 40) (F:Func) (hF:u.fns[f.fn.toNat]?=some F) (mz:0<=f.fn) (B:Block) (hB:F.blocks[f.blk.toNat]?=some B) (uk:0<=f.blk) (hv:O[f.c8]?=some (.map (.int .i64) (f.vals.map gd))) (tc:f.bL≠f.c8) (hu:∀e∈f.vals,SV.bc O.length e.2) (i:Ins) (hi:B.ins[f.pos]?=some i) (s7:f.pos<=2 ^ 41) (jK:i.args.length<=4096) (f':Fr) (eU:f' = { f with pos:=f.pos+1 }) (args:List SV) (en:args=cx f.vals i.args) (O1:List al) (dD:O1=O.set f.bL (.cells (aQ f'))) (jq:i.op=14) (c:SV) (K8:args[0]?=some c) (hk:c.kind=2) (EI:0<=c.n) (G:Func) (hG:u.fns[c.n.toNat]?=some G) (D:Block) (hD:G.blocks[0]?=some D) (GJ:D.params.length≠args.length) (OS:∀v∈args,SV.bc O1.length v) (oJ:O1[2]?=some (.cells (az u m))) :
  ba Tryz.prog 83 O [.mp 2 0] (fun r O2=>r=.cK []∧O2=O1.set 2 (.cells (az u (m.stop 5 0)))):=by
 have gp:=I hf;have ef:=I h0;have dR:=hf;unfold aQ at dR;have lp:O[2]?=some (.cells [a7 u.fns,aI u.main,.os m.sid (r.length+1) 1,aI m.left,.v (.bool m.short),.v (.bool m.over),.aB 1 (m.out.map aI) (.tok 3),aI m.fin,aI m.val]):=by
  rw[h0];unfold az;rw[dp];rfl
 have r8:((r.length+1:Nat):Int)-1=(r.length:Nat):=by omega
 have Jc:=I hi;have hs:=dh hf;have dN:O.length=O1.length:=by rw[dD];simp
 have sK:[aI f.fn,aI f.blk,aI ((f.pos:Int)+1),aI f.to,.mm f.c8]=aQ f':=by
  rw[eU];simp[aQ]
 have l4:O1[f'.bL]?=some (.cells (aQ f')):=by rw[dD,eU];exact hs _
 have s8:O1[f'.c8]?=some (.map (.int .i64) (f'.vals.map gd)):=by rw[dD,eU];exact bm hv tc
 have eg:∀o∈O1,o.upto O1.length:=by
  rw[<-dN,dD];refine bg br hf fun h=>?_;simp only[aQ,au,ae.upto,true_and,and_true]at h ⊢;rw[eU];exact h
 have gk:=iW eg l4 s8 (by rw[eU,<-dN];exact hu) i.args jK;have jn:f'.bL=f.bL:=by rw[eU]
 have m8:f'.vals=f.vals:=by rw[eU]
 rw[jn,m8,<-en]at gk;rw[jn]at l4;have gU:O.length<=O.length:=Nat.le_refl _;have js:=jZ eg oJ 5 0;have eS:=bg eg oJ (ds:=az u (m.stop 5 0)) (fun h=>bS h rfl);have jH:=bX (O:=O1) (k:=2) (x:=.cells (az u (m.stop 5 0)));unfold az at oJ;have hd:decide (c.kind=2)=true:=decide_eq_true hk;have kq:decide ((D.params.length:Int)=args.length)=false:=decide_eq_false (by omega);refine eY hT true (O.length) Tryz.func83 rfl (by kernel_rfl) (by simp[Tryz.ntmps83]) (by assumption) ?_;show cu Tryz.prog _ _ _ ⟨137,_,_⟩;dsimp only[Tmp,TypeId,slotsOf];refine aS ?_;simp -dsimp only[simprocAttr,↓aa,zp,lp,r8,Nat.mul_one,dz,gn]
 repeat(refine⟨by omega,?_⟩)
 refine⟨ob (by kernel_rfl),?_⟩;refine ah ?_;refine aS ?_;simp -dsimp only[simprocAttr,↓aa,zp,lp,dR,hF,hB,o7]
 repeat(refine⟨by omega,?_⟩)
 refine⟨bN [2,f.bL] O.length [.pure,.pure,.pure,.pure,.rd 0,.pure,.pure,.pure,.rd 1,.pure,.pure,.pure,.pure,.pure,.pure,.rd 1,.pure,.pure,.wr 2 [],.wr 3 [2]] (by simp;omega) (by simp;omega) rfl rfl (by kernel_rfl),aV ?_⟩;simp -dsimp only[bD,ne_eq,Nat.reduceEqDiff,reduceCtorEq];refine aJ 3 ([aT B.params,bP B.ins,aI B.term.kind,aI B.term.arg,aI B.term.n,aT B.term.cases,aE B.term.to]) [(0,.mp 2 0),(2,.mp f.bL 0),(3,.ip none [aT B.params,bP B.ins,aI B.term.kind,aI B.term.arg,aI B.term.n,aT B.term.cases,aE B.term.to])] rfl (by rfl) (by omega) (by simp[bq,aY,Go.Av.look]) ?_ ?_ ?_
 ·exact br
 ·simp[ae.upto,au,gp,ef,av,Edge.ag,Ins.ag]
 refine cJ ?_;simp -dsimp only[simprocAttr,↓aa,zp,dR];refine⟨ob (by kernel_rfl),?_⟩;refine ah ?_;apply aM rfl<;>intro h
 ·exact ab h (by omega)
 refine cm ?_;refine aS ?_;simp -dsimp only[simprocAttr,↓aa,zp,dR,hi,Int.toNat_natCast]
 repeat(refine⟨by omega,?_⟩)
 refine⟨bN [f.bL] O.length [.pure,.pure,.pure,.pure,.pure,.rd 0,.pure,.pure,.wr 1 [],.wr 2 [1]] (by simp) (by simp;omega) rfl rfl (by kernel_rfl),aV ?_⟩;simp -dsimp only[bD,ne_eq,Nat.reduceEqDiff,reduceCtorEq];refine aJ 4 ([aI i.to,aI i.op,aI i.n,aT i.args]) [(0,.mp 2 0),(2,.mp f.bL 0),(4,.ip none [aI i.to,aI i.op,aI i.n,aT i.args])] rfl (by rfl) (by omega) (by simp[bq,aY,Go.Av.look]) ?_ ?_ ?_
 ·exact br
 ·simp[ae.upto,au,gp,ef,av]
 refine aS ?_;simp -dsimp only[simprocAttr,↓aa,zp,dR,hs,sK,<-dD]
 repeat(refine⟨by omega,?_⟩)
 refine ah ?_;refine ay ?_;refine .inr (.inr ⟨_,gk,an (zj ?_)⟩);refine ah ?_;refine ay (ah ?_);refine ai ?_;refine ay (ah ?_);apply aM rfl<;>intro h
 ·exact ab h (by omega)
 refine ay (ah ?_);apply aM rfl<;>intro h
 ·refine aS ?_;simp -dsimp only[simprocAttr,↓aa,zp,K8];refine ah ?_;refine aJ 6 [aI c.kind,aI c.n,.aB 4 (c.list.map SV.enc) .sh,eP c.arr] [(0,.mp 2 0),(2,.mp f.bL 0),(4,.ip none [aI i.to,aI i.op,aI i.n,aT i.args]),(5,.aB 4 (args.map SV.enc) .sh),(6,.ip none [aI c.kind,aI c.n,.aB 4 (c.list.map SV.enc) .sh,eP c.arr])] rfl (by simp only[List.map_cons,List.map_nil,cy,b8,cr]) (by omega) (by simp[bq,aY,Go.Av.look]) eg ?_ ?_
  ·have vL:=(OS c (List.mem_of_getElem? K8)).aL;rw[SV.fu]at vL;simp only[au,ae.upto,true_and,and_true]at vL;have OJ:=SV.ag OS;simp[ae.upto,au,<-dN,gp,ef,av,vL,OJ];simp[dN,vL,OJ]
  refine aS ?_;simp -dsimp only[simprocAttr,↓aa,zp,hd,oJ,hG,hD,kq]
  repeat(refine⟨by omega,?_⟩)
  refine⟨ob (by kernel_rfl),?_⟩;refine ah ?_;refine cd rfl ?_;refine cF ?_;refine .inr (.inl ⟨_,_,js,.inl (an ?_)⟩);simp -dsimp only[simprocAttr,↓aa,zp,dN]
  (refine aV ?_;simp -dsimp only[bD,ne_eq,Nat.reduceEqDiff,reduceCtorEq])
  skip
  simp -dsimp only[simprocAttr,↓aa,zp,zr,Tryz.results83,jH,List.length_set,dN];exact⟨eS,trivial⟩
 exact af h (by omega)
theorem HC{u:cf}{m:Mach}{O:List al}(br:∀o∈O,o.upto O.length)(h0:O[2]?=some (.cells (az u m)))(f:Fr)(r:List Fr)(dp:m.frames=f::r)(hf:O[f.bL]?=some (.cells (aQ f)))(AI:f.bL≠2)
  {cs:List ae} (dz:O[m.sid]?=some (.cells cs)) (gn:cs[r.length]?=some (.mp f.bL 0)) (AK:r.length<=2 ^ 40) (F:Func) (hF:u.fns[f.fn.toNat]?=some F) (mz:0<=f.fn) (B:Block) (hB:F.blocks[f.blk.toNat]?=some B) (uk:0<=f.blk) (hv:O[f.c8]?=some (.map (.int .i64) (f.vals.map gd))) (tc:f.bL≠f.c8) (hu:∀e∈f.vals,SV.bc O.length e.2) (i:Ins) (hi:B.ins[f.pos]?=some i) (s7:f.pos<=2 ^ 41) (jK:i.args.length<=4096) (f':Fr) (eU:f' = { f with pos:=f.pos+1 }) (args:List SV) (en:args=cx f.vals i.args) (O1:List al) (dD:O1=O.set f.bL (.cells (aQ f'))) (jq:i.op≠13∧i.op≠14) {O2:List al} (v:SV) (t:Int) (hC:ba Tryz.prog 115 O1 [.mp 2 0,i.enc,.aB 4 (args.map SV.enc) .sh] (fun r O3=>r=.cK [v.enc,aI t]∧O3=O2)) (hlen:O.length<=O2.length) (eS:∀o∈O2,o.upto O2.length) (oC:SV.bc O2.length v) (m2:Mach) (Si:O2[2]?=some (.cells (az u m2)))
  (Gy:O2[f.bL]?=some (.cells (aQ f'))) (TY:O2[f.c8]?=some (.map (.int .i64) (f.vals.map gd))) (vT:∀e∈f.vals,SV.bc O2.length e.2) (Yj:f.c8≠2) (ht:t=0) :
  ba Tryz.prog 83 O [.mp 2 0] (fun r O3=>r=.cK []∧O3=O2.set f.c8 (.map (.int .i64) ((dg f.vals i.to v).map gd))):=by
 have gp:=I hf;have ef:=I h0;have dR:=hf;unfold aQ at dR;have lp:O[2]?=some (.cells [a7 u.fns,aI u.main,.os m.sid (r.length+1) 1,aI m.left,.v (.bool m.short),.v (.bool m.over),.aB 1 (m.out.map aI) (.tok 3),aI m.fin,aI m.val]):=by
  rw[h0];unfold az;rw[dp];rfl
 have r8:((r.length+1:Nat):Int)-1=(r.length:Nat):=by omega
 have Jc:=I hi;have hs:=dh hf;have dN:O.length=O1.length:=by rw[dD];simp
 have sK:[aI f.fn,aI f.blk,aI ((f.pos:Int)+1),aI f.to,.mm f.c8]=aQ f':=by
  rw[eU];simp[aQ]
 have l4:O1[f'.bL]?=some (.cells (aQ f')):=by rw[dD,eU];exact hs _
 have s8:O1[f'.c8]?=some (.map (.int .i64) (f'.vals.map gd)):=by rw[dD,eU];exact bm hv tc
 have eg:∀o∈O1,o.upto O1.length:=by
  rw[<-dN,dD];refine bg br hf fun h=>?_;simp only[aQ,au,ae.upto,true_and,and_true]at h ⊢;rw[eU];exact h
 have gk:=iW eg l4 s8 (by rw[eU,<-dN];exact hu) i.args jK;have jn:f'.bL=f.bL:=by rw[eU]
 have m8:f'.vals=f.vals:=by rw[eU]
 rw[jn,m8,<-en]at gk;rw[jn]at l4;have PR:=I Gy;have P1:=I Si;have Qn:=oC.aL;rw[SV.fu]at Qn;simp only[au,ae.upto,true_and,and_true]at Qn;have hd:decide (t=0)=true:=decide_eq_true ht;have S6:aQ f'=[aI f.fn,aI f.blk,aI ((f.pos:Int)+1),aI f.to,.mm f.c8]:=sK.symm;have Jf:nz O2.length ((dg f.vals i.to v).map gd):=z7 fun x hx=>by
  rcases jY hx with q|q
  ·exact vT x q
  rw[q];exact oC
 rw[S6]at Gy;have vU:=bR (k:=f.c8) (x:=.map (.int .i64) ((dg f.vals i.to v).map gd)) eS Jf;have jH:=bX (O:=O2) (k:=f.c8) (x:=.map (.int .i64) ((dg f.vals i.to v).map gd));refine eY hT true (O2.length) Tryz.func83 rfl (by kernel_rfl) (by simp[Tryz.ntmps83]) (by assumption) ?_;show cu Tryz.prog _ _ _ ⟨137,_,_⟩;dsimp only[Tmp,TypeId,slotsOf];refine aS ?_;simp -dsimp only[simprocAttr,↓aa,zp,lp,r8,Nat.mul_one,dz,gn]
 repeat(refine⟨by omega,?_⟩)
 refine⟨ob (by kernel_rfl),?_⟩;refine ah ?_;refine aS ?_;simp -dsimp only[simprocAttr,↓aa,zp,lp,dR,hF,hB,o7]
 repeat(refine⟨by omega,?_⟩)
 refine⟨bN [2,f.bL] O.length [.pure,.pure,.pure,.pure,.rd 0,.pure,.pure,.pure,.rd 1,.pure,.pure,.pure,.pure,.pure,.pure,.rd 1,.pure,.pure,.wr 2 [],.wr 3 [2]] (by simp;omega) (by simp;omega) rfl rfl (by kernel_rfl),aV ?_⟩;simp -dsimp only[bD,ne_eq,Nat.reduceEqDiff,reduceCtorEq];refine aJ 3 ([aT B.params,bP B.ins,aI B.term.kind,aI B.term.arg,aI B.term.n,aT B.term.cases,aE B.term.to]) [(0,.mp 2 0),(2,.mp f.bL 0),(3,.ip none [aT B.params,bP B.ins,aI B.term.kind,aI B.term.arg,aI B.term.n,aT B.term.cases,aE B.term.to])] rfl (by rfl) (by omega) (by simp[bq,aY,Go.Av.look]) ?_ ?_ ?_
 ·exact br
 ·simp[ae.upto,au,gp,ef,av,Edge.ag,Ins.ag]
 refine cJ ?_;simp -dsimp only[simprocAttr,↓aa,zp,dR];refine⟨ob (by kernel_rfl),?_⟩;refine ah ?_;apply aM rfl<;>intro h
 ·exact ab h (by omega)
 refine cm ?_;refine aS ?_;simp -dsimp only[simprocAttr,↓aa,zp,dR,hi,Int.toNat_natCast]
 repeat(refine⟨by omega,?_⟩)
 refine⟨bN [f.bL] O.length [.pure,.pure,.pure,.pure,.pure,.rd 0,.pure,.pure,.wr 1 [],.wr 2 [1]] (by simp) (by simp;omega) rfl rfl (by kernel_rfl),aV ?_⟩;simp -dsimp only[bD,ne_eq,Nat.reduceEqDiff,reduceCtorEq];refine aJ 4 ([aI i.to,aI i.op,aI i.n,aT i.args]) [(0,.mp 2 0),(2,.mp f.bL 0),(4,.ip none [aI i.to,aI i.op,aI i.n,aT i.args])] rfl (by rfl) (by omega) (by simp[bq,aY,Go.Av.look]) ?_ ?_ ?_
 ·exact br
 ·simp[ae.upto,au,gp,ef,av]
 refine aS ?_;simp -dsimp only[simprocAttr,↓aa,zp,dR,hs,sK,<-dD]
 repeat(refine⟨by omega,?_⟩)
 refine ah ?_;refine ay ?_;refine .inr (.inr ⟨_,gk,an (zj ?_)⟩);refine ah ?_;refine ay (ah ?_);refine ai ?_;refine ay (ah ?_);apply aM rfl<;>intro h
 ·exact ab h (by omega)
 refine ay (ah ?_);apply aM rfl<;>intro h
 ·exact ab h (by omega)
 refine ay ?_;refine .inr (.inl ⟨_,_,hC,.inl (an (zj ?_))⟩);refine ah ?_;refine aJ 7 [aI v.kind,aI v.n,.aB 4 (v.list.map SV.enc) .sh,eP v.arr] [(0,.mp 2 0),(2,.mp f.bL 0),(4,.ip none [aI i.to,aI i.op,aI i.n,aT i.args]),(7,.ip none [aI v.kind,aI v.n,.aB 4 (v.list.map SV.enc) .sh,eP v.arr]),(8,aI t)] rfl (by simp only[List.map_cons,List.map_nil,cy,b8,cr]) (by omega) (by simp[bq,aY,Go.Av.look]) eS ?_ ?_
 ·simp[ae.upto,au,PR,P1,av,Qn]
 refine cJ ?_;simp -dsimp only[simprocAttr,↓aa,zp,hd];refine ah ?_;refine cd rfl ?_;refine cm ?_;refine j4 ?_;simp -dsimp only[simprocAttr,↓aa,zp,Gy,TY,qG];refine⟨ob (by kernel_rfl),?_⟩
 (refine aV ?_;simp -dsimp only[bD,ne_eq,Nat.reduceEqDiff,reduceCtorEq])
 skip
 simp -dsimp only[simprocAttr,↓aa,zp,zr,Tryz.results83,jH,List.length_set];exact⟨vU,trivial⟩
theorem HD{u:cf}{m:Mach}{O:List al}(br:∀o∈O,o.upto O.length)(h0:O[2]?=some (.cells (az u m)))(f:Fr)(r:List Fr)(dp:m.frames=f::r)(hf:O[f.bL]?=some (.cells (aQ f)))(AI:f.bL≠2)
  {cs:List ae} (dz:O[m.sid]?=some (.cells cs)) (gn:cs[r.length]?=some (.mp f.bL 0)) (AK:r.length<=2 ^ 40) (F:Func) (hF:u.fns[f.fn.toNat]?=some F) (mz:0<=f.fn) (B:Block) (hB:F.blocks[f.blk.toNat]?=some B) (uk:0<=f.blk) (hv:O[f.c8]?=some (.map (.int .i64) (f.vals.map gd))) (tc:f.bL≠f.c8) (hu:∀e∈f.vals,SV.bc O.length e.2) (i:Ins) (hi:B.ins[f.pos]?=some i) (s7:f.pos<=2 ^ 41) (jK:i.args.length<=4096) (f':Fr) (eU:f' = { f with pos:=f.pos+1 }) (args:List SV) (en:args=cx f.vals i.args) (O1:List al) (dD:O1=O.set f.bL (.cells (aQ f'))) (jq:i.op≠13∧i.op≠14) {O2:List al} (v:SV) (t:Int) (hC:ba Tryz.prog 115 O1 [.mp 2 0,i.enc,.aB 4 (args.map SV.enc) .sh] (fun r O3=>r=.cK [v.enc,aI t]∧O3=O2)) (hlen:O.length<=O2.length) (eS:∀o∈O2,o.upto O2.length) (oC:SV.bc O2.length v) (m2:Mach) (Si:O2[2]?=some (.cells (az u m2)))
  (Gy:O2[f.bL]?=some (.cells (aQ f'))) (TY:O2[f.c8]?=some (.map (.int .i64) (f.vals.map gd))) (vT:∀e∈f.vals,SV.bc O2.length e.2) (Yj:f.c8≠2) (ht:t≠0) :
  ba Tryz.prog 83 O [.mp 2 0] (fun r O3=>r=.cK []∧O3=(O2.set 2 (.cells (az u (m2.stop t 0)))).set f.c8 (.map (.int .i64) ((dg f.vals i.to v).map gd))):=by
 have gp:=I hf;have ef:=I h0;have dR:=hf;unfold aQ at dR;have lp:O[2]?=some (.cells [a7 u.fns,aI u.main,.os m.sid (r.length+1) 1,aI m.left,.v (.bool m.short),.v (.bool m.over),.aB 1 (m.out.map aI) (.tok 3),aI m.fin,aI m.val]):=by
  rw[h0];unfold az;rw[dp];rfl
 have r8:((r.length+1:Nat):Int)-1=(r.length:Nat):=by omega
 have Jc:=I hi;have hs:=dh hf;have dN:O.length=O1.length:=by rw[dD];simp
 have sK:[aI f.fn,aI f.blk,aI ((f.pos:Int)+1),aI f.to,.mm f.c8]=aQ f':=by
  rw[eU];simp[aQ]
 have l4:O1[f'.bL]?=some (.cells (aQ f')):=by rw[dD,eU];exact hs _
 have s8:O1[f'.c8]?=some (.map (.int .i64) (f'.vals.map gd)):=by rw[dD,eU];exact bm hv tc
 have eg:∀o∈O1,o.upto O1.length:=by
  rw[<-dN,dD];refine bg br hf fun h=>?_;simp only[aQ,au,ae.upto,true_and,and_true]at h ⊢;rw[eU];exact h
 have gk:=iW eg l4 s8 (by rw[eU,<-dN];exact hu) i.args jK;have jn:f'.bL=f.bL:=by rw[eU]
 have m8:f'.vals=f.vals:=by rw[eU]
 rw[jn,m8,<-en]at gk;rw[jn]at l4;have PR:=I Gy;have P1:=I Si;have Qn:=oC.aL;rw[SV.fu]at Qn;simp only[au,ae.upto,true_and,and_true]at Qn;have hd:decide (t=0)=false:=decide_eq_false ht;have S6:aQ f'=[aI f.fn,aI f.blk,aI ((f.pos:Int)+1),aI f.to,.mm f.c8]:=sK.symm;have Jf:nz O2.length ((dg f.vals i.to v).map gd):=z7 fun x hx=>by
  rcases jY hx with q|q
  ·exact vT x q
  rw[q];exact oC
 have js:=jZ eS Si t 0;obtain⟨O3,Sq⟩:∃O3,O3=O2.set 2 (.cells (az u (m2.stop t 0))):=⟨_,rfl⟩
 have Je:O2.length=O3.length:=by rw[Sq];simp
 rw[<-Sq]at js ⊢;have Xz:O3[f.bL]?=some (.cells (aQ f')):=by rw[Sq];exact bm Gy AI.symm
 have ZW:O3[f.c8]?=some (.map (.int .i64) (f.vals.map gd)):=by rw[Sq];exact bm TY Yj.symm
 rw[S6]at Xz;have vU:∀o∈O3.set f.c8 (.map (.int .i64) ((dg f.vals i.to v).map gd)),o.upto O3.length:=by
  rw[<-Je];refine bR ?_ Jf;rw[Sq];exact bg eS Si (fun h=>bS h rfl)
 have jH:=bX (O:=O3) (k:=f.c8) (x:=.map (.int .i64) ((dg f.vals i.to v).map gd));refine eY hT true (O2.length) Tryz.func83 rfl (by kernel_rfl) (by simp[Tryz.ntmps83]) (by assumption) ?_;show cu Tryz.prog _ _ _ ⟨137,_,_⟩;dsimp only[Tmp,TypeId,slotsOf];refine aS ?_;simp -dsimp only[simprocAttr,↓aa,zp,lp,r8,Nat.mul_one,dz,gn]
 repeat(refine⟨by omega,?_⟩)
 refine⟨ob (by kernel_rfl),?_⟩;refine ah ?_;refine aS ?_;simp -dsimp only[simprocAttr,↓aa,zp,lp,dR,hF,hB,o7]
 repeat(refine⟨by omega,?_⟩)
 refine⟨bN [2,f.bL] O.length [.pure,.pure,.pure,.pure,.rd 0,.pure,.pure,.pure,.rd 1,.pure,.pure,.pure,.pure,.pure,.pure,.rd 1,.pure,.pure,.wr 2 [],.wr 3 [2]] (by simp;omega) (by simp;omega) rfl rfl (by kernel_rfl),aV ?_⟩;simp -dsimp only[bD,ne_eq,Nat.reduceEqDiff,reduceCtorEq];refine aJ 3 ([aT B.params,bP B.ins,aI B.term.kind,aI B.term.arg,aI B.term.n,aT B.term.cases,aE B.term.to]) [(0,.mp 2 0),(2,.mp f.bL 0),(3,.ip none [aT B.params,bP B.ins,aI B.term.kind,aI B.term.arg,aI B.term.n,aT B.term.cases,aE B.term.to])] rfl (by rfl) (by omega) (by simp[bq,aY,Go.Av.look]) ?_ ?_ ?_
 ·exact br
 ·simp[ae.upto,au,gp,ef,av,Edge.ag,Ins.ag]
 refine cJ ?_;simp -dsimp only[simprocAttr,↓aa,zp,dR];refine⟨ob (by kernel_rfl),?_⟩;refine ah ?_;apply aM rfl<;>intro h
 ·exact ab h (by omega)
 refine cm ?_;refine aS ?_;simp -dsimp only[simprocAttr,↓aa,zp,dR,hi,Int.toNat_natCast]
 repeat(refine⟨by omega,?_⟩)
 refine⟨bN [f.bL] O.length [.pure,.pure,.pure,.pure,.pure,.rd 0,.pure,.pure,.wr 1 [],.wr 2 [1]] (by simp) (by simp;omega) rfl rfl (by kernel_rfl),aV ?_⟩;simp -dsimp only[bD,ne_eq,Nat.reduceEqDiff,reduceCtorEq];refine aJ 4 ([aI i.to,aI i.op,aI i.n,aT i.args]) [(0,.mp 2 0),(2,.mp f.bL 0),(4,.ip none [aI i.to,aI i.op,aI i.n,aT i.args])] rfl (by rfl) (by omega) (by simp[bq,aY,Go.Av.look]) ?_ ?_ ?_
 ·exact br
 ·simp[ae.upto,au,gp,ef,av]
 refine aS ?_;simp -dsimp only[simprocAttr,↓aa,zp,dR,hs,sK,<-dD]
 repeat(refine⟨by omega,?_⟩)
 refine ah ?_;refine ay ?_;refine .inr (.inr ⟨_,gk,an (zj ?_)⟩);refine ah ?_;refine ay (ah ?_);refine ai ?_;refine ay (ah ?_);apply aM rfl<;>intro h
 ·exact ab h (by omega)
 refine ay (ah ?_);apply aM rfl<;>intro h
 ·exact ab h (by omega)
 refine ay ?_;refine .inr (.inl ⟨_,_,hC,.inl (an (zj ?_))⟩);refine ah ?_;refine aJ 7 [aI v.kind,aI v.n,.aB 4 (v.list.map SV.enc) .sh,eP v.arr] [(0,.mp 2 0),(2,.mp f.bL 0),(4,.ip none [aI i.to,aI i.op,aI i.n,aT i.args]),(7,.ip none [aI v.kind,aI v.n,.aB 4 (v.list.map SV.enc) .sh,eP v.arr]),(8,aI t)] rfl (by simp only[List.map_cons,List.map_nil,cy,b8,cr]) (by omega) (by simp[bq,aY,Go.Av.look]) eS ?_ ?_
 ·simp[ae.upto,au,PR,P1,av,Qn]
 refine cJ ?_;simp -dsimp only[simprocAttr,↓aa,zp,hd];refine ah ?_;refine cN rfl ?_;refine cF ?_;refine .inr (.inl ⟨_,_,js,.inl (an (zj ?_))⟩);refine ah ?_;refine j4 ?_;simp -dsimp only[simprocAttr,↓aa,zp,Xz,ZW,qG];refine⟨ob (by kernel_rfl),?_⟩
 (refine aV ?_;simp -dsimp only[bD,ne_eq,Nat.reduceEqDiff,reduceCtorEq])
 skip
 simp -dsimp only[simprocAttr,↓aa,zp,zr,Tryz.results83,Je,jH,List.length_set];exact⟨vU,trivial⟩
end Go.Proofs.YtjdnhamngpafmaaGreat
namespace Go.Proofs.YtjdnhamngpafmaaGreat
open Go.Av
def Holds(L:List (Nat×al))(O:List al):Prop:=∀p∈L,O[p.1]?=some p.2
def dX(L:List (Nat×al)):List Nat:=L.map Prod.fst
theorem iv(A B:List (Nat×al)):dX (A++B)=dX A++dX B:=by simp[dX]
theorem ke(p:Nat×al)(B:List (Nat×al)):dX (p::B)=p.1::dX B:=rfl
theorem ly{L:List (Nat×al)}{p:Nat×al}(h:p∈L):p.1∈dX L:=List.mem_map.2 ⟨p,h,rfl⟩
theorem gg{A B:List (Nat×al)}{id:Nat}{y x:al}{O:List al}(h:Holds (A++(id,y)::B) O)(hn:(dX (A++(id,y)::B)).Nodup):Holds (A++(id,x)::B) (O.set id x):=by
 rw[iv,ke,List.nodup_append]at hn;obtain⟨_,hB,YB⟩:=hn;rw[List.nodup_cons]at hB;intro p hp;rcases List.mem_append.1 hp with q|q
 ·have bI:id≠p.1:=fun e=>YB p.1 (ly q) id List.mem_cons_self e.symm;exact bm (h p (by simp[q])) bI
 rcases List.mem_cons.1 q with rfl|q
 ·exact lP (h (id,y) (by simp))
 have bI:id≠p.1:=fun e=>hB.1 (by
  show id∈dX B;rw[e];exact ly q)
 exact bm (h p (by simp[q])) bI
theorem iP(A B:List (Nat×al))(id:Nat)(y x:al):dX (A++(id,y)::B)=dX (A++(id,x)::B):=by simp[dX]
theorem Holds.sub{L M:List (Nat×al)}{O:List al}(h:Holds L O)(hs:∀p∈M,p∈L):Holds M O:=fun p hp=>h p (hs p hp)
theorem Holds.lt{L:List (Nat×al)}{O:List al}(h:Holds L O):∀k∈dX L,k<O.length:=fun k hk=>by
 obtain⟨p,hp,rfl⟩:=List.mem_map.1 hk;exact I (h p hp)
def lW:List Fr->List (Nat×al)
 | []=>[]
 | f::r=>(f.bL,.cells (aQ f))::(f.c8,.map (.int .i64) (f.vals.map gd))::lW r
def dA:List BY->List (Nat×al)
 | []=>[]
 | a::r=>(a.lL,.cells [.ms a.eo 0 a.l.length a.l.length])::(a.eo,.cells (ao (a.l.map SV.enc)))::dA r
theorem oW(A B:List BY):dA (A++B)=dA A++dA B:=by
 induction A with
 | nil=>rfl
 | cons a r ih=>simp[dA,ih]
def b9(u:cf)(m:Mach)(rest:List ae):List (Nat×al) :=
 (1,.cells [.aB 1 [] .ex,aI 0,aI 0])::(2,.cells (az u m))::(3,.spare m.out.length)::(m.sid,.cells (eh m.frames++rest))::(lW m.frames++dA m.heap)
structure Tl(u:cf)(m:Mach)(rest:List ae)(O:List al):Prop where
 len:O.length=m.next
 upto:∀o∈O,o.upto O.length
 holds:Holds (b9 u m rest) O
 nodup:(dX (b9 u m rest)).Nodup
namespace Tl
variable {u:cf} {m:Mach} {rest:List ae} {O:List al}
theorem fJ(h:Tl u m rest O):O[2]?=some (.cells (az u m)):=h.holds (2,_) (by simp[b9])
theorem outs(h:Tl u m rest O):O[3]?=some (.spare m.out.length):=h.holds (3,_) (by simp[b9])
theorem stack(h:Tl u m rest O):O[m.sid]?=some (.cells (eh m.frames++rest)):=h.holds (m.sid,_) (by simp[b9])
theorem EE{l:List Fr}{f:Fr}(hf:f∈l):(f.bL,al.cells (aQ f))∈lW l∧(f.c8,al.map (.int .i64) (f.vals.map gd))∈lW l:=by
 induction l with
 | nil=>simp at hf
 | cons g r ih =>
  rcases List.mem_cons.1 hf with rfl|hf
  ·simp[lW]
  simp[lW,ih hf]
theorem xL{l:List BY}{a:BY}(ha:a∈l):(a.lL,al.cells [.ms a.eo 0 a.l.length a.l.length])∈dA l∧(a.eo,al.cells (ao (a.l.map SV.enc)))∈dA l:=by
 induction l with
 | nil=>simp at ha
 | cons g r ih =>
  rcases List.mem_cons.1 ha with rfl|ha
  ·simp[dA]
  simp[dA,ih ha]
theorem frame(h:Tl u m rest O){f:Fr}(hf:f∈m.frames):O[f.bL]?=some (.cells (aQ f))∧O[f.c8]?=some (.map (.int .i64) (f.vals.map gd)) :=
 ⟨h.holds (f.bL,_) (by simp[b9,EE hf]),h.holds (f.c8,_) (by simp[b9,EE hf])⟩
theorem arr(h:Tl u m rest O){a:BY}(ha:a∈m.heap):O[a.lL]?=some (.cells [.ms a.eo 0 a.l.length a.l.length])∧O[a.eo]?=some (.cells (ao (a.l.map SV.enc))) :=
 ⟨h.holds (a.lL,_) (by simp[b9,xL ha]),h.holds (a.eo,_) (by simp[b9,xL ha])⟩
theorem under(h:Tl u m rest O){v:SV}(hv:hU u m v):SV.bc O.length v :=
 SV.Wf.under (fun id ⟨a,ha,e⟩=>by
  rw[<-e];exact I (h.arr ha).1) hv
theorem oh(h:Tl u m rest O)(m':Mach)(h1:m'.sid=m.sid)(h2:m'.frames=m.frames)(h3:m'.heap=m.heap)(h4:m'.out.length=m.out.length)(h5:m'.next=m.next):Tl u m' rest (O.set 2 (.cells (az u m'))):=by
 have e:b9 u m' rest=[(1,.cells [.aB 1 [] .ex,aI 0,aI 0])]++(2,.cells (az u m'))::((3,.spare m.out.length)::(m.sid,.cells (eh m.frames++rest))::(lW m.frames++dA m.heap)):=by
  simp[b9,h1,h2,h3,h4]
 refine⟨by simp[h.len,h5],?_,?_,?_⟩
 ·rw[List.length_set];exact bg h.upto h.fJ (fun q=>bS q h1)
 ·rw[e];exact gg (A:=[_]) (y:=.cells (az u m)) h.holds h.nodup
 rw[e,<-iP _ _ _ (.cells (az u m))];exact h.nodup
theorem QC(h:Tl u m rest O)(m':Mach)(h1:m'.sid=m.sid)(h2:m'.frames=m.frames)(h3:m'.heap=m.heap)(h5:m'.next=m.next):Tl u m' rest ((O.set 3 (.spare m'.out.length)).set 2 (.cells (az u m'))):=by
 have e:b9 u m' rest=[(1,.cells [.aB 1 [] .ex,aI 0,aI 0])]++(2,.cells (az u m'))::((3,.spare m'.out.length)::(m.sid,.cells (eh m.frames++rest))::(lW m.frames++dA m.heap)):=by
  simp[b9,h1,h2,h3]
 have hs:=gg (A:=[(1,.cells [.aB 1 [] .ex,aI 0,aI 0]),(2,.cells (az u m))]) (x:=.spare m'.out.length) (y:=.spare m.out.length) h.holds h.nodup;have hk:=iP [(1,.cells [.aB 1 [] .ex,aI 0,aI 0]),(2,.cells (az u m))] ((m.sid,.cells (eh m.frames++rest))::(lW m.frames++dA m.heap)) 3 (.spare m.out.length) (.spare m'.out.length);have hn:(dX ([(1,.cells [.aB 1 [] .ex,aI 0,aI 0]),(2,.cells (az u m))]++(3,.spare m'.out.length)::((m.sid,.cells (eh m.frames++rest))::(lW m.frames++dA m.heap)))).Nodup:=by
  rw[<-hk];exact h.nodup
 refine⟨by simp[h.len,h5],?_,?_,?_⟩
 ·rw[List.length_set,List.length_set];exact bg (bR h.upto trivial) (bm h.fJ (by omega)) (fun q=>bS q h1)
 ·rw[e];exact gg (A:=[_]) (y:=.cells (az u m)) hs hn
 rw[e,<-iP _ _ _ (.cells (az u m))];exact hn
theorem bA(h:Tl u m rest O){f f':Fr}{r:List Fr}(dp:m.frames=f::r)(h1:f'.bL=f.bL)(h2:f'.c8=f.c8)(h3:f'.vals=f.vals):Tl u (m.bA f') rest (O.set f.bL (.cells (aQ f'))):=by
 have hm:az u (m.bA f')=az u m:=by simp[az,Mach.bA,dp]
 have hp:eh (f'::r)=eh (f::r):=by simp[eh,h1]
 have e:b9 u (m.bA f') rest=[(1,.cells [.aB 1 [] .ex,aI 0,aI 0]),(2,.cells (az u m)),(3,.spare m.out.length),(m.sid,.cells (eh m.frames++rest))]++(f.bL,.cells (aQ f'))::((f.c8,.map (.int .i64) (f.vals.map gd))::(lW r++dA m.heap)):=by
  unfold b9;rw[hm];simp[Mach.bA,dp,lW,h1,h2,h3,hp]
 have e0:b9 u m rest=[(1,.cells [.aB 1 [] .ex,aI 0,aI 0]),(2,.cells (az u m)),(3,.spare m.out.length),(m.sid,.cells (eh m.frames++rest))]++(f.bL,.cells (aQ f))::((f.c8,.map (.int .i64) (f.vals.map gd))::(lW r++dA m.heap)):=by
  simp[b9,dp,lW]
 have hh:=h.holds;have hn:=h.nodup;rw[e0]at hh hn;refine⟨by simp[h.len,Mach.bA],?_,?_,?_⟩
 ·rw[List.length_set];refine bg h.upto (h.frame (f:=f) (by rw[dp];simp)).1 (fun q=>?_);simp only[aQ,au,ae.upto,true_and,and_true,h2]at q ⊢;exact q
 ·rw[e];exact gg hh hn
 rw[e,<-iP _ _ _ (.cells (aQ f))];exact hn
theorem yL(h:Tl u m rest O){f f':Fr}{r:List Fr}(dp:m.frames=f::r)(h1:f' = { f with vals:=f'.vals })(hu:∀e∈f'.vals,SV.bc O.length e.2):Tl u (m.bA f') rest (O.set f.c8 (.map (.int .i64) (f'.vals.map gd))):=by
 have hm:az u (m.bA f')=az u m:=by simp[az,Mach.bA,dp]
 have jn:f'.bL=f.bL:=by rw[h1]
 have vO:f'.c8=f.c8:=by rw[h1]
 have GA:aQ f'=aQ f:=by rw[h1];rfl
 have hp:eh (f'::r)=eh (f::r):=by simp[eh,jn]
 have e:b9 u (m.bA f') rest=[(1,.cells [.aB 1 [] .ex,aI 0,aI 0]),(2,.cells (az u m)),(3,.spare m.out.length),(m.sid,.cells (eh m.frames++rest)),(f.bL,.cells (aQ f))]++(f.c8,.map (.int .i64) (f'.vals.map gd))::(lW r++dA m.heap):=by
  unfold b9;rw[hm];simp[Mach.bA,dp,lW,jn,vO,GA,hp]
 have e0:b9 u m rest=[(1,.cells [.aB 1 [] .ex,aI 0,aI 0]),(2,.cells (az u m)),(3,.spare m.out.length),(m.sid,.cells (eh m.frames++rest)),(f.bL,.cells (aQ f))]++(f.c8,.map (.int .i64) (f.vals.map gd))::(lW r++dA m.heap):=by
  simp[b9,dp,lW]
 have hh:=h.holds;have hn:=h.nodup;rw[e0]at hh hn;refine⟨by simp[h.len,Mach.bA],?_,?_,?_⟩
 ·rw[List.length_set];exact bR h.upto (z7 hu)
 ·rw[e];exact gg hh hn
 rw[e,<-iP _ _ _ (.map (.int .i64) (f.vals.map gd))];exact hn
theorem pop(h:Tl u m rest O){f g g':Fr}{r:List Fr}(dp:m.frames=f::g::r)(h1:g' = { g with vals:=g'.vals })(hu:∀e∈g'.vals,SV.bc O.length e.2)(m':Mach)(la:m' = { m with frames:=g'::r }) :
  Tl u m' (.mp f.bL 0::rest) ((O.set 2 (.cells (az u m'))).set g.c8 (.map (.int .i64) (g'.vals.map gd))):=by
 have jn:g'.bL=g.bL:=by rw[h1]
 have vO:g'.c8=g.c8:=by rw[h1]
 have GA:aQ g'=aQ g:=by rw[h1];rfl
 have hp:eh (f::g::r)++rest=eh (g'::r)++.mp f.bL 0::rest:=by simp[eh,jn]
 have e0:b9 u m rest=[(1,.cells [.aB 1 [] .ex,aI 0,aI 0])]++(2,.cells (az u m))::((3,.spare m.out.length)::(m.sid,.cells (eh (g'::r)++.mp f.bL 0::rest))::(f.bL,.cells (aQ f))::(f.c8,.map (.int .i64) (f.vals.map gd))::(g.bL,.cells (aQ g))::(g.c8,.map (.int .i64) (g.vals.map gd))::(lW r++dA m.heap)):=by
  simp[b9,dp,lW,<-hp]
 have e1:b9 u m' (.mp f.bL 0::rest)=[(1,.cells [.aB 1 [] .ex,aI 0,aI 0]),(2,.cells (az u m')),(3,.spare m.out.length),(m.sid,.cells (eh (g'::r)++.mp f.bL 0::rest)),(g.bL,.cells (aQ g))]++(g.c8,.map (.int .i64) (g'.vals.map gd))::(lW r++dA m.heap):=by
  rw[la];simp[b9,lW,jn,vO,GA]
 have hh:=h.holds;have hn:=h.nodup;rw[e0]at hh hn;have h2:=gg (x:=.cells (az u m')) hh hn;have MB:∀p∈[(1,al.cells [.aB 1 [] .ex,aI 0,aI 0]),(2,.cells (az u m')),(3,.spare m.out.length),(m.sid,.cells (eh (g'::r)++.mp f.bL 0::rest)),(g.bL,.cells (aQ g))]++(g.c8,.map (.int .i64) (g.vals.map gd))::(lW r++dA m.heap),p∈[(1,.cells [.aB 1 [] .ex,aI 0,aI 0])]++(2,.cells (az u m'))::((3,.spare m.out.length)::(m.sid,.cells (eh (g'::r)++.mp f.bL 0::rest))::(f.bL,.cells (aQ f))::(f.c8,.map (.int .i64) (f.vals.map gd))::(g.bL,.cells (aQ g))::(g.c8,.map (.int .i64) (g.vals.map gd))::(lW r++dA m.heap)):=by
  intro p hp;simp only[List.cons_append,List.nil_append,List.mem_cons]at hp ⊢;rcases hp with q|q|q|q|q|q|q
  all_goals simp[q]
 have XS:(dX ([(1,al.cells [.aB 1 [] .ex,aI 0,aI 0]),(2,.cells (az u m')),(3,.spare m.out.length),(m.sid,.cells (eh (g'::r)++.mp f.bL 0::rest)),(g.bL,.cells (aQ g))]++(g.c8,.map (.int .i64) (g.vals.map gd))::(lW r++dA m.heap))).Nodup:=by
  refine List.Nodup.sublist ?_ hn;simp only[dX,List.map_cons,List.map_append,List.map_nil,List.cons_append,List.nil_append];exact((((List.Sublist.refl _).cons _).cons _).cons₂ _ |>.cons₂ _ |>.cons₂ _ |>.cons₂ _)
 have hg:=h2.sub MB;refine⟨by rw[la];simp[h.len],?_,?_,?_⟩
 ·rw[List.length_set,List.length_set];refine bR (bg h.upto h.fJ (fun q=>bS q (by rw[la]))) (z7 hu)
 ·rw[e1];exact gg hg XS
 rw[e1,<-iP _ _ _ (.map (.int .i64) (g.vals.map gd))];exact XS
theorem last(h:Tl u m rest O){f:Fr}(dp:m.frames=[f])(m':Mach)(h1:m'.sid=m.sid)(h2:m'.frames=[])(h3:m'.heap=m.heap)(h4:m'.out.length=m.out.length)(h5:m'.next=m.next):Tl u m' (.mp f.bL 0::rest) (O.set 2 (.cells (az u m'))):=by
 have e0:b9 u m rest=[(1,.cells [.aB 1 [] .ex,aI 0,aI 0])]++(2,.cells (az u m))::((3,.spare m.out.length)::(m.sid,.cells (.mp f.bL 0::rest))::(f.bL,.cells (aQ f))::(f.c8,.map (.int .i64) (f.vals.map gd))::dA m.heap):=by
  simp[b9,dp,lW,eh]
 have e1:b9 u m' (.mp f.bL 0::rest)=[(1,.cells [.aB 1 [] .ex,aI 0,aI 0]),(2,.cells (az u m')),(3,.spare m.out.length),(m.sid,.cells (.mp f.bL 0::rest))]++dA m.heap:=by
  simp[b9,h1,h2,h3,h4,lW,eh]
 have hh:=h.holds;have hn:=h.nodup;rw[e0]at hh hn;refine⟨by simp[h.len,h5],?_,?_,?_⟩
 ·rw[List.length_set];exact bg h.upto h.fJ (fun q=>bS q h1)
 ·rw[e1];refine(gg (x:=.cells (az u m')) hh hn).sub fun p hp=>?_;simp only[List.cons_append,List.nil_append,List.mem_cons]at hp ⊢;rcases hp with q|q|q|q|q
  all_goals simp[q]
 rw[e1];refine List.Nodup.sublist ?_ hn;simp only[dX,List.map_cons,List.map_append,List.map_nil,List.cons_append,List.nil_append];exact((((List.Sublist.refl _).cons _).cons _).cons₂ _ |>.cons₂ _ |>.cons₂ _ |>.cons₂ _)
end Tl
end Go.Proofs.YtjdnhamngpafmaaGreat
namespace Go.Proofs.YtjdnhamngpafmaaGreat
open Go.Av
namespace Tl
variable {u:cf} {m:Mach} {rest:List ae} {O:List al}
theorem keys(u:cf)(m:Mach)(rest:List ae):dX (b9 u m rest)=1::2::3::m.sid::dX (lW m.frames++dA m.heap):=rfl
theorem others(h:Tl u m rest O):Holds (lW m.frames++dA m.heap) O∧(∀k∈dX (lW m.frames++dA m.heap),k≠1∧k≠2∧k≠3∧k≠m.sid∧k<O.length)∧(dX (lW m.frames++dA m.heap)).Nodup∧m.sid≠1∧m.sid≠2∧m.sid≠3∧m.sid<O.length∧3<O.length:=by
 have hn:=h.nodup;have aZ:=h.holds.lt;rw[keys]at hn aZ;simp only[List.nodup_cons,List.mem_cons,not_or]at hn;obtain⟨⟨a1,a2,a3,a4⟩,⟨b1,b2,b3⟩,⟨c1,c2⟩,d,e⟩:=hn;refine⟨fun p hp=>h.holds p (by simp only[b9,List.mem_cons];exact .inr (.inr (.inr (.inr hp)))),fun k hk=>⟨?_,?_,?_,?_,aZ k (by simp[hk])⟩,e,fun q=>a3 q.symm,fun q=>b2 q.symm,fun q=>c1 q.symm,aZ _ (by simp),aZ 3 (by simp)⟩
 ·rintro rfl;exact a4 hk
 ·rintro rfl;exact b3 hk
 ·rintro rfl;exact c2 hk
 rintro rfl;exact d hk
theorem push(h:Tl u m rest O)(fn to:Int)(args:List SV)(m':Mach)(la:m'=m.enter u fn args to)(hu:∀v∈args,SV.bc O.length v) :
  Tl u m' [] (((O.set m.sid .gone).set 2 (.cells (az u m'))) ++
   [.map (.int .i64) ((cL [] (aF (bH u fn) 0).params args).map gd),.cells [aI fn,aI 0,aI 0,aI to,.mm O.length],.cells (lE (eh m.frames++rest) m.frames.length (O.length+1))]):=by
 obtain⟨ho,hk,HS,s1,s2,s3,s4,s5⟩:=h.others;have hN:=h.len;have s7:(eh m.frames).length=m.frames.length:=by simp[eh]
 obtain⟨O2,s6⟩:∃O2,O2=(O.set m.sid .gone).set 2 (.cells (az u m')):=⟨_,rfl⟩
 have C':O2.length=O.length:=by rw[s6];simp
 have Wc:lE (eh m.frames++rest) m.frames.length (O.length+1)=eh m'.frames++[]:=by
  rw[la];unfold lE;rw[List.take_append_of_le_length (by omega),List.take_of_length_le (by omega)];simp[eh,Mach.enter,hN]
 rw[Wc,<-s6];have e1:b9 u m' []=(1,.cells [.aB 1 [] .ex,aI 0,aI 0])::(2,.cells (az u m'))::(3,.spare m.out.length)::(O.length+2,.cells (eh m'.frames++[]))::(O.length+1,.cells [aI fn,aI 0,aI 0,aI to,.mm O.length])::(O.length,.map (.int .i64) ((cL [] (aF (bH u fn) 0).params args).map gd))::(lW m.frames++dA m.heap):=by
  rw[la];simp[b9,Mach.enter,lW,hN,aQ]
 have hold:∀k o,O[k]?=some o->k≠m.sid->k≠2->∀X,(O2++X)[k]?=some o:=fun k o hk h1 h2 X=>by
  refine cj ?_;rw[s6];exact bm (bm hk (Ne.symm h1)) (Ne.symm h2)
 refine⟨by rw[la];simp[C',Mach.enter,hN],?_,?_,?_⟩
 ·have hlen:(O2++[al.map (.int .i64) ((cL [] (aF (bH u fn) 0).params args).map gd),.cells [aI fn,aI 0,aI 0,aI to,.mm O.length],.cells (eh m'.frames++[])]).length=O.length+3:=by simp[C']
  rw[hlen];intro o iC;rcases List.mem_append.1 iC with q|q
  ·rw[s6]at q;refine bg (n:=O.length+3) (ds:=az u m') (bR (k:=m.sid) (x:=.gone) (fun o ho=>al.cE (by omega) (h.upto o ho)) trivial) (bm h.fJ s2) (fun q=>?_) o q;simp only[az,au,ae.upto,av,Func.ag,true_and,and_true,la,Mach.enter]at q ⊢;omega
  simp only[List.mem_cons,List.mem_nil_iff,or_false]at q;rcases q with rfl|rfl|rfl
  ·refine z7 fun x hx=>?_;rcases lx hx with q|q
   ·simp at q
   exact(hu _ q).mono (by omega)
  ·simp[al.upto,au,ae.upto]
  simp only[al.upto,List.append_nil,bZ];intro x hx;simp only[eh,List.mem_map,List.mem_reverse]at hx;obtain⟨f,hf,rfl⟩:=hx;rw[la]at hf;simp only[Mach.enter,List.mem_cons]at hf;rcases hf with rfl|hf
  ·simp[ae.upto,hN]
  have:=I (h.frame hf).1;simp only[ae.upto];omega
 ·rw[e1];intro p hp;simp only[List.mem_cons]at hp;rcases hp with rfl|rfl|rfl|rfl|rfl|rfl|hp
  ·exact hold 1 _ (h.holds (1,_) (by simp[b9])) (fun e=>s1 e.symm) (by omega) _
  ·refine cj ?_;rw[s6];exact lP (bm h.fJ s2)
  ·exact hold 3 _ h.outs (fun e=>s3 e.symm) (by omega) _
  ·show(O2++_)[O.length+2]?=_;rw[<-C',kE];rfl
  ·show(O2++_)[O.length+1]?=_;rw[<-C',kE];rfl
  ·show(O2++_)[O.length]?=_;rw[<-C',sU];rfl
  have:=hk p.1 (ly hp);exact hold p.1 _ (ho p hp) this.2.2.2.1 this.2.1 _
 rw[e1];simp only[ke,List.nodup_cons,List.mem_cons,not_or];refine⟨⟨by omega,by omega,by omega,by omega,by omega,fun q=>(hk 1 q).1 rfl⟩,⟨by omega,by omega,by omega,by omega,fun q=>(hk 2 q).2.1 rfl⟩,⟨by omega,by omega,by omega,fun q=>(hk 3 q).2.2.1 rfl⟩,⟨by omega,by omega,fun q=>?_⟩,⟨by omega,fun q=>?_⟩,fun q=>?_,HS⟩
 ·have:=(hk _ q).2.2.2.2;omega
 ·have:=(hk _ q).2.2.2.2;omega
 have:=(hk _ q).2.2.2.2;omega
theorem qP:∀(l:List BY) (a:BY) (x:List SV),a∈l->(dX (dA l)).Nodup->∃X Y,l=X++a::Y∧Mach.jI l (some a.lL) x=X++⟨a.lL,a.eo,x⟩::Y
 | [],_,_,h,_=>by simp at h
 | b::r,a,x,h,hn=>by
  unfold Mach.jI;rcases List.mem_cons.1 h with rfl|h
  ·exact⟨[],r,rfl,by simp⟩
  have bI:some a.lL≠some b.lL:=fun e=>by
   simp only[Option.some.injEq]at e;simp only[dA,ke,List.nodup_cons,List.mem_cons,not_or]at hn;exact hn.1.2 (by
    rw[<-e];exact ly (xL h).1)
  rw[if_neg bI];simp only[dA,ke,List.nodup_cons]at hn;obtain⟨X,Y,h1,h2⟩:=qP r a x h hn.2.2;exact⟨b::X,Y,by simp[h1],by simp[h2]⟩
theorem M3(h:Tl u m rest O){a:BY}(ha:a∈m.heap)(l:List SV)(hl:l.length=a.l.length)(hu:∀v∈l,SV.bc O.length v)(m':Mach)(la:m' = { m with heap:=Mach.jI m.heap (some a.lL) l }):Tl u m' rest (O.set a.eo (.cells (ao (l.map SV.enc)))):=by
 obtain⟨ho,hk,HS,s1,s2,s3,s4,s5⟩:=h.others;obtain⟨X,Y,e1,e2⟩:=qP m.heap a l ha (by
  rw[iv,List.nodup_append]at HS;exact HS.2.1)
 have Tk:az u m'=az u m:=by rw[la];rfl
 have e0:b9 u m rest=((1,.cells [.aB 1 [] .ex,aI 0,aI 0])::(2,.cells (az u m))::(3,.spare m.out.length)::(m.sid,.cells (eh m.frames++rest))::(lW m.frames++(dA X++[(a.lL,.cells [.ms a.eo 0 a.l.length a.l.length])])))++(a.eo,.cells (ao (a.l.map SV.enc)))::dA Y:=by
  unfold b9;rw[e1,oW];simp[dA]
 have e3:b9 u m' rest=((1,.cells [.aB 1 [] .ex,aI 0,aI 0])::(2,.cells (az u m))::(3,.spare m.out.length)::(m.sid,.cells (eh m.frames++rest))::(lW m.frames++(dA X++[(a.lL,.cells [.ms a.eo 0 a.l.length a.l.length])])))++(a.eo,.cells (ao (l.map SV.enc)))::dA Y:=by
  unfold b9;rw[Tk,la];simp only[e2,oW];simp[dA,hl]
 have hh:=h.holds;have hn:=h.nodup;rw[e0]at hh hn;refine⟨by rw[la];simp[h.len],?_,?_,?_⟩
 ·rw[List.length_set];exact bR h.upto (SV.iM hu)
 ·rw[e3];exact gg hh hn
 rw[e3,<-iP _ _ _ (.cells (ao (a.l.map SV.enc)))];exact hn
theorem Lv(h:Tl u m rest O)(l:List SV)(m':Mach)(J:List al)(hJ:J.length=7)(YL:∀o∈J,o.upto (O.length+9))(hu:∀v∈l,SV.bc O.length v)(h1:m'.sid=m.sid)(h2:m'.frames=m.frames)(h3:m'.heap=m.heap++[⟨m.next+8,m.next+7,l⟩])(h4:m'.out=m.out)(h5:m'.next=m.next+9) :
  Tl u m' rest (O.set 2 (.cells (az u m'))++(J++[.cells (ao (l.map SV.enc)),.cells [.ms (O.length+7) 0 l.length l.length]])):=by
 obtain⟨ho,hk,HS,s1,s2,s3,s4,s5⟩:=h.others;have hN:=h.len;obtain⟨O2,s6⟩:∃O2,O2=O.set 2 (.cells (az u m')):=⟨_,rfl⟩
 have C':O2.length=O.length:=by rw[s6];simp
 rw[<-s6];have e1:b9 u m' rest=(1,.cells [.aB 1 [] .ex,aI 0,aI 0])::(2,.cells (az u m'))::(3,.spare m.out.length)::(m.sid,.cells (eh m.frames++rest))::((lW m.frames++dA m.heap)++[(O.length+8,.cells [.ms (O.length+7) 0 l.length l.length]),(O.length+7,.cells (ao (l.map SV.enc)))]):=by
  simp[b9,h1,h2,h3,h4,oW,dA,hN]
 have hold:∀k o,O[k]?=some o->k≠2->∀X,(O2++X)[k]?=some o:=fun k o hk h2 X=>by
  refine cj ?_;rw[s6];exact bm hk (Ne.symm h2)
 refine⟨by simp[C',h5,hN,hJ],?_,?_,?_⟩
 ·have hlen:(O2++(J++[al.cells (ao (l.map SV.enc)),.cells [.ms (O.length+7) 0 l.length l.length]])).length=O.length+9:=by simp[C',hJ]
  rw[hlen];intro o iC;rcases List.mem_append.1 iC with q|q
  ·rw[s6]at q;exact bg (fun o ho=>al.cE (by omega) (h.upto o ho)) h.fJ (fun q=>bS q h1) o q
  rcases List.mem_append.1 q with q|q
  ·exact YL o q
  simp only[List.mem_cons,List.mem_nil_iff,or_false]at q;rcases q with rfl|rfl
  ·exact SV.iM fun v hv=>(hu v hv).mono (by omega)
  simp[al.upto,au,ae.upto]
 ·rw[e1];intro p hp;simp only[List.mem_cons,List.mem_append,List.mem_nil_iff,or_false]at hp;have Xe:∀k,(J++[al.cells (ao (l.map SV.enc)),.cells [.ms (O.length+7) 0 l.length l.length]])[7+k]?=[al.cells (ao (l.map SV.enc)),.cells [.ms (O.length+7) 0 l.length l.length]][k]?:=fun k=>by
   rw[<-hJ];exact kE
  rcases hp with rfl|rfl|rfl|rfl|hp|rfl|rfl
  ·exact hold 1 _ (h.holds (1,_) (by simp[b9])) (by omega) _
  ·refine cj ?_;rw[s6];exact lP h.fJ
  ·exact hold 3 _ h.outs (by omega) _
  ·exact hold m.sid _ h.stack s2 _
  ·have:=hk p.1 (ly (List.mem_append.2 hp));exact hold p.1 _ (ho p (List.mem_append.2 hp)) this.2.1 _
  ·show(O2++_)[O.length+8]?=_;have hx:O.length+8=O2.length+8:=by omega
   rw[hx,kE];exact Xe 1
  show(O2++_)[O.length+7]?=_;have hx:=kE (O:=O2) (k:=7) (X:=J++[al.cells (ao (l.map SV.enc)),.cells [.ms (O.length+7) 0 l.length l.length]]);rw[C']at hx;rw[hx];exact Xe 0
 rw[e1];simp only[ke,iv,List.nodup_cons,List.mem_cons,not_or,List.mem_append];have mN:∀k,(k∈dX (lW m.frames)∨k∈dX (dA m.heap))->k≠1∧k≠2∧k≠3∧k≠m.sid∧k<O.length:=fun k q=>hk k (by rw[iv];exact List.mem_append.2 q);refine⟨⟨by omega,by omega,by omega,⟨fun q=>(mN 1 (.inl q)).1 rfl,fun q=>(mN 1 (.inr q)).1 rfl⟩,by omega,by omega,by simp[dX]⟩,⟨by omega,by omega,⟨fun q=>(mN 2 (.inl q)).2.1 rfl,fun q=>(mN 2 (.inr q)).2.1 rfl⟩,by omega,by omega,by simp[dX]⟩,⟨by omega,⟨fun q=>(mN 3 (.inl q)).2.2.1 rfl,fun q=>(mN 3 (.inr q)).2.2.1 rfl⟩,by omega,by omega,by simp[dX]⟩,⟨⟨fun q=>(mN _ (.inl q)).2.2.2.1 rfl,fun q=>(mN _ (.inr q)).2.2.2.1 rfl⟩,by omega,by omega,by simp[dX]⟩,?_⟩;rw[List.nodup_append];rw[iv]at HS;refine⟨HS,by simp[dX],?_⟩;intro x hx y hy e;have:=(mN x (List.mem_append.1 hx)).2.2.2.2;simp only[dX,List.map_nil,List.mem_cons,List.mem_nil_iff,or_false]at hy;omega
end Tl
end Go.Proofs.YtjdnhamngpafmaaGreat
namespace Go.Proofs.YtjdnhamngpafmaaGreat
open Go.Av
theorem j6{l:List SV}{n:Nat}(h:l.length=n){k:Nat}(hk:k<n):∃x,l[k]?=some x:=⟨l[k]'(by omega),List.getElem?_eq_getElem _⟩
theorem Eb{l:List SV}(h:l.length=2):∃x y,l=[x,y]:=by
 match l,h with
 | [x,y],_=>exact⟨x,y,rfl⟩
theorem Cc{O:List al}{u:cf}{m:Mach}{rest:List ae}(ht:Tl u m rest O)(hm:dc u m){v:SV}(hv:hU u m v)(id:Option Nat)(h:id=v.arr):∀x∈Mach.gR m.heap id,SV.bc O.length x:=fun x hx=>by
 subst h;cases EU:v.arr with
 | none =>
  rw[EU]at hx;have:∀l:List BY,Mach.gR l none=[]:=fun l=>by
   induction l with
   | nil=>rfl
   | cons a r ih=>simp[Mach.gR,ih]
  rw[this]at hx;simp at hx
 | some id =>
  obtain⟨a,ha,h1,h2⟩:=nJ m.heap id (SV.Wf.ref hv id EU);rw[EU,h2]at hx;exact ht.under ((hm.ld a ha).2 x hx)
theorem CU{u:cf}{m:Mach}{rest:List ae}{O:List al}(ht:Tl u m rest O)(hm:dc u m)(jT:m.short=false){i:Ins}(hi:HZ u i)(Am:i.op≠13)(y6:i.op≠14){args:List SV}(jK:args.length=i.args.length)(ha:∀v∈args,hU u m v) :
  ∃O2,ba Tryz.prog 115 O [.mp 2 0,i.enc,.aB 4 (args.map SV.enc) .sh] (fun r O3=>r=.cK [(m.exec i args).2.1.enc,aI (m.exec i args).2.2]∧O3=O2)∧Tl u (m.exec i args).1 rest O2∧O.length<=O2.length:=by
 have br:=ht.upto;have hl:∀v∈args,SV.bc O.length v:=fun v hv=>ht.under (ha v hv);have OV:∀v∈args,v.kind=0->fG v.n:=fun v hv hk=>SV.Wf.num (ha v hv) (.inl hk);have kq:m.left<=2 ^ 40:=by have:=hm.depth;omega
 have jq:=hi.op;have stay:∀{v:SV} {t:Int},m.exec i args=(m,v,t)->ba Tryz.prog 115 O [.mp 2 0,i.enc,.aB 4 (args.map SV.enc) .sh] (fun r O3=>r=.cK [(m.exec i args).2.1.enc,aI (m.exec i args).2.2]∧O3=O) ->
   ∃O2,ba Tryz.prog 115 O [.mp 2 0,i.enc,.aB 4 (args.map SV.enc) .sh] (fun r O3=>r=.cK [(m.exec i args).2.1.enc,aI (m.exec i args).2.2]∧O3=O2)∧Tl u (m.exec i args).1 rest O2∧O.length<=O2.length:=fun e hC =>
  ⟨O,hC,by rw[e];exact ht,Nat.le_refl _⟩
 by_cases h0:i.op=0
 ·exact stay (v:=.word i.n) (t:=0) (by simp[Mach.exec,h0]) (IU (u:=u) br i args hl h0)
 by_cases h1:1<=i.op∧i.op<=7
 ·have C':=hi.c2 (.inl h1);obtain⟨x,hx⟩:=j6 (jK.trans C') (k:=0) (by omega);obtain⟨y,hy⟩:=j6 (jK.trans C') (k:=1) (by omega);have hC:=CT (u:=u) (m:=m) br i args hl h1 x y hx hy (OV x (List.mem_of_getElem? hx)) (OV y (List.mem_of_getElem? hy));refine⟨O,hC,?_,Nat.le_refl _⟩;have e:(m.exec i args).1=m:=by
   unfold Mach.exec;rw[if_neg h0,if_pos h1];split<;>rfl
  rw[e];exact ht
 by_cases h8:i.op=8
 ·exact stay (v:=.mk 1 i.n args none) (t:=0) (by simp[Mach.exec,h8]) (IT (u:=u) br i args hl h8)
 by_cases h9:i.op=9
 ·exact stay (v:=.mk 2 i.n args none) (t:=0) (by simp[Mach.exec,h9]) (Gj (u:=u) br i args hl h9)
 by_cases wQ:i.op=10∨i.op=11∨i.op=12∨i.op=21
 ·have hlen:0<args.length∧(i.op=21->args.length=2):=by
   rcases wQ with q|q|q|q
   ·have:=hi.c1 (by omega);omega
   ·have:=hi.c1 (by omega);omega
   ·have:=hi.c1 (by omega);omega
   have:=hi.c2 (by omega);omega
  obtain⟨x,hx⟩:=j6 rfl hlen.1;obtain⟨q1,q2⟩:=uG (i:=i) ha;have hC:=A7 br i args hl x hx (fun a b c=>j6 (hlen.2 (by omega)) (by omega)) (fun e=>hi.UW (.inl e));refine stay (v:=(cG i args).1) (t:=(cG i args).2) ?_ (IV (u:=u) (m:=m) br i args hl wQ hC (ht.under q1));unfold Mach.exec;rw[if_neg h0,if_neg h1,if_neg h8,if_neg h9,if_pos wQ]
 by_cases CZ:i.op=22∨i.op=23∨i.op=24
 ·have h2:i.op≠22->i.op≠24->∃x y,args=[x,y]:=fun a b=>Eb (jK.trans (hi.c2 (by omega)));obtain⟨q1,q2⟩:=vj (i:=i) ha (fun e=>by have:=hi.pack e;omega) h2;have hC:=BJ br i args hl (fun e=>j6 (jK.trans (hi.c1 (by omega))) (by omega)) h2 (fun e=>hi.UW (.inr e)) (fun v hv hk=>rO (ha v hv) hk);refine stay (v:=(cY i args).1) (t:=(cY i args).2) ?_ (IW (u:=u) (m:=m) br i args hl CZ hC (ht.under q1));unfold Mach.exec;rw[if_neg h0,if_neg h1,if_neg h8,if_neg h9,if_neg wQ,if_pos CZ]
 by_cases kz:i.op=100
 ·obtain⟨x,hx⟩:=j6 (jK.trans (hi.c1 (by omega))) (k:=0) (by omega);refine stay (v:=bW args 0) (t:=0) (by simp[Mach.exec,kz]) (Gk (u:=u) (m:=m) br i args hl kz x hx)
 have GF:i.op≠10∧i.op≠11∧i.op≠12∧i.op≠21:=by omega
 have GG:i.op≠22∧i.op≠23∧i.op≠24:=by omega
 have lp:2<O.length:=I ht.fJ;have Mn:=Ab m i args h0 h1 h8 h9 GF GG kz;have jG:=wK hm (i:=i) ha;by_cases wR:i.op=16
 ·obtain⟨x,y,e⟩:=Eb (jK.trans (hi.c2 (by omega)));subst e;have EZ:=hl x (by simp);have T4:=hl y (by simp);have he:m.exec i [x,y]=m.bj x y:=by
   rw[Mn];simp[Mach.effect,wR,bW]
  rw[he];by_cases y9:x.kind=0∧0<=x.n∧x.n<=1024∧x.n<=m.left
  ·obtain⟨g1,g2,g3,g4⟩:=y9;have mI:(m.db x.n).short=false:=by simp[Mach.db,show ¬m.left<x.n by omega,jT]
   have dS:m.bj x y=({ m.db x.n with heap:=m.heap++[⟨m.next+8,m.next+7,List.replicate x.n.toNat y⟩],next:=m.next+9 },.mk 3 0 [] (some (m.next+8)),0):=by
    unfold Mach.bj;rw[if_neg (by omega),if_neg (by omega),if_neg (by simp[mI])]
   have hC:=LV br ht.fJ i x y EZ T4 wR hm.left kq jT g1 g2 g3 g4;rw[dS];obtain⟨p1,p2,p3,p4,p5,p6,p7⟩:=fS m x.n;have Tk:az u ({ m.db x.n with heap:=m.heap++[⟨m.next+8,m.next+7,List.replicate x.n.toNat y⟩],next:=m.next+9 }:Mach)=az u (m.db x.n):=rfl;have kr:=ht.Lv (List.replicate x.n.toNat y) ({ m.db x.n with heap:=m.heap++[⟨m.next+8,m.next+7,List.replicate x.n.toNat y⟩],next:=m.next+9 }:Mach)
    [.gone,.cells [aI 3,aI 0,.aB 4 [] .sh,.mp (O.length+8) 0],.gone,.cells [aI 3,aI 0,.aB 4 [] .sh,.mp (O.length+8) 0],.gone,.gone,.cells [aI 3,aI 0,.aB 4 [] .ex,.mp (O.length+8) 0]] rfl (fun o ho=>by
     simp only[List.mem_cons,List.mem_nil_iff,or_false]at ho;rcases ho with rfl|rfl|rfl|rfl|rfl|rfl|rfl
     all_goals simp[al.upto,au,ae.upto]) (fun v hv=>by
     rw[(List.mem_replicate.1 hv).2];exact T4) p6 p1 rfl p3 rfl
   rw[Tk]at kr;simp only[List.length_replicate]at kr;have VJ:(SV.mk 3 0 [] (some (m.next+8))).enc=.agg [aI 3,aI 0,.aB 4 [] .sh,.mp (O.length+8) 0]:=by
    rw[SV.jC,ht.len];rfl
   refine⟨_,?_,kr,by simp⟩;simp only[VJ];exact hC
  have fB:(m.bj x y).2.1=.zero∧(m.bj x y).1.sid=m.sid∧(m.bj x y).1.frames=m.frames∧(m.bj x y).1.heap=m.heap∧(m.bj x y).1.out=m.out∧(m.bj x y).1.next=m.next:=by
   obtain⟨p1,p2,p3,p4,p5,p6,p7⟩:=fS m x.n;unfold Mach.bj;split
   ·simp
   split
   ·simp
   split
   ·exact⟨rfl,p6,p1,p2,p3,p7⟩
   rename_i a1 a2 a3;exfalso;refine y9 ⟨by omega,by omega,by omega,?_⟩;by_cases q:m.left<x.n
   ·exact absurd (show(m.db x.n).short=true by simp[Mach.db,q]) a3
   omega
  obtain⟨b0,b1,b2,b3,b4,b5⟩:=fB;have hC:=zZ br ht.fJ i x y EZ T4 wR hm.left kq jT (fun z=>by rw[b0];simp[SV.zero,SV.arr]);have kr:=ht.oh (m.bj x y).1 b1 b2 b3 (by rw[b4]) b5;exact⟨_,mV br i [x,y] hl h0 h1 h8 h9 GF GG kz lp _ _ (by rw[b0];exact pJ _) hC (by simp) kr.upto,kr,by simp⟩
 rw[Mn];by_cases yb:i.op=15
 ·obtain⟨x,hx⟩:=j6 (jK.trans (hi.c1 (by omega))) (k:=0) (by omega);have hC:=x6 br ht.fJ ht.outs i args hl yb x hx hm.out;have fB:(m.effect i args).1.sid=m.sid∧(m.effect i args).1.frames=m.frames∧(m.effect i args).1.heap=m.heap∧(m.effect i args).1.next=m.next:=by
   unfold Mach.effect;rw[if_pos yb];split
   ·simp
   split<;>simp
  obtain⟨b1,b2,b3,b4⟩:=fB;have kr:=ht.QC (m.effect i args).1 b1 b2 b3 b4;have hv:SV.bc O.length (m.effect i args).2.1:=ht.under (jG.val.of_heap (by rw[b3]));exact⟨_,mV br i args hl h0 h1 h8 h9 GF GG kz lp _ _ hv hC (by simp) kr.upto,kr,by simp⟩
 by_cases y7:i.op=18
 ·obtain⟨x,y,e⟩:=Eb (jK.trans (hi.c2 (by omega)));subst e;have hC:=xZ (u:=u) (m:=m) br i x y (hl x (by simp)) (hl y (by simp)) lp y7;have fB:(m.effect i [x,y]).1=m:=by
   unfold Mach.effect;rw[if_neg (by omega),if_neg (by omega),if_pos y7];split
   ·rfl
   split<;>rfl
  have hv:SV.bc O.length (m.effect i [x,y]).2.1:=ht.under (jG.val.of_heap (by rw[fB]));exact⟨O,mV br i [x,y] hl h0 h1 h8 h9 GF GG kz lp _ _ hv hC rfl br,by rw[fB];exact ht,Nat.le_refl _⟩
 have hlen:0<args.length∧(i.op≠17->2<=args.length)∧(i.op≠17->i.op≠19->3<=args.length):=by
  rcases(show i.op=17∨i.op=19∨i.op=20 by omega)with q|q|q
  ·have:=hi.c1 (by omega);omega
  ·have:=hi.c2 (by omega);omega
  have:=hi.c3 (by omega);omega
 obtain⟨x,hx⟩:=j6 rfl hlen.1;have Js:=List.mem_of_getElem? hx;obtain⟨O',hC,dz⟩:=CP (m:=m) br i args hl x hx yb wR y7 (fun a=>j6 rfl (hlen.2.1 a)) (fun a b=>j6 rfl (hlen.2.2 a b)) (Cc ht hm (ha x Js) _ rfl) (fun hk=>by
  obtain⟨a,HN,e1,e2⟩:=H' hm (ha x Js) hk;obtain⟨r1,r2⟩:=ht.arr HN;refine⟨a.lL,a.eo,e1,?_,?_⟩
  ·rw[e2];exact r1
  rw[e2];exact r2)
 rcases dz with⟨e1,e2⟩|⟨lL,eo,k,z,l,e1,e2,e3,e4,e5,e6,e7,e8⟩
 ·have hv:SV.bc O.length (m.effect i args).2.1:=ht.under (jG.val.of_heap (by rw[e2]));subst e1;exact⟨O',mV br i args hl h0 h1 h8 h9 GF GG kz lp _ _ hv hC rfl br,by rw[e2];exact ht,Nat.le_refl _⟩
 obtain⟨a,HN,f1,f2⟩:=nJ m.heap lL (SV.Wf.ref (ha x Js) lL e1);have XO:l=a.l:=by rw[e5,e1,f2]
 obtain⟨r1,r2⟩:=ht.arr HN;have hb:eo=a.eo:=by
  rw[f1,e2]at r1;simp only[Option.some.injEq,al.cells.injEq,List.cons.injEq,ae.ms.injEq]at r1;exact r1.1.1
 have kr:=ht.M3 HN (l.set k z) (by rw[List.length_set,XO]) (fun v hv=>by
  rcases List.mem_or_eq_of_mem_set hv with q|q
  ·rw[XO]at q;exact ht.under ((hm.ld a HN).2 v q)
  rw[q];exact e6) (m.effect i args).1 (by rw[e8,e1,f1])
 rw[<-hb,<-e7]at kr;have XN:O.length=O'.length:=by rw[e7];simp
 have hv:SV.bc O.length (m.effect i args).2.1:=by
  have:=kr.under jG.val;rw[<-XN]at this;exact this
 exact⟨O',mV br i args hl h0 h1 h8 h9 GF GG kz lp _ _ hv hC XN kr.upto,kr,by omega⟩
theorem Tl.of_eq{u:cf}{m m':Mach}{rest:List ae}{O O':List al}(h:Tl u m rest O)(e:m'=m)(e':O'=O):Tl u m' rest O':=by
 subst e;subst e';exact h
theorem jy{f:Fr}{r:List Fr}{rest:List ae}:(eh (f::r)++rest)[r.length]?=some (.mp f.bL 0):=by
 have h:eh (f::r)=r.reverse.map (fun f=>ae.mp f.bL 0)++[.mp f.bL 0]:=by simp[eh]
 rw[h,List.append_assoc];have hl:(r.reverse.map (fun f=>ae.mp f.bL 0)).length=r.length:=by simp
 rw[List.getElem?_append_right (by omega),hl,Nat.sub_self];rfl
theorem HA{f g:Fr}{r:List Fr}{rest:List ae}:(eh (f::g::r)++rest)[r.length]?=some (.mp g.bL 0):=by
 have h:eh (f::g::r)++rest=eh (g::r)++(.mp f.bL 0::rest):=by simp[eh]
 rw[h];exact jy
theorem Tl.apart{u:cf}{m:Mach}{rest:List ae}{O:List al}(ht:Tl u m rest O){f:Fr}{r:List Fr}(dp:m.frames=f::r):f.bL≠2∧f.c8≠2∧f.bL≠f.c8:=by
 obtain⟨_,hk,HS,_⟩:=ht.others;rw[dp]at hk HS;refine⟨(hk f.bL ?_).2.1,(hk f.c8 ?_).2.1,?_⟩
 ·rw[iv];exact List.mem_append.2 (.inl (ly (Tl.EE (f:=f) (by simp)).1))
 ·rw[iv];exact List.mem_append.2 (.inl (ly (Tl.EE (f:=f) (by simp)).2))
 simp only[lW,List.cons_append,ke,List.nodup_cons,List.mem_cons,not_or]at HS;exact HS.1.1
theorem Tl.U5{u:cf}{m:Mach}{rest:List ae}{O:List al}(ht:Tl u m rest O){g:Fr}(hg:g∈m.frames):g.bL≠2∧g.c8≠2:=by
 obtain⟨_,hk,HS,_⟩:=ht.others;refine⟨(hk g.bL ?_).2.1,(hk g.c8 ?_).2.1⟩
 ·rw[iv];exact List.mem_append.2 (.inl (ly (Tl.EE hg).1))
 rw[iv];exact List.mem_append.2 (.inl (ly (Tl.EE hg).2))
theorem wi(m:Mach)(f g:Fr):(m.bA f).bA g=m.bA g:=rfl
theorem qm{u:cf}{m:Mach}{rest:List ae}{O:List al}(ht:Tl u m rest O)(hm:dc u m){f:Fr}{r:List Fr}(dp:m.frames=f::r){e:Edge}(he:B0 (bH u f.fn) e) :
  ∃O',ba Tryz.prog 129 O [.mp 2 0,.mp f.bL 0,e.enc] (fun r O1=>r=.cK []∧O1=O')∧Tl u (m.follow u f e) rest O'∧O.length=O'.length:=by
 have dR:=hm.frames f (by rw[dp];simp);obtain⟨t1,t2⟩:=ht.frame (f:=f) (by rw[dp];simp);obtain⟨n1,n2,n3⟩:=ht.apart dp;have hu:∀e∈f.vals,SV.bc O.length e.2:=fun e he=>ht.under (dR.vals e he);obtain⟨f',eU⟩:∃f',f' = { f with blk:=e.block,pos:=0,vals:=cL f.vals (aF (bH u f.fn) e.block).params (cx f.vals e.args) }:=⟨_,rfl⟩
 have hC:=Af ht.upto ht.fJ f t1 t2 hu n1.symm n2.symm n3 dR.fn e he f' eU;have h1:=ht.bA (f':={ f' with vals:=f.vals }) dp (by rw[eU]) (by rw[eU]) rfl;have GA:aQ { f' with vals:=f.vals }=aQ f':=rfl;rw[GA]at h1;have h2:=h1.yL (f:={ f' with vals:=f.vals }) (f':=f') (r:=r) (by simp[Mach.bA,dp]) rfl (by
  rw[List.length_set,eU];intro x hx;rcases lx hx with q|q
  ·exact hu x q
  exact nw hu e.args _ q)
 rw[wi]at h2;have vO:f'.c8=f.c8:=by rw[eU]
 have dS:m.follow u f e=m.bA f':=by rw[eU];rfl
 rw[dS];refine⟨_,hC,?_,by simp⟩;exact h2.of_eq rfl (by rw[<-vO])
theorem ya{u:cf}{m:Mach}{rest:List ae}{O:List al}(ht:Tl u m rest O)(hm:dc u m){f:Fr}{r:List Fr}(dp:m.frames=f::r){t:Term}(BV:B4 (bH u f.fn) t) :
  ∃O' Bk,ba Tryz.prog 112 O [.mp 2 0,.mp f.bL 0,t.enc] (fun r O1=>r=.cK []∧O1=O')∧Tl u (m.finish u f t) Bk O'∧O.length=O'.length:=by
 have dR:=hm.frames f (by rw[dp];simp);obtain⟨t1,t2⟩:=ht.frame (f:=f) (by rw[dp];simp);obtain⟨n1,n2,n3⟩:=ht.apart dp;obtain⟨_,_,_,s1,s2,s3,s4,s5⟩:=ht.others;have hu:∀e∈f.vals,SV.bc O.length e.2:=fun e he=>ht.under (dR.vals e he);have hk:=BV.kind;unfold Mach.finish;by_cases h4:t.kind=4
 ·rw[if_pos h4];exact⟨_,rest,IP ht.upto ht.fJ f t1 t2 hu n3 t h4,ht.oh (m.stop t.n 0) rfl rfl rfl rfl rfl,by simp⟩
 rw[if_neg h4];by_cases h1:t.kind=1
 ·rw[if_pos h1];have hl:=BV.jump h1;have he:t.to[0]?=some (t.to[0]'(by omega)):=List.getElem?_eq_getElem _;obtain⟨O',q1,q2,q3⟩:=qm ht hm dp (BV.eZ _ (List.mem_of_getElem? he));refine⟨O',rest,IM ht.upto ht.fJ f t1 t2 hu n3 t h1 _ he q1 q3 q2.upto,?_,q3⟩;rw[he];exact q2
 rw[if_neg h1];by_cases h0:t.kind=0
 ·rw[if_pos h0];have hv:=EF dR.vals t.arg;have oC:=ht.under hv;cases hr:r with
  | nil =>
   subst hr;have hC:=Dl ht.upto ht.fJ f dp (I t1) _ oC;have kr:=ht.last dp (m.leave f (eO f.vals t.arg)) (by simp[Mach.leave,dp,Mach.stop]) (by simp[Mach.leave,dp,Mach.stop]) (by simp[Mach.leave,dp,Mach.stop]) (by simp[Mach.leave,dp,Mach.stop]) (by simp[Mach.leave,dp,Mach.stop]);exact⟨_,_,Ez ht.upto ht.fJ f t1 t2 hu n3 t h0 hC (by simp) kr.upto,kr,by simp⟩
  | cons g r' =>
   subst hr;have hg:g∈m.frames:=by rw[dp];simp
   obtain⟨g1,g2⟩:=ht.frame hg;obtain⟨k1,k2⟩:=ht.U5 hg;have UH:∀e∈g.vals,SV.bc O.length e.2:=fun e he=>ht.under ((hm.frames g hg).vals e he);have lZ:r'.length<=2 ^ 40:=by
    have h1:=hm.depth;have h2:=hm.left;rw[dp]at h1;simp only[List.length_cons]at h1;omega
   have dz:=ht.stack;rw[dp]at dz;have hC:=Dn ht.upto ht.fJ f g r' dp t1 g1 g2 UH dz HA s2 lZ n1 k1 k2 _ oC;have dS:m.leave f (eO f.vals t.arg) = { m with frames:={ g with vals:=dg g.vals f.to (eO f.vals t.arg) }::r' }:=by
    unfold Mach.leave;rw[dp];rfl
   have kr:=ht.pop (g':={ g with vals:=dg g.vals f.to (eO f.vals t.arg) }) dp rfl (fun x hx=>by
    rcases jY hx with q|q
    ·exact UH x q
    rw[q];exact oC) _ dS
   exact⟨_,_,Ez ht.upto ht.fJ f t1 t2 hu n3 t h0 hC (by simp) kr.upto,kr,by simp⟩
 rw[if_neg h0];by_cases hV:(eO f.vals t.arg).kind=0
 ·rw[if_neg (by simp[hV])];obtain⟨e,he⟩:=wF BV h0 h1 h4 (eO f.vals t.arg).n;obtain⟨O',q1,q2,q3⟩:=qm ht hm dp (BV.eZ _ (List.mem_of_getElem? he));refine⟨O',rest,CQ ht.upto ht.fJ f t1 t2 hu n3 t ⟨h0,h1,h4⟩ hV (by have:=BV.cl;omega) e he q1 q3 q2.upto,?_,q3⟩;rw[he];exact q2
 rw[if_pos hV];exact⟨_,rest,IQ ht.upto ht.fJ f t1 t2 hu n3 t ⟨h0,h1,h4⟩ hV,ht.oh (m.stop 5 0) rfl rfl rfl rfl rfl,by simp⟩
theorem D8{u:cf}{m:Mach}{rest:List ae}{O:List al}(hu:iK u)(ht:Tl u m rest O)(hm:dc u m)(ho:m.over=false)(hd:m.frames.length+m.left+1<=2 ^ 40) :
  ∃O' Bk,ba Tryz.prog 83 O [.mp 2 0] (fun r O1=>r=.cK []∧O1=O')∧Tl u (m.step u) Bk O'∧O.length<=O'.length:=by
 obtain⟨bI,jT⟩:=hm.over ho;unfold Mach.step;cases dp:m.frames with
 | nil=>exact absurd dp bI
 | cons f r =>
  have dR:=hm.frames f (by rw[dp];simp);obtain⟨t1,t2⟩:=ht.frame (f:=f) (by rw[dp];simp);obtain⟨n1,n2,n3⟩:=ht.apart dp;obtain⟨_,_,_,s1,s2,s3,s4,s5⟩:=ht.others;have Qm:∀e∈f.vals,SV.bc O.length e.2:=fun e he=>ht.under (dR.vals e he);have dz:=ht.stack;rw[dp]at dz;have lZ:r.length<=2 ^ 40:=by
   have h2:=hm.left;rw[dp]at hd;simp only[List.length_cons]at hd;omega
  have hF:=kK dR.fn.1 dR.fn.2;have hB:=ez dR.blk.1 dR.blk.2;have PE:=hu.blocks _ (gz dR.fn.1 dR.fn.2) _ (eW dR.blk.1 dR.blk.2);simp only;cases hi:(aF (bH u f.fn) f.blk).ins[f.pos]? with
  | none =>
   have pj:f.pos=(aF (bH u f.fn) f.blk).ins.length:=by
    have:=List.getElem?_eq_none_iff.1 hi;have:=dR.pos;omega
   obtain⟨O',Bk,q1,q2,q3⟩:=ya ht hm dp PE.term;exact⟨O',Bk,step_end ht.upto ht.fJ f r dp t1 n1 dz jy lZ _ hF dR.fn.1 _ hB dR.blk.1 pj q1 (by omega) q2.upto,q2,by omega⟩
  | some i =>
   simp only;have za:=PE.ins i (List.mem_of_getElem? hi);have aZ:=I hi;have uk:=PE.len;obtain⟨f',eU⟩:∃f',f' = { f with pos:=f.pos+1 }:=⟨_,rfl⟩
   rw[<-eU];have Jp:f'.vals=f.vals:=by rw[eU]
   have jn:f'.bL=f.bL:=by rw[eU]
   have vO:f'.c8=f.c8:=by rw[eU]
   obtain⟨O1,dD⟩:∃O1,O1=O.set f.bL (.cells (aQ f')):=⟨_,rfl⟩
   have h1:=ht.bA (f':=f') dp jn vO Jp;rw[<-dD]at h1;have dN:O.length=O1.length:=by rw[dD];simp
   have l4:B1 u m f':=by
    rw[eU];exact⟨dR.fn,dR.blk,aZ,dR.vals⟩
   have oJ:dc u (m.bA f'):=hm.bA bI l4;have S4:(m.bA f').frames=f'::r:=by simp[Mach.bA,dp]
   have Tk:az u (m.bA f')=az u m:=by simp[az,Mach.bA,dp]
   have sP:O1[2]?=some (.cells (az u m)):=by rw[<-Tk];exact h1.fJ
   obtain⟨args,en⟩:∃args,args=cx f.vals i.args:=⟨_,rfl⟩
   rw[<-en];have jK:args.length=i.args.length:=by rw[en];exact oo _ _
   have Uz:∀v∈args,hU u (m.bA f') v:=by
    rw[en];exact fun v hv=>(qR dR.vals i.args v hv).of_heap (by rfl)
   have PB:∀v∈args,SV.bc O1.length v:=fun v hv=>h1.under (Uz v hv);have Qh:=h1.stack;have VG:(m.bA f').frames.length<=2 ^ 41:=by
    rw[S4];simp only[List.length_cons];omega
   have ON:∀fn:Int,0<=fn∧fn<u.fns.length->(aF (bH u fn) 0).params.length=args.length ->
     ∃O',ba Tryz.prog 81 O1 [.mp 2 0,aI fn,.aB 4 (args.map SV.enc) .sh,aI i.to] (fun r O2=>r=.cK []∧O2=O')∧Tl u ((m.bA f').enter u fn args i.to) [] O'∧O.length<=O'.length:=fun fn mz hp=>by
    have hC:=CS h1.upto h1.fJ Qh (by simp[eh]) s2 h1.len VG fn mz (hu.ne _ (gz mz.1 mz.2)).1 args PB hp i.to;have kr:=h1.push fn i.to args _ rfl PB;exact⟨_,hC,kr,by simp;omega⟩
   unfold Mach.act;by_cases Am:i.op=13
   ·rw[if_pos Am];obtain⟨c1,c2,c3⟩:=za.call Am;obtain⟨O',q1,q2,q3⟩:=ON i.n ⟨c1,c2⟩ (by rw[jK];exact c3);exact⟨O',[],HB ht.upto ht.fJ f r dp t1 n1 dz jy lZ _ hF dR.fn.1 _ hB dR.blk.1 t2 n3 Qm i hi (by omega) za.len f' eU args en O1 dD Am q1 q3 q2.upto,q2,q3⟩
   rw[if_neg Am];by_cases y6:i.op=14
   ·rw[if_pos y6];obtain⟨c,hc⟩:=j6 (jK.trans rfl) (k:=0) (by have:=za.app y6;omega);have Sv:=fo hc;rw[Sv];have K8:=Uz c (List.mem_of_getElem? hc);have kr:=h1.oh ((m.bA f').stop 5 0) rfl rfl rfl rfl rfl;have js:az u ((m.bA f').stop 5 0)=az u (m.stop 5 0):=by simp[az,Mach.bA,Mach.stop,dp]
    by_cases hk:c.kind=2
    ·obtain⟨k1,k2⟩:=SV.Wf.fn K8 hk;have hG:=kK k1 k2;have hD:(bH u c.n).blocks[0]?=some (aF (bH u c.n) 0):=by
      obtain⟨z1,z2⟩:=U7 hu k1 k2;exact ez z1 z2
     by_cases hp:(aF (bH u c.n) 0).params.length=args.length
     ·rw[if_pos ⟨hk,hp⟩];obtain⟨O',q1,q2,q3⟩:=ON c.n ⟨k1,k2⟩ hp;exact⟨O',[],Kf ht.upto ht.fJ f r dp t1 n1 dz jy lZ _ hF dR.fn.1 _ hB dR.blk.1 t2 n3 Qm i hi (by omega) za.len f' eU args en O1 dD y6 c hc hk k1 _ hG _ hD hp PB q1 q3 q2.upto sP,q2,q3⟩
     rw[if_neg (fun q=>hp q.2)];refine⟨_,rest,yT ht.upto ht.fJ f r dp t1 n1 dz jy lZ _ hF dR.fn.1 _ hB dR.blk.1 t2 n3 Qm i hi (by omega) za.len f' eU args en O1 dD y6 c hc hk k1 _ hG _ hD hp PB sP,?_,by simp;omega⟩;rw[<-js];exact kr
    rw[if_neg (fun q=>hk q.1)];refine⟨_,rest,wo ht.upto ht.fJ f r dp t1 n1 dz jy lZ _ hF dR.fn.1 _ hB dR.blk.1 t2 n3 Qm i hi (by omega) za.len f' eU args en O1 dD y6 c hc hk PB sP,?_,by simp;omega⟩;rw[<-js];exact kr
   rw[if_neg y6];have Wq:(m.bA f').short=false:=jT;obtain⟨O2,q1,q2,q3⟩:=CU h1 oJ Wq za Am y6 jK Uz;have jG:=sW oJ za jK Uz;generalize (m.bA f').exec i args=R at *;have AD:R.1.frames=f'::r:=by rw[jG.frames,S4]
   obtain⟨w1,w2⟩:=q2.frame (f:=f') (by rw[AD];simp);rw[jn]at w1;rw[vO,Jp]at w2;have oC:=q2.under jG.val;have vT:∀e∈f.vals,SV.bc O2.length e.2:=fun e he=>(Qm e he).mono (by omega);have X9:∀e∈dg f.vals i.to R.2.1,SV.bc O2.length e.2:=fun x hx=>by
    rcases jY hx with q|q
    ·exact vT x q
    rw[q];exact oC
   unfold Mach.settle;rw[Jp];by_cases Lj:R.2.2=0
   ·rw[if_neg (by simp[Lj])];have hC:=HC ht.upto ht.fJ f r dp t1 n1 dz jy lZ _ hF dR.fn.1 _ hB dR.blk.1 t2 n3 Qm i hi (by omega) za.len f' eU args en O1 dD ⟨Am,y6⟩ R.2.1 R.2.2 q1 (by omega) q2.upto oC R.1 q2.fJ w1 w2 vT n2 Lj;have kr:=q2.yL (f':={ f' with vals:=dg f.vals i.to R.2.1 }) AD rfl X9;exact⟨_,rest,hC,kr.of_eq rfl (by rw[vO]),by simp;omega⟩
   rw[if_pos Lj];have hC:=HD ht.upto ht.fJ f r dp t1 n1 dz jy lZ _ hF dR.fn.1 _ hB dR.blk.1 t2 n3 Qm i hi (by omega) za.len f' eU args en O1 dD ⟨Am,y6⟩ R.2.1 R.2.2 q1 (by omega) q2.upto oC R.1 q2.fJ w1 w2 vT n2 Lj;have q4:=q2.oh (R.1.stop R.2.2 0) rfl rfl rfl rfl rfl;have kr:=q4.yL (f':={ f' with vals:=dg f.vals i.to R.2.1 }) AD rfl (by
    rw[List.length_set];exact X9)
   exact⟨_,rest,hC,kr.of_eq rfl (by rw[vO]),by simp;omega⟩
def Lp.enc(a:Lp):ae:=.cK [.agg [.aB 1 (a.out.map aI) .sh,aI a.fin,aI a.val],aI a.n,aI a.e]
theorem CN{f:FuncId}{O:List al}{a b d:ae}{sz:Nat}{R:ae->List al->Prop}(h:ba Tryz.prog f O [a,b,.aB sz [] .sh,d] R):ba Tryz.prog f O [a,b,.v (.slice none 0 0),d] R :=
 ⟨h.1,fun g vs hg ho ha=>h.2 g vs hg ho ⟨ha.1,fun i c u hc hu=>by
  match i,hc,hu with
  | 0,hc,hu=>exact ha.2 0 c u hc hu
  | 1,hc,hu=>exact ha.2 1 c u hc hu
  | 2,hc,hu =>
   simp only[List.getElem?_cons_succ,List.getElem?_cons_zero,Option.some.injEq]at hc;subst hc;have:=(ha.2 2 _ u rfl hu).bV.1;subst this;exact .nil (fun id e=>by cases e) (by simp)
  | 3,hc,hu=>exact ha.2 3 c u hc hu
  | i+4,hc,_=>simp at hc⟩⟩
theorem va{u:cf}(hu:iK u){fuel:Int}(h0:0<=fuel)(h1:fuel<=1000000):dc u ((Mach.start fuel).enter u u.main [] 0):=by
 have hs:dc u { Mach.start fuel with over:=true } :=
  ⟨by simp[Mach.start],by simp[Mach.start],h0,by simp[Mach.start];omega,by simp[Mach.start],by simp[Mach.start],by simp[Mach.start],by simp[Mach.start,fG],by simp[Mach.start],by simp⟩
 have h:=hs.enter hu (by simp) (by simp[Mach.start];omega) hu.main (args:=[]) (by simp) 0;exact⟨fun f hf=>(h.frames f hf).of_heap (by rfl),fun a ha=>by simp[Mach.start,Mach.enter]at ha,h.left,h.depth,h.out,h.words,h.fin,h.val,h.done,fun _=>⟨by simp[Mach.enter],rfl⟩⟩
theorem BB{u:cf}(hu:iK u){fuel:Int}(hp:(aF (bH u u.main) 0).params=[]):Tl u ((Mach.start fuel).enter u u.main [] 0) [] [.gone,.cells [.aB 1 [] .ex,aI 0,aI 0],.cells (az u ((Mach.start fuel).enter u u.main [] 0)),.spare 0,.map (.int .i64) [],.cells [aI u.main,aI 0,aI 0,aI 0,.mm 4],.cells [.mp 5 0]] where
 len:=rfl
 upto:=by simp[al.upto,au,nz,ae.upto,az,Func.ag,Mach.enter,Mach.start]
 holds:=by
  intro p RD;simp only[b9,Mach.enter,Mach.start,lW,dA,hp,cL,List.append_nil,List.mem_cons,List.mem_nil_iff,or_false,List.mem_append]at RD;rcases RD with rfl|rfl|rfl|rfl|rfl|rfl
  all_goals rfl
 nodup:=by
  simp[dX,b9,Mach.enter,Mach.start,lW,dA]
theorem J5{u:cf}{m:Mach}(h:m.over=true)(k:Nat):Mach.run u k m=m:=by
 cases k with
 | zero=>rfl
 | succ k=>simp[Mach.run,h]
theorem yy{u:cf}(hu:iK u){fuel:Int}(SY:0<=fuel)(l4:fuel<=1000000):bh Tryz.prog 54 [u.enc,aI fuel] (df u fuel).enc:=by
 have hp:=hu.none;have Rs:=CN (z8 (fuel:=fuel) hu.main (hu.ne _ (gz hu.main.1 hu.main.2)).1 hp 4 .sh);have dz:=BB hu (fuel:=fuel) hp;have Wt:=va hu SY l4;obtain⟨K,hK⟩:∃K,K=fuel.toNat+2:=⟨_,rfl⟩
 obtain⟨E,hE⟩:∃E,E=Mach.run u K ((Mach.start fuel).enter u u.main [] 0):=⟨_,rfl⟩
 have dS:df u fuel=if E.short then⟨[],0,0,0,13⟩else⟨E.out,E.fin,E.val,fuel-E.left,0⟩:=by
  rw[hE,hK];rfl
 rw[dS];have OE:((Mach.start fuel).enter u u.main [] 0).left=fuel:=rfl;unfold yp at Rs;generalize lp:(Mach.start fuel).enter u u.main [] 0=m0 at *;refine zf true 0 Tryz.func54 Tryz.ntmps54 ?_;dsimp only[Tmp,TypeId,slotsOf];refine ay (ah ?_);refine aA 2 0 (.ip none [a7 u.fns,aI u.main]) rfl (by simp[al.aC]) trivial rfl ?_ ?_;rotate_left;simp -dsimp only[simprocAttr,↓aa,zp]
 ·refine ay (ah ?_);refine gS 2 6 rfl rfl ?_;simp -dsimp only[simprocAttr,↓aa,zp];refine ay ?_;refine .inr (.inl ⟨_,_,Rs,.inl (an (zj ?_))⟩);refine ah ?_;refine aH (ai (aO (ι:={p:Mach×List ae×List al // dc u p.1∧Tl u p.1 p.2.1 p.2.2∧p.1.left<=fuel∧∃k,p.1.left.toNat+2<=k∧Mach.run u k p.1=E}) (fun p=>⟨45,[(1,aI fuel),(4,.mp 1 0),(5,aI 0),(6,aI 0),(7,.mp 2 0)],p.1.2.2⟩) (fun p=>p.1.1.left.toNat) ⟨(m0,[],_),Wt,dz,by simp only[OE];omega,K,by simp only[OE];omega,hE.symm⟩ ?_ ?_))
  ·refine zq rfl ?_ ?_;simp -dsimp only[simprocAttr,↓aa,zp,zc];rfl
  rintro⟨⟨m,rest,O⟩,hm,ht,ZD,k,hk,bw⟩;simp only at hm ht ZD hk bw;have Jh:=ht.fJ;unfold az at Jh;have Zg:=hm.depth;have PX:=hm.left;have r8:O[1]?=some (.cells [.aB 1 [] .ex,aI 0,aI 0]):=ht.holds (1,_) (by simp[b9]);have wV:=dh r8;have AH:=I ht.fJ;have vQ:=uM ht.upto ht.fJ 1 PX (by omega) (by omega);cases jL:m.over with
  | true =>
   rw[J5 jL]at bw;subst bw;rw[jL]at Jh;refine cJ ?_;simp -dsimp only[simprocAttr,↓aa,zp,Jh];refine ah ?_;refine cd rfl ?_;refine aG ?_;simp -dsimp only[bD,ne_eq,Nat.reduceEqDiff,reduceCtorEq];cases jT:m.short with
   | true =>
    rw[jT]at Jh;refine cJ ?_;simp -dsimp only[simprocAttr,↓aa,zp,Jh];refine ah ?_;refine cN rfl ?_;refine aS ?_;simp -dsimp only[simprocAttr,↓aa,zp,r8];refine ah ?_;refine aq ?_;simp -dsimp only[simprocAttr,↓aa,zp,zr,Tryz.results54,wV];exact⟨by simp[au,ae.upto],rfl⟩
   | false =>
    rw[jT]at Jh;refine cJ ?_;simp -dsimp only[simprocAttr,↓aa,zp,Jh];refine ah ?_;refine cd rfl ?_;refine cm ?_;refine aS ?_;simp -dsimp only[simprocAttr,↓aa,zp,Jh,r8]
    repeat(refine⟨by omega,?_⟩)
    refine⟨bN [1,2] O.length [.pure,.pure,.pure,.rd 1,.pure,.pure,.pure,.pure,.rd 1,.pure,.wr 2 [0],.pure,.pure] (by simp) (by simp;omega) rfl rfl (by kernel_rfl),aV ?_⟩;simp -dsimp only[bD,ne_eq,Nat.reduceEqDiff,reduceCtorEq];refine aq ?_;simp -dsimp only[simprocAttr,↓aa,zp,zr,Tryz.results54,wV];exact⟨by simp[au,ae.upto,av],rfl⟩
  | false =>
   obtain⟨k,rfl⟩:∃j,k=j+1:=⟨k-1,by omega⟩
   have ET:(if(m.db 1).short then m.db 1 else Mach.run u k (Mach.step u (m.db 1)))=E:=by
    rw[<-bw];simp[Mach.run,jL]
   have TT:=ht.oh (m.db 1) (fS m 1).2.2.2.2.2.1 (fS m 1).1 (fS m 1).2.1 (by rw[(fS m 1).2.2.1]) (fS m 1).2.2.2.2.2.2;have sP:=TT.fJ;have HT:(O.set 2 (.cells (az u (m.db 1))))[1]?=some (.cells [.aB 1 [] .ex,aI 0,aI 0]):=TT.holds (1,_) (by simp[b9]);have TL:=dh HT;rw[jL]at Jh;by_cases P9:m.left<1
   ·have mI:(m.db 1).short=true:=by simp[Mach.db,P9]
    rw[mI,if_pos rfl]at ET;have YF:E.short=true:=by
     rw[<-ET];exact mI
    obtain⟨O1,dD⟩:∃O1,O1=O.set 2 (.cells (az u (m.db 1))):=⟨_,rfl⟩
    rw[<-dD]at vQ sP HT;simp only[<-dD]at TL;unfold az at sP;rw[mI]at sP;refine cJ ?_;simp -dsimp only[simprocAttr,↓aa,zp,Jh];refine ah ?_;refine cN rfl ?_;refine cm ?_;refine ai ?_;refine ay ?_;refine .inr (.inl ⟨_,_,vQ,.inl (an (zj ?_))⟩);refine ah ?_;refine cJ ?_;simp -dsimp only[simprocAttr,↓aa,zp,sP];refine ah ?_;refine cN rfl ?_;refine aS ?_;simp -dsimp only[simprocAttr,↓aa,zp,HT];refine ah ?_;refine aq ?_;simp -dsimp only[simprocAttr,↓aa,zp,zr,Tryz.results54,TL,YF];exact⟨by simp[au,ae.upto],rfl⟩
   have Db:m.db 1 = { m with left:=m.left-1 }:=by simp[Mach.db,P9]
   have mI:(m.db 1).short=false:=by
    rw[Db];exact(hm.over jL).2
   have P8:(m.db 1).over=false:=by
    rw[Db];exact jL
   have oJ:dc u (m.db 1):=by
    rw[Db];exact⟨fun f hf=>(hm.frames f hf).of_heap (by rfl),fun a ha=>⟨(hm.ld a ha).1,fun v hv=>((hm.ld a ha).2 v hv).of_heap (by rfl)⟩,by simp;omega,by simp;omega,hm.out,hm.words,hm.fin,hm.val,hm.done,fun h=>hm.over h⟩
   have lK:(m.db 1).frames.length+(m.db 1).left+1<=2 ^ 40:=by
    rw[Db];simp;omega
   obtain⟨O2,Ub,q1,q2,q3⟩:=D8 hu TT oJ P8 lK;have OP:=oJ.step hu P8 lK;have pN:(Mach.step u (m.db 1)).left<=m.left-1:=by
    have:=xA u (m.db 1) oJ hu P8;rw[Db]at this ⊢;exact this
   have ZT:=OP.left;rw[mI,if_neg (by simp)]at ET;obtain⟨O1,dD⟩:∃O1,O1=O.set 2 (.cells (az u (m.db 1))):=⟨_,rfl⟩
   rw[<-dD]at vQ sP q1;unfold az at sP;rw[mI]at sP;refine cJ ?_;simp -dsimp only[simprocAttr,↓aa,zp,Jh];refine ah ?_;refine cN rfl ?_;refine cm ?_;refine ai ?_;refine ay ?_;refine .inr (.inl ⟨_,_,vQ,.inl (an (zj ?_))⟩);refine ah ?_;refine cJ ?_;simp -dsimp only[simprocAttr,↓aa,zp,sP];refine ah ?_;refine cd rfl ?_;refine cm ?_;refine cF ?_;refine .inr (.inl ⟨_,_,q1,.inl (an (zj ?_))⟩);refine RS ?_;refine⟨⟨(Mach.step u (m.db 1),Ub,O2),OP,q2,by simp only;omega,k,by simp only;omega,ET⟩,by simp only;omega,?_⟩;refine zq rfl ?_ ?_;simp -dsimp only[simprocAttr,↓aa,zp,zc];rfl
 exact bT.mp rfl rfl
theorem tG{u:cf}:∀{l:List Ins},o6 u l=0->∀i∈l,fN u i=0
 | [],_,f,h=>by simp at h
 | g::r,h,f,hf=>by
  have:=pt h;rcases List.mem_cons.1 hf with q|q
  ·subst q;exact this.1
  exact tG this.2 f q
theorem tF{u:cf}:∀{l:List Block},mS u l=0->∀b∈l,∀i∈b.ins,fN u i=0
 | [],_,f,h=>by simp at h
 | g::r,h,f,hf=>by
  have:=pt h;rcases List.mem_cons.1 hf with q|q
  ·subst q;exact tG this.1
  exact tF this.2 f q
theorem o5{u:cf}:∀{l:List Func},j8 u l=0->∀f∈l,∀b∈f.blocks,∀i∈b.ins,fN u i=0
 | [],_,f,h=>by simp at h
 | g::r,h,f,hf=>by
  have:=pt h;rcases List.mem_cons.1 hf with q|q
  ·subst q;exact tF this.1
  exact o5 this.2 f q
theorem Ig{u:cf}{i:Ins}(h:fN u i=0):(i.op=13∨i.op=9->i.n<u.fns.length)∧(i.op=13->(aF (bH u i.n) 0).params.length=i.args.length)∧(i.op=9->(aF (bH u i.n) 0).params.length≠0):=by
 unfold fN at h;split at h
 ·exact⟨by omega,by omega,by omega⟩
 split at h
 ·simp at h
 split at h
 ·simp at h
 exact⟨by omega,by omega,by omega⟩
structure R4(u:cf):Prop where
 few:u.fns.length<=256
 main:0<=u.main∧u.main<u.fns.length
 none:(aF (bH u u.main) 0).params=[]
 fns:∀f∈u.fns,Rc f
 calls:∀f∈u.fns,∀b∈f.blocks,∀i∈b.ins,fN u i=0
theorem zR{u:cf}(bt:u.fit)(h:dV u=0):R4 u:=by
 unfold dV at h;split at h
 ·simp at h
 split at h
 ·simp at h
 split at h
 ·simp at h
 rename_i h3;have h4:=pt h;have h5:=h4.2;split at h5
 ·simp at h5
 rename_i h6;have hw:0<=u.main∧u.main<=(u.fns.length:Int)-1:=by simpa[within]using h3
 refine⟨by omega,by omega,List.length_eq_zero_iff.1 (by omega),fun f hf=>cq (bt.2.2 f hf) (lY h4.1 f hf),o5 h5⟩
theorem yW{u:cf}(bt:u.fit)(h:dV u=0):iK u:=by
 have hw:=zR bt h;refine⟨hw.main,hw.few,hw.none,fun f hf=>⟨(hw.fns f hf).ne,by have:=(hw.fns f hf).few;omega⟩,fun f hf b hb=>?_⟩;have hF:=hw.fns f hf;have hB:=hF.blk b hb;have hE:=ud hB.fin;refine⟨fun i hi=>?_,⟨hE.kind,?_,hE.jump,hE.cond,hE.switch,fun e he=>?_,by have:=hE.cases;omega⟩,by have:=hF.ins b hb;omega⟩
 ·have gI:=sX (hB.Ai i hi);have hc:=Ig (hw.calls f hf b hb i hi);have XG:=((bt.2.2 f hf).2.2 b hb).2.2.2.1 i hi;have hlen:=gI.len;refine⟨.inl gI.op,by omega,⟨XG.1,XG.2.2.1⟩,fun q=>(gI.c0 q).1,gI.c2,fun q=>gI.c1 (by have:=gI.op;omega),gI.c3,fun q=>⟨?_,hlen⟩,fun q=>?_,fun q=>?_,gI.app,gI.UW,fun _=>hlen,gI.vec⟩
  ·have:=gI.Ur q;unfold fG;omega
  ·have:=gI.call (.inl q);have:=hc.1 (.inr q);exact⟨by omega,by omega,hlen⟩
  have:=gI.call (.inr q);exact⟨by omega,hc.1 (.inl q),hc.2.1 q⟩
 ·by_cases h4:b.term.kind=4
  ·have:=hE.Q7 h4;omega
  have:=hE.n h4;omega
 have vM:=hE.eZ e he;have hm:=eW (f:=f) (k:=e.block) (by omega) (by omega);have:=(hF.blk _ hm).few;exact⟨by omega,by omega,vM.2,by omega⟩
def runM(u:cf)(fuel:Int):Lp :=
 if dV u≠0 then⟨[],0,0,0,dV u⟩
 else if within fuel 1 1000000=false then⟨[],0,0,0,4⟩
 else df u fuel
theorem qO(u:cf)(bt:u.fit)(fuel:Int):bh Tryz.prog 26 [u.enc,aI fuel] (runM u fuel).enc:=by
 have sL:=tR u bt;have hw:=dy fuel 1 1000000;obtain⟨R,hR⟩:∃R,R=runM u fuel:=⟨_,rfl⟩
 rw[<-hR];unfold runM at hR;by_cases hc:dV u=0
 ·rw[if_neg (by simp[hc])]at hR;have hu:=yW bt hc;rw[hc]at sL;cases HU:within fuel 1 1000000 with
  | false =>
   rw[if_pos HU]at hR;rw[HU]at hw;refine zf true 0 Tryz.func26 Tryz.ntmps26 ?_;dsimp only[Tmp,TypeId,slotsOf];refine ay (ah ?_);refine aA 2 0 (.ip none [a7 u.fns,aI u.main]) rfl (by simp[al.aC]) trivial rfl ?_ ?_;rotate_left;simp -dsimp only[simprocAttr,↓aa,zp]
   ·refine cb ?_;refine zi sL ?_;refine ah ?_;refine ay (ah ?_);refine cd rfl ?_;refine cm ?_;refine cb ?_;refine zi hw ?_;refine ah ?_;refine cN rfl ?_;refine ay (ah ?_);refine aq ?_;simp -dsimp only[simprocAttr,↓aa,zp,zr,Tryz.results26];rw[hR];exact⟨by simp[au,ae.upto],rfl⟩
   exact bT.mp rfl rfl
  | true =>
   rw[if_neg (by simp[HU])]at hR;have Z3:=within_iff.1 HU;have Qd:=yy hu (fuel:=fuel) (by omega) Z3.2;rw[<-hR]at Qd;unfold Lp.enc at Qd;rw[HU]at hw;refine zf true 0 Tryz.func26 Tryz.ntmps26 ?_;dsimp only[Tmp,TypeId,slotsOf];refine ay (ah ?_);refine aA 2 0 (.ip none [a7 u.fns,aI u.main]) rfl (by simp[al.aC]) trivial rfl ?_ ?_;rotate_left;simp -dsimp only[simprocAttr,↓aa,zp]
   ·refine cb ?_;refine zi sL ?_;refine ah ?_;refine ay (ah ?_);refine cd rfl ?_;refine cm ?_;refine cb ?_;refine zi hw ?_;refine ah ?_;refine cd rfl ?_;refine cm ?_;refine ay ?_;refine zi Qd ?_;refine ah ?_;refine aq ?_;simp -dsimp only[simprocAttr,↓aa,zp,zr,Tryz.results26];exact⟨by simp[au,ae.upto,av],rfl⟩
   exact bT.mp rfl rfl
 rw[if_pos hc]at hR;obtain⟨e,he⟩:∃e,e=dV u:=⟨_,rfl⟩
 rw[<-he]at hc sL hR;have m5:decide (e=0)=false:=decide_eq_false hc;refine zf true 0 Tryz.func26 Tryz.ntmps26 ?_;dsimp only[Tmp,TypeId,slotsOf];refine ay (ah ?_);refine aA 2 0 (.ip none [a7 u.fns,aI u.main]) rfl (by simp[al.aC]) trivial rfl ?_ ?_;rotate_left;simp -dsimp only[simprocAttr,↓aa,zp]
 ·refine cb ?_;refine zi sL ?_;refine ah ?_;refine aS ?_;simp -dsimp only[simprocAttr,↓aa,zp,m5];refine ah ?_;refine cN rfl ?_;refine ay (ah ?_);refine aq ?_;simp -dsimp only[simprocAttr,↓aa,zp,zr,Tryz.results26];rw[hR];exact⟨by simp[au,ae.upto],rfl⟩
 exact bT.mp rfl rfl
theorem oQ(l m:List Int):bh Tryz.prog 42 [aT l,aT m] (.v (.bool (decide (l=m)))):=by
 by_cases hlen:l.length=m.length
 ·have lZ:decide ((l.length:Int)=m.length)=true:=decide_eq_true (by omega);obtain⟨R,hR⟩:∃R,R=decide (l=m):=⟨_,rfl⟩
  rw[<-hR];refine zf true 0 Tryz.func42 Tryz.ntmps42 ?_;dsimp only[Tmp,TypeId,slotsOf];refine ay (ah ?_);refine fp 0 rfl (fun yh=>?_);simp only[List.length_map]at yh;refine cJ ?_;simp -dsimp only[simprocAttr,↓aa,zp,lZ];refine ah ?_;apply aM rfl<;>intro h
  ·cases h
  refine cm ?_;refine cb (ah ?_);refine ai (aO (ι:={k:Nat // k<=l.length∧R=decide (l.drop k=m.drop k)}) (fun k=>⟨26,[(0,aT l),(1,aT m),(4,.v (.bool false)),(12,aT l),(13,aI l.length),(14,aI k.1)],[]⟩) (fun k=>l.length-k.1) ⟨0,by omega,hR⟩ ?_ ?_)
  ·refine zq rfl ?_ ?_;simp -dsimp only[simprocAttr,↓aa,zp,zc];rfl
  rintro⟨k,hk,dW⟩;refine ay (ah ?_);apply ib rfl<;>intro h
  ·refine cm ?_;have aZ:k<l.length:=by simpa using h
   obtain⟨a,ha⟩:∃a,l[k]?=some a:=⟨l[k],by simp[aZ]⟩
   obtain⟨b,hb⟩:∃b,m[k]?=some b:=⟨m[k]'(by omega),List.getElem?_eq_getElem _⟩
   rw[bQ ha,bQ hb]at dW;simp only[List.cons.injEq,Bool.decide_and]at dW;refine aH (ai ?_);refine aS ?_;simp -dsimp only[simprocAttr,↓aa,zp,ha];refine ah ?_;by_cases yd:b=a
   ·have PI:decide (b=a)=true:=decide_eq_true yd;rw[decide_eq_true yd.symm,Bool.true_and]at dW;refine aS ?_;simp -dsimp only[simprocAttr,↓aa,zp,hb,PI]
    repeat(refine⟨by omega,?_⟩)
    refine ah ?_;refine cd rfl ?_;refine kA ?_;refine cF ?_
    repeat(refine⟨by omega,?_⟩)
    refine fw ?_;refine⟨⟨k+1,aZ,dW⟩,by simp;omega,?_⟩;refine zq rfl ?_ ?_;simp -dsimp only[simprocAttr,↓aa,zp,zc]
    ·exact Sub.int (by simp)
    rfl
   have PI:decide (b=a)=false:=decide_eq_false yd;rw[decide_eq_false (fun e=>yd e.symm),Bool.false_and]at dW;refine aS ?_;simp -dsimp only[simprocAttr,↓aa,zp,hb,PI]
   repeat(refine⟨by omega,?_⟩)
   refine ah ?_;refine cN rfl ?_;refine ay (ah ?_);refine aq ?_;simp -dsimp only[simprocAttr,↓aa,zp,zr,Tryz.results42];rw[dW]
  refine aG ?_;simp -dsimp only[bD,ne_eq,Nat.reduceEqDiff,reduceCtorEq];have gU:k=l.length:=by simp at h;omega
  subst gU;rw[List.drop_length,hlen,List.drop_length]at dW;refine ay (ah ?_);refine aq ?_;simp -dsimp only[simprocAttr,↓aa,zp,zr,Tryz.results42];rw[dW];rfl
 have lZ:decide ((l.length:Int)=m.length)=false:=decide_eq_false (by omega);rw[decide_eq_false (fun e=>hlen (by rw[e]))];refine zf true 0 Tryz.func42 Tryz.ntmps42 ?_;dsimp only[Tmp,TypeId,slotsOf];refine ay (ah ?_);refine cJ ?_;simp -dsimp only[simprocAttr,↓aa,zp,lZ];refine ah ?_;refine cN rfl ?_;refine ay (ah ?_);refine aq ?_;simp -dsimp only[simprocAttr,↓aa,zp,zr,Tryz.results42]
abbrev Gb(out:List Int)(fin val:Int):ae:=.agg [.aB 1 (out.map aI) .sh,aI fin,aI val]
theorem mC(l m:List Int)(e f v w:Int):bh Tryz.prog 27 [Gb l e v,Gb m f w] (.v (.bool ((decide (e=f)&&decide (v=w))&&decide (l=m)))):=by
 have hs:=oQ l m;cases h1:decide (e=f)
 ·refine zf true 0 Tryz.func27 Tryz.ntmps27 ?_;dsimp only[Tmp,TypeId,slotsOf];refine ay (ah ?_);refine aS ?_;simp -dsimp only[simprocAttr,↓aa,zp,h1];refine ah ?_;refine aq ?_;simp -dsimp only[simprocAttr,↓aa,zp,zr,Tryz.results27]
 cases h2:decide (v=w)
 ·refine zf true 0 Tryz.func27 Tryz.ntmps27 ?_;dsimp only[Tmp,TypeId,slotsOf];refine ay (ah ?_);refine aS ?_;simp -dsimp only[simprocAttr,↓aa,zp,h1,h2];refine ah ?_;refine aq ?_;simp -dsimp only[simprocAttr,↓aa,zp,zr,Tryz.results27]
 refine zf true 0 Tryz.func27 Tryz.ntmps27 ?_;dsimp only[Tmp,TypeId,slotsOf];refine ay (ah ?_);refine aS ?_;simp -dsimp only[simprocAttr,↓aa,zp,h1,h2];refine .inl ⟨_,hs,by simp only[au,ae.upto,zt,zu,av],an ?_⟩;simp -dsimp only[simprocAttr,↓aa,zp,h1,h2];refine ah ?_;refine aq ?_;simp -dsimp only[simprocAttr,↓aa,zp,zr,Tryz.results27]
end Go.Proofs.YtjdnhamngpafmaaGreat
namespace Go.Av
theorem Ck{P:Program}{kb:Nat}{c:Code}{Q:dP->St->Prop}{n:Nat}{bf:List (Nat×ae)}{O:List al}(k m:Nat)(hk:k<O.length)
  (h:cu P kb c Q ⟨n,bf,(O++List.replicate m (al.spare 0)).set k (.cells ((List.range m).map fun j=>.aB 1 [] (.tok (O.length+j))))⟩):cu P kb c Q ⟨n,bf,O.set k (.cells (List.replicate m (.aB 1 [] .ex)))⟩:=by
 obtain⟨conv,wT⟩:∃conv:Nat->List ae,conv=fun q=>((List.range q).map fun j=>ae.aB 1 [] (.tok (O.length+j)))++List.replicate (m-q) (.aB 1 [] .ex):=⟨_,rfl⟩
 have key:∀q,q<=m->cu P kb c Q ⟨n,bf,(O++List.replicate q (al.spare 0)).set k (.cells (conv q))⟩->cu P kb c Q ⟨n,bf,O.set k (.cells (List.replicate m (.aB 1 [] .ex)))⟩:=fun q=>by
  induction q with
  | zero =>
   intro _ h;simpa[wT]using h
  | succ q ih =>
   intro hq h;refine ih (by omega) (gS k q (sz:=1) (cs:=conv q) (xs:=[]) ?_ ?_ ?_)
   ·rw[List.getElem?_set_self (by simp;omega)]
   ·rw[wT];simp only;rw[List.getElem?_append_right (by simp)];simp only[List.length_map,List.length_range,Nat.sub_self];rw[show m-q=(m-(q+1))+1 by omega,List.replicate_succ];rfl
   have e1:(O++List.replicate q (al.spare 0)).set k (.cells (conv q))++[al.spare ([]:List ae).length]=(O++List.replicate (q+1) (al.spare 0)).set k (.cells (conv q)):=by
    rw[List.set_append_left _ _ hk,List.set_append_left _ _ hk,List.append_assoc];congr 1;rw[List.replicate_succ'];rfl
   have e2:(conv q).set q (.aB 1 [] (.tok ((O++List.replicate q (al.spare 0)).set k (.cells (conv q))).length))=conv (q+1):=by
    rw[wT];simp only[List.length_set,List.length_append,List.length_replicate];rw[List.set_append_right _ _ (by simp)];simp only[List.length_map,List.length_range,Nat.sub_self];rw[show m-q=(m-(q+1))+1 by omega,List.replicate_succ,List.set_cons_zero,List.range_succ,List.map_append,List.append_assoc];rfl
   rw[e1,e2,List.set_set];exact h
 refine key m (Nat.le_refl _) ?_;simpa[wT]using h
end Go.Av
namespace Go.Proofs.YtjdnhamngpafmaaGreat
open Go.Av
def lB(b:Nat)(ls:List (List Int)):List ae:=ls.mapIdx fun j l=>.aB 1 (l.map aI) (.tok (b+j))
theorem JN{b:Nat}{ls:List (List Int)}{j:Nat}{l:List Int}(h:ls[j]?=some l):(lB b ls)[j]?=some (.aB 1 (l.map aI) (.tok (b+j))):=by
 simp[lB,h]
theorem JO{b:Nat}{ls:List (List Int)}{j:Nat}(l:List Int):(lB b ls).set j (.aB 1 (l.map aI) (.tok (b+j)))=lB b (ls.set j l):=by
 apply List.ext_getElem?;intro i;simp only[lB,List.getElem?_set,List.getElem?_mapIdx,List.length_mapIdx];by_cases e:j=i
 ·subst e;by_cases hl:j<ls.length
  ·simp[hl]
  simp[hl]
 simp[e]
theorem uI(b:Nat)(ls:List (List Int)):(lB b ls).length=ls.length:=by simp[lB]
theorem A9(b n:Nat):lB b (List.replicate n [])=(List.range n).map fun j=>.aB 1 [] (.tok (b+j)):=by
 apply List.ext_getElem?;intro i;simp only[lB,List.getElem?_mapIdx,List.getElem?_map];by_cases h:i<n
 ·simp[h]
 simp[h]
theorem DG(b:Nat)(ls:List (List Int)):(lB b ls).map ae.bo=ao (ls.map aT):=by
 have h1:ao (ls.map aT)=ls.map aT:=by
  induction ls with
  | nil=>rfl
  | cons l r ih =>
   simp only[List.map_cons,ao,List.flatMap_cons]at ih ⊢;rw[ih];rfl
 rw[h1];apply List.ext_getElem?;intro i;simp only[lB,List.getElem?_map,List.getElem?_mapIdx];cases ls[i]? with
 | none=>rfl
 | some l =>
  simp only[Option.map_some,Option.some.injEq];rw[b8]
theorem G'{b n:Nat}{ls:List (List Int)}(h:b+ls.length<=n):au n (lB b ls):=by
 rw[bZ];intro x hx;obtain⟨j,hj⟩:=List.mem_iff_getElem?.1 hx;simp only[lB,List.getElem?_mapIdx]at hj;cases hl:ls[j]? with
 | none=>rw[hl]at hj;cases hj
 | some l =>
  rw[hl]at hj;simp only[Option.map_some,Option.some.injEq]at hj;subst hj;have:=I hl;exact⟨av _ _,show _<_ by omega⟩
theorem fX{cs:List ae}{j:Nat}(x:ae)(h:j<cs.length):bk cs j [x]=cs.set j x:=by
 apply List.ext_getElem?;intro i;rw[iV (by simp;omega),List.getElem?_set];simp only[List.length_cons,List.length_nil,Nat.zero_add];by_cases e:j=i
 ·subst e;simp[h]
 rw[if_neg (by omega),if_neg e]
structure PO(ls:List (List Int))(O:List al):Prop where
 len:O.length=ls.length+2
 arr:O[1]?=some (.cells (lB 2 ls))
 sp:∀j l,ls[j]?=some l->O[2+j]?=some (.spare l.length)
 up:∀o∈O,o.upto O.length
theorem PO.push{ls:List (List Int)}{O:List al}(h:PO ls O){j:Nat}{l:List Int}(hj:ls[j]?=some l)(k:Int):PO (ls.set j (l++[k])) ((O.set (2+j) (.spare (l.length+1))).set 1 (.cells (lB 2 (ls.set j (l++[k]))))):=by
 have aZ:=I hj;have hl:=h.len;refine⟨by simp[hl],?_,fun i m hi=>?_,?_⟩
 ·rw[List.getElem?_set_self (by simp;omega)]
 ·rw[List.getElem?_set_ne (by omega)];by_cases e:j=i
  ·subst e;rw[List.getElem?_set_self aZ]at hi;simp only[Option.some.injEq]at hi;subst hi;rw[List.getElem?_set_self (by omega)];simp
  rw[List.getElem?_set_ne e]at hi;rw[List.getElem?_set_ne (by omega)];exact h.sp i m hi
 have h1:∀o∈O.set (2+j) (.spare (l.length+1)),o.upto O.length:=bR h.up trivial;have h2:=bR (k:=1) (x:=.cells (lB 2 (ls.set j (l++[k])))) h1 (by
  show au _ _;exact G' (by simp[hl];omega))
 simpa using h2
def gm(k:Nat)(ls:List (List Int))(e:Edge):List (List Int):=ls.set e.block.toNat ((ls[e.block.toNat]?.getD [])++[(k:Int)])
def gD(k:Nat)(ls:List (List Int))(es:List Edge):List (List Int):=es.foldl (gm k) ls
def ju:Nat->List (List Int)->List Block->List (List Int)
 | _,ls,[]=>ls
 | k,ls,b::r=>ju (k+1) (gD k ls b.term.to) r
def dj(f:Func):List (List Int):=ju 0 (List.replicate f.blocks.length []) f.blocks
theorem xn(k:Nat)(ls:List (List Int))(e:Edge):(gm k ls e).length=ls.length:=by simp[gm]
theorem rI(k:Nat):∀(es:List Edge) (ls:List (List Int)),(gD k ls es).length=ls.length
 | [],_=>rfl
 | e::r,ls=>by
  show(gD k (gm k ls e) r).length=_;rw[rI k r,xn]
theorem rJ:∀(l:List Block) (k:Nat) (ls:List (List Int)),(ju k ls l).length=ls.length
 | [],_,_=>rfl
 | b::r,k,ls=>by
  simp only[ju];rw[rJ r,rI]
theorem to_few{f:Func}{t:Term}(qu:U1 f t):t.to.length<=257:=by
 rcases(show(t.kind=0∨t.kind=4)∨t.kind=1∨t.kind=2∨t.kind=3 by have:=qu.kind;omega)with q|q|q|q
 ·rw[qu.to q];simp
 ·rw[qu.jump q];omega
 ·rw[qu.cond q];omega
 rw[qu.switch q];have:=qu.cases;omega
theorem rK(f:Func):(dj f).length=f.blocks.length:=by simp[dj,rJ]
theorem G7(n:Nat):(List.replicate n [ae.aB 1 [] .ex]).flatten=List.replicate n (.aB 1 [] .ex):=by
 induction n with
 | zero=>rfl
 | succ n ih=>rw[List.replicate_succ,List.flatten_cons,ih,List.replicate_succ];rfl
def uR(f:Func):ae:=if aN f=0 then .cK [.aB 1 ((dj f).map aT) .sh,aI 0]else .cK [.aB 1 [] .sh,aI (aN f)]
def WY(c:Nat)(ls:List (List Int)):Prop:=∀l∈ls,l.length<=c
theorem WY.push{c:Nat}{ls:List (List Int)}(h:WY c ls){j:Nat}{l:List Int}(hj:ls[j]?=some l)(k:Int):WY (c+1) (ls.set j (l++[k])):=fun m hm=>by
 rcases List.mem_or_eq_of_mem_set hm with q|q
 ·have:=h m q;omega
 subst q;have:=h l (List.mem_of_getElem? hj);simp;omega
theorem WY.mono{c d:Nat}{ls:List (List Int)}(h:WY c ls)(hd:c<=d):WY d ls:=fun l hl=>Nat.le_trans (h l hl) hd
theorem pA(f:Func)(bt:f.fit):bh Tryz.prog 14 [f.enc] (uR f):=by
 have sL:=il f bt;unfold uR;by_cases hc:aN f=0
 ·rw[if_pos hc];rw[hc]at sL;have hw:=cq bt hc;have hn:f.blocks.length<=128:=hw.few;obtain⟨N,hN⟩:∃N,N=f.blocks.length:=⟨_,rfl⟩
  obtain⟨R,hR⟩:∃R,R=dj f:=⟨_,rfl⟩
  have YW:R.length=N:=by rw[hR,hN,dj,rJ];simp
  rw[<-hR];unfold dj at hR;refine zf true 0 Tryz.func14 Tryz.ntmps14 ?_;dsimp only[Tmp,TypeId,slotsOf];refine ay (ah ?_);refine aA 1 0 (.ip none [aI f.name,aw f.blocks]) rfl (by simp[al.aC]) trivial rfl ?_ ?_;rotate_left;simp -dsimp only[simprocAttr,↓aa,zp]
  ·refine cb ?_;refine zi sL ?_;refine ah ?_;refine ay (ah ?_);apply aM rfl<;>intro h
   ·cases h
   refine cm ?_;refine aS ?_;simp -dsimp only[simprocAttr,↓aa,zp,G7,<-hN];refine⟨by omega,by omega,?_⟩;refine ah ?_;have ZL:PO (List.replicate N []) (([al.gone,al.cells []]++List.replicate N (al.spare 0)).set 1 (.cells ((List.range N).map fun j=>.aB 1 [] (.tok ([al.gone,al.cells []].length+j))))):=by
    refine⟨by simp,?_,fun j l hj=>?_,?_⟩
    ·rw[List.getElem?_set_self (by simp),A9];rfl
    ·have gZ:=I hj;rw[List.length_replicate]at gZ;rw[List.getElem?_set_ne (by omega),List.getElem?_append_right (by simp)];simp only[List.length_cons,List.length_nil,Nat.zero_add,Nat.add_sub_cancel_left];simp[gZ]at hj ⊢;rw[hj];rfl
    rw[<-A9];have:=bR (k:=1) (n:=N+2) (x:=.cells (lB 2 (List.replicate N []))) (O:=[al.gone,al.cells []]++List.replicate N (al.spare 0)) (fun o ho=>by
     rcases List.mem_append.1 ho with q|q
     ·simp at q;rcases q with rfl|rfl<;>trivial
     rw[(List.mem_replicate.1 q).2];trivial) (G' (by simp;omega))
    simpa using this
   show cu Tryz.prog _ _ _ ⟨_,_,List.set [al.gone,al.cells []] 1 (.cells (List.replicate N (ae.aB 1 [] .ex)))⟩;refine Ck 1 N (by simp) ?_;generalize ([al.gone,al.cells []]++List.replicate N (al.spare 0)).set 1 (.cells ((List.range N).map fun j=>.aB 1 [] (.tok ([al.gone,al.cells []].length+j))))=O0 at *;rw[<-hN]at hR;refine cJ ?_;simp -dsimp only[simprocAttr,↓aa,zp,<-hN];refine ah ?_;refine ai (aO (ι:={p:Nat×List (List Int)×List al // p.1<=N∧PO p.2.1 p.2.2∧p.2.1.length=N∧WY (p.1*257) p.2.1∧R=ju p.1 p.2.1 (f.blocks.drop p.1)}) (fun p=>⟨50,[(1,.ip none [aI f.name,aw f.blocks]),(5,.ms 1 0 N N),(20,aw f.blocks),(21,aI N),(22,aI p.1.1)],p.1.2.2⟩) (fun p=>N-p.1.1) ⟨(0,_,O0),by simp,ZL,by simp,by intro l hl;simp[(List.mem_replicate.1 hl).2],hR⟩ ?_ ?_)
   ·refine zq rfl ?_ ?_;simp -dsimp only[simprocAttr,↓aa,zp,zc]
    all_goals rfl
   rintro⟨⟨k,ls,O⟩,hk,hp,OG,vo,dW⟩;simp only at hk hp OG vo dW;have Vo:=hp.len;have br:=hp.up;refine ay (ah ?_);apply ib rfl<;>intro h
   ·refine cm ?_;have aZ:k<N:=by simpa using h
    obtain⟨b,hb⟩:∃b,f.blocks[k]?=some b:=⟨f.blocks[k]'(by omega),List.getElem?_eq_getElem _⟩
    have sJ:=List.mem_of_getElem? hb;have qu:=ud (hw.blk b sJ).fin;have BV:b.term.to.length<=257:=by
     rcases(show(b.term.kind=0∨b.term.kind=4)∨b.term.kind=1∨b.term.kind=2∨b.term.kind=3 by have:=qu.kind;omega)with q|q|q|q
     ·rw[qu.to q];simp
     ·rw[qu.jump q];omega
     ·rw[qu.cond q];omega
     rw[qu.switch q];have:=qu.cases;omega
    rw[bQ hb]at dW;simp only[ju]at dW;obtain⟨L1,Sm⟩:∃L1,L1=gD k ls b.term.to:=⟨_,rfl⟩
    rw[<-Sm]at dW;refine aH (ai ?_);refine aS ?_;simp -dsimp only[simprocAttr,↓aa,zp,hb];refine ah ?_;refine aJ 7 ([aT b.params,bP b.ins,aI b.term.kind,aI b.term.arg,aI b.term.n,aT b.term.cases,aE b.term.to]) [(1,.ip none [aI f.name,aw f.blocks]),(5,.ms 1 0 N N),(20,aw f.blocks),(21,aI N),(22,aI k),(6,aI k),(7,.ip none [aT b.params,bP b.ins,aI b.term.kind,aI b.term.arg,aI b.term.n,aT b.term.cases,aE b.term.to])] (by simp[bq,aY,Go.Av.look]) (by rfl) (by omega) (by simp[bq,aY,Go.Av.look]) ?_ ?_ ?_
    ·exact br
    ·simp[ae.upto,au,av,Edge.ag,Ins.ag,Block.ag,Vo]
    refine ay (ah ?_);refine ai (aO (ι:={p:Nat×List (List Int)×List al // p.1<=b.term.to.length∧PO p.2.1 p.2.2∧p.2.1.length=N∧WY (k*257+p.1) p.2.1∧L1=gD k p.2.1 (b.term.to.drop p.1)}) (fun p=>⟨50,[(1,.ip none [aI f.name,aw f.blocks]),(5,.ms 1 0 N N),(20,aw f.blocks),(21,aI N),(22,aI k),(6,aI k),(29,aE b.term.to),(30,aI b.term.to.length),(31,aI p.1.1)],p.1.2.2⟩) (fun p=>b.term.to.length-p.1.1) ⟨(0,ls,O),by simp,hp,OG,vo,Sm⟩ ?_ ?_)
    ·refine zq rfl ?_ ?_;simp -dsimp only[simprocAttr,↓aa,zp,zc]
     all_goals rfl
    rintro⟨⟨z,ls,O⟩,hz,hp,OG,vo,pO⟩;simp only at hz hp OG vo pO;have Vo:=hp.len;have br:=hp.up;refine ay (ah ?_);apply ib rfl<;>intro h
    ·refine cm ?_;have ur:z<b.term.to.length:=by simpa using h
     obtain⟨e,he⟩:∃e,b.term.to[z]?=some e:=⟨b.term.to[z],by simp[ur]⟩
     have BR:=(qu.eZ e (List.mem_of_getElem? he)).1;rw[bQ he]at pO;simp only[gD,List.foldl_cons]at pO;obtain⟨j,hj⟩:∃j:Nat,e.block=(j:Int):=⟨e.block.toNat,by omega⟩
     have VW:j<N:=by omega
     obtain⟨l,hl⟩:∃l,ls[j]?=some l:=⟨ls[j]'(by omega),List.getElem?_eq_getElem _⟩
     have Lg:gm k ls e=ls.set j (l++[(k:Int)]):=by simp[gm,hj,hl]
     rw[Lg]at pO;have fQ:=JN (b:=2) hl;have qY:=hp.sp j l hl;have GJ:=hp.push hl k;have l6:=JO (b:=2) (ls:=ls) (j:=j) (l++[(k:Int)]);rw[List.map_append]at l6;have hlb:=vo l (List.mem_of_getElem? hl);have fP:=hp.arr;have Sy:=bm (k:=1) (j:=2+j) (y:=.spare (l.length+1)) fP (by omega);refine aH (ai ?_);refine aS ?_;simp -dsimp only[simprocAttr,↓aa,zp,he];refine ah ?_;refine aJ 9 ([aI e.block,aT e.args]) [(1,.ip none [aI f.name,aw f.blocks]),(5,.ms 1 0 N N),(20,aw f.blocks),(21,aI N),(22,aI k),(6,aI k),(29,aE b.term.to),(30,aI b.term.to.length),(31,aI z),(9,.ip none [aI e.block,aT e.args])] (by simp[bq,aY,Go.Av.look]) (by rfl) (by omega) (by simp[bq,aY,Go.Av.look]) ?_ ?_ ?_
     ·exact br
     ·simp[ae.upto,au,av,Edge.ag,Ins.ag,Block.ag,Vo]
     refine j4 ?_;simp -dsimp only[simprocAttr,↓aa,zp,hj,fP,fQ,qY,Sy,l6,Int.toNat_natCast,Nat.mul_one,List.length_map,List.length_set];refine⟨by omega,by omega,by omega,by omega,by rw[uI];omega,?_⟩;refine⟨bN [1,2+j] O.length [.pure,.pure,.pure,.pure,.pure,.pure,.pure,.rd 0,.pure,.pure,.wr 2 [1],.pure,.wr 2 [0]] (by simp;omega) (by simp;omega) rfl rfl (by kernel_rfl),aV ?_⟩;simp -dsimp only[bD,ne_eq,Nat.reduceEqDiff,reduceCtorEq];have TF:(lB 2 ls).set j (.aB 1 (l.map aI++[.v (.int .i64 k)]) (.tok (2+j)))=lB 2 (ls.set j (l++[(k:Int)])):=l6;rw[fX _ (by rw[uI];omega),TF];refine cF ?_
     repeat(refine⟨by omega,?_⟩)
     refine fw ?_;refine⟨⟨(z+1,_,_),by simp only;omega,GJ,by simp[OG],vo.push hl k,pO⟩,by simp;omega,?_⟩;refine zq rfl ?_ ?_;simp -dsimp only[simprocAttr,↓aa,zp,zc]
     ·exact Sub.int (by simp)
     rfl
    refine aG ?_;simp -dsimp only[bD,ne_eq,Nat.reduceEqDiff,reduceCtorEq];have Qr:z=b.term.to.length:=by simp at h;omega
    subst Qr;rw[List.drop_length]at pO;simp only[gD,List.foldl_nil]at pO;subst pO;refine cF ?_
    repeat(refine⟨by omega,?_⟩)
    refine fw ?_;refine⟨⟨(k+1,_,O),by simp only;omega,hp,OG,vo.mono (by omega),dW⟩,by simp;omega,?_⟩;refine zq rfl ?_ ?_;simp -dsimp only[simprocAttr,↓aa,zp,zc]
    ·exact Sub.int (by simp)
    rfl
   refine aG ?_;simp -dsimp only[bD,ne_eq,Nat.reduceEqDiff,reduceCtorEq];have gU:k=N:=by simp at h;omega
   subst gU;rw[hN,List.drop_length]at dW;simp only[ju]at dW;subst dW;have Qg:=DG 2 R;have gA:(lB 2 R).length=k:=by rw[uI,OG]
   refine aA 5 1 (o:=.cells (lB 2 R)) (.aB 1 (R.map aT) .sh) hp.arr (by simp[al.aC]) trivial rfl (bT.ms (cs:=lB 2 R) hp.arr (by intro x hx;obtain⟨l,_,rfl⟩:=List.mem_map.1 hx;rfl) (by rw[List.length_map,OG]) (by rw[List.drop_zero,Nat.mul_one,<-gA,List.take_length,Qg])) ?_;simp -dsimp only[simprocAttr,↓aa,zp];refine ay (ah ?_);refine aq ?_;simp -dsimp only[simprocAttr,↓aa,zp,zr,Tryz.results14];simp only[au,ae.upto,and_true];rw[bZ];intro x hx;obtain⟨l,_,rfl⟩:=List.mem_map.1 hx;exact⟨av _ _,trivial⟩
  exact bT.mp rfl rfl
 rw[if_neg hc];obtain⟨e,he⟩:∃e,e=aN f:=⟨_,rfl⟩
 rw[<-he]at hc sL ⊢;have m5:decide (e=0)=false:=decide_eq_false hc;refine zf true 0 Tryz.func14 Tryz.ntmps14 ?_;dsimp only[Tmp,TypeId,slotsOf];refine ay (ah ?_);refine aA 1 0 (.ip none [aI f.name,aw f.blocks]) rfl (by simp[al.aC]) trivial rfl ?_ ?_;rotate_left;simp -dsimp only[simprocAttr,↓aa,zp]
 ·refine cb ?_;refine zi sL ?_;refine ah ?_;refine aS ?_;simp -dsimp only[simprocAttr,↓aa,zp,m5];refine ah ?_;refine cN rfl ?_;refine ay (ah ?_);refine aq ?_;simp -dsimp only[simprocAttr,↓aa,zp,zr,Tryz.results14];simp[au,ae.upto]
 exact bT.mp rfl rfl
end Go.Proofs.YtjdnhamngpafmaaGreat
namespace Go.Av
theorem o8{P:Program}{aR:ed}(hT:bY P aR){o:Oper}{σ:St}{t e:TypeId}{len:Nat}{parts:Array (Nat×Operand)}{ti te:cc}{ps:List (Nat×ae)}{xs:List ae}
  (ho:o.op=.buildSlice t len parts) (hd:∀d,o.dst=some d->d<σ.n) (ht:aR t=some ti) (aP:ti.desc=.slice e) (he:aR e=some te) (pj:0<te.size) (y8:σ.eA parts.toList=some ps) (gp:∀p∈ps,p.2.flat)
  (Jm:fW 0 ps=some xs) (hlen:xs.length=len) (di:∀x∈xs,x.cells.length=te.size) (TN:len*te.size<=2 ^ 24) (hz:len≠0):Cert P o σ (.os σ.objs.length len te.size) (.write (σ.objs++[.cells (ao xs)])) :=
 Cert.ix hd fun base fF a g bE h iC=>by
  have hO:g.objs=σ.objs:=iC.resolve_left (by simp);have hg:=bE.good;have lr:=jl (a:=a) (g:=g) (fun x hx y hy=>h x (by simpa[ho,Op.operands]using hx) y hy) y8 gp;have hu:=bO hT ht aP;obtain⟨⟨i,z,h1,h2,h3,h4,h5,h6,h7,h8,h9⟩,_⟩:=hT e te he;have mI:=nu Jm;have ia:∀x∈xs,∀c∈x.cells,c.scalar:=by
   have aux:∀{ps:List (Nat×ae)} {vs:List (Nat×Value)},B2 g ps vs->∀p∈ps,∀c∈p.2.cells,c.scalar:=by
    intro ps vs hr;induction hr with
    | nil=>intro p hp;cases hp
    | cons hx hf r ih =>
     intro p hp;rcases List.mem_cons.1 hp with hp|hp
     ·subst hp;exact hx.jR hf
     exact ih p hp
   intro x hx c hc;have iO:∃k,(k,x)∈ps:=by
    obtain⟨k,hk⟩:=List.getElem?_of_mem hx;refine⟨0+k,?_⟩;rw[mI,List.mem_map];refine⟨(x,0+k),?_,rfl⟩;rw[List.mem_iff_getElem?];exact⟨k,by simp[hk]⟩
   obtain⟨k,hk⟩:=iO;exact aux lr _ hk c hc
  have bI:¬len*i.size=0:=by
   rw[h2];intro e0;rcases Nat.mul_eq_zero.1 e0 with q|q<;>omega
  obtain⟨zs,yn⟩:∃zs:Array Value,zs=(Array.range (len*i.size)).map (z.cells[· % z.cells.size]!):=⟨_,rfl⟩
  have Dg:zs.size=len*te.size:=by rw[yn];simp[h2]
  obtain⟨zc,WH,wX,ta⟩:∃zc:List ae,(∀c∈zc,c.scalar)∧lM g zc zs∧zc.length=len*te.size:=by
   refine⟨(List.range (len*te.size)).map fun j=>te.zero.getD (j % te.size) (.v (.bool false)),fun c hc=>?_,⟨by simp[Dg],fun j c u hj PU=>?_⟩,by simp⟩
   ·rw[List.mem_map]at hc;obtain⟨j,_,e⟩:=hc;subst e;have aZ:j % te.size<te.zero.length:=by rw[h6];exact Nat.mod_lt _ pj
    rw[List.getD_eq_getElem?_getD,List.getElem?_eq_getElem aZ];exact h9 _ (List.getElem_mem aZ)
   have gZ:=I hj;simp only[List.length_map,List.length_range]at gZ;rw[List.getElem?_map,List.getElem?_range gZ]at hj;simp only[Option.map_some,Option.some.injEq]at hj;subst hj;have aZ:j % te.size<te.zero.length:=by rw[h6];exact Nat.mod_lt _ pj
   have jF:j % te.size<z.cells.size:=by rw[h5];exact aZ
   rw[yn]at PU;simp only[Array.getElem?_map,h2,Array.getElem?_range,if_pos gZ,Option.map_some,Option.some.injEq]at PU;subst PU;rw[List.getD_eq_getElem?_getD,List.getElem?_eq_getElem aZ];refine h8 g (j % te.size) _ _ (List.getElem?_eq_getElem aZ) ?_;rw[h5,h6];simp[jF]
  have I':∃cs',iu (fun i=>some (i*te.size,te.size)) zc ps=some cs':=by
   have aux:∀(ys:List ae) (k:Nat) (cs:List ae),(∀y∈ys,y.cells.length=te.size)->(k+ys.length)*te.size<=cs.length->∃cs',iu (fun i=>some (i*te.size,te.size)) cs ((ys.zipIdx k).map fun p=>(p.2,p.1))=some cs':=by
    intro ys;induction ys with
    | nil=>intro k cs _ _;exact⟨cs,rfl⟩
    | cons y ys ih =>
     intro k cs hy hl;simp only[List.zipIdx_cons,List.map_cons,iu];simp only[List.length_cons]at hl;have Lb:(k+1)*te.size=k*te.size+te.size:=Nat.succ_mul k te.size;have EP:(k+1)*te.size<=(k+(ys.length+1))*te.size:=Nat.mul_le_mul_right _ (by omega);have hc:y.cells.length=te.size∧k*te.size+te.size<=cs.length:=⟨hy y (by simp),by omega⟩
     rw[if_pos hc];refine ih (k+1) _ (fun z hz=>hy z (List.mem_cons_of_mem _ hz)) ?_;rw[gF (by omega),show k+1+ys.length=k+(ys.length+1) by omega];exact hl
   rw[mI];exact aux xs 0 zc di (by rw[ta,hlen,Nat.zero_add];exact Nat.le_refl _)
  obtain⟨cs',C5⟩:=I';obtain⟨cg,q1,q2,_⟩:=nR (fun i=>some (i*te.size,te.size)) lr wX C5;obtain⟨e1,_⟩:=rp xs 0 zc cs' (by rw[<-mI];exact C5) (by rw[ta,hlen,Nat.zero_add];exact Nat.le_refl _);have e2:cs'=ao xs:=by
   rw[e1];simp only[Nat.zero_mul,List.take_zero,List.nil_append,Nat.zero_add];rw[List.drop_of_length_le (by rw[ta,hlen];omega),List.append_nil]
  subst e2;have bw:(Instr.buildSlice t len (parts.map fun(i,x)=>(i,a.eval x))).run P g.w=.ok (.slice (some ⟨g.w.heap.size,0,none⟩) len len) (g.w.alloc (.cells cg e)):=by
   have Ar:¬len*i.size > 2 ^ 24:=by rw[h2];omega
   rw[yn,<-h2]at q1;have O8:Instr.fill (fun WI=>some (WI*i.size,i.size)) ((Array.range (len*i.size)).map (z.cells[· % z.cells.size]!)) (parts.map fun(i,x)=>(i,a.eval x)).toList=some cg:=by
    rw[Array.toList_map];exact q1
   simp only[Instr.buildSlice,run_underlying hu,Go.sizeOf,typeInfo,Go.zeroValue,Sem.run_bind,run_program,Result.andThen_ok,h1,Sem.run_pure,Go.newRow];rw[if_neg Ar,if_neg bI];simp only[Sem.run_bind,Sem.run_pure,Result.andThen_ok,run_program,h1,h4,O8,run_newObj];rfl
  have hle:=Le.alloc hg (.cells cg e) 0 (.cells (ao xs));have kc:cg.size=len*te.size:=by
   rw[q2.1,<-hlen];have:∀ys:List ae,(∀y∈ys,y.cells.length=te.size)->(ao ys).length=ys.length*te.size:=fun ys=>by
    induction ys with
    | nil=>intro _;simp[ao]
    | cons y ys ih =>
     intro hy;have h1:=ih fun z hz=>hy z (by simp[hz]);have h2:=hy y (by simp);simp only[ao,List.flatMap_cons,List.length_append,List.length_cons]at h1 ⊢;rw[h1,h2,Nat.succ_mul];omega
   exact this xs di
  have Wo:∀c∈ao xs,c.scalar:=fun c hc=>by
   simp only[ao,List.mem_flatMap]at hc;obtain⟨x,hx,hc⟩:=hc;exact ia x hx c hc
  refine⟨.slice (some ⟨g.w.heap.size,0,none⟩) len len,g.alloc (.cells cg e) 0 (.cells (ao xs)),.inl (by simp[execOp,ho,bw,G.alloc]),hle,Good.alloc hg _ 0 _ (.inr rfl) ⟨_,e,rfl,by rw[q2.1];exact Nat.le_refl _,(q2.mono hle).2,Wo⟩,by simp[G.alloc,hO,Mode.post],?_⟩;rw[<-hO];exact .os (l:=⟨g.w.heap.size,0,cg.size⟩) (ir hg) eG (by simp[al.aC]) (Nat.le_refl _) (by rw[kc];exact Nat.le_refl _) (by
   have:len<=len*te.size:=Nat.le_mul_of_pos_right _ pj;omega)
theorem bT.os{O:List al}{id len sz:Nat}{cs xs:List ae}(l5:O[id]?=some (.cells cs))(di:∀x∈xs,x.cells.length=sz)(hlen:xs.length=len)(hd:((cs.drop 0).take (len*sz)).map ae.bo=ao xs):bT O id (.os id len sz) (.aB sz xs .sh):=fun g u l' hg hO he hle h=>by
 obtain⟨l,o1,gY,h1,h2,_,Lc,_,gu,eu⟩:=h.rG;subst eu;rw[he]at h1;simp only[Option.some.injEq]at h1;subst h1;have gq:g.objs[id]?=some (.cells cs):=by rw[hO];exact l5
 obtain⟨arr,t',hZ,de,jK,gn,mG,_⟩:=hg.row gq he;subst hlen;have key:∀(j:Nat) (c:ae),(ao xs)[j]?=some c->∃c',cs[0+j]?=some c'∧c'.bo=c:=fun j c hj=>by
  rw[<-hd,List.getElem?_map,Option.map_eq_some_iff]at hj;obtain⟨c',hj,e⟩:=hj;have:=lI hj;rw[List.getElem?_drop]at this;exact⟨c',this,e⟩
 refine .aB di (fun x hx c hc=>?_) Lc gu (fun _=>rfl) (fun j=>arr.getD (0+j) undef) (fun j c hj=>?_) (fun j c hj=>?_) trivial
 ·have iO:c∈ao xs:=by
   simp only[ao,List.mem_flatMap];exact⟨x,hx,hc⟩
  obtain⟨j,hj⟩:=List.getElem?_of_mem iO;obtain⟨c',gZ,e⟩:=key j c hj;subst e;exact ae.fc (mG c' (List.mem_of_getElem? gZ))
 ·obtain⟨c',gZ,e⟩:=key j c hj;have aZ:=I gZ;refine⟨?_,pg hg he gq trivial _⟩;show g.w.cell? _=_;simp only;rw[cell_of_row de];simp[Array.getD_eq_getD_getElem?,show j<arr.size by omega]
 obtain⟨c',gZ,e⟩:=key j c hj;have aZ:=I gZ;subst e;exact((gn _ c' _ gZ (by simp[Array.getD_eq_getD_getElem?,show j<arr.size by omega])).mono hle).bo
theorem AX{P:Program}{aR:ed}{md:Md}(hT:bY P aR){o:Oper}{l2:List Oper}{Q:dP->St->Prop}{σ:St}{t e:TypeId}{len d:Nat}{parts:Array (Nat×Operand)}{ti te:cc}{ps:List (Nat×ae)}{xs:List ae}
  (ho:o.op=.buildSlice t len parts) (jm:o.dst=some d) (hd:d<σ.n) (ht:aR t=some ti) (aP:ti.desc=.slice e) (he:aR e=some te) (pj:0<te.size) (y8:σ.eA parts.toList=some ps) (gp:∀p∈ps,p.2.flat)
  (Jm:fW 0 ps=some xs) (hlen:xs.length=len) (di:∀x∈xs,x.cells.length=te.size) (TN:len*te.size<=2 ^ 24) (hz:len≠0)
  (h:ff P aR md l2 0 [] ⟨σ.n,oD o.dst (.os σ.objs.length len te.size) σ.bf,σ.objs++[.cells (ao xs)]⟩ [] fun ρ _=>At ρ (Q .norm)):H0 P aR md o l2 Q σ :=
 ⟨_,_,o8 hT ho (fun d' e=>by rw[jm]at e;cases e;exact hd) ht aP he pj y8 gp Jm hlen di TN hz,h⟩
end Go.Av
namespace Go.Proofs.YtjdnhamngpafmaaGreat
open Go.Av
def pv(oid:Nat)(l:List Int):ae:=if l=[]then .aB 1 [] .ex else .os oid l.length 1
theorem dG(x:Value):ao [ae.v x]=[ae.v x]:=rfl
theorem dC(id len sz:Nat):(ae.os id len sz).cells=[ae.os id len sz]:=rfl
theorem GS{O:List al}(br:∀o∈O,o.upto O.length)(h1:O[1]?=some (.cells [.aB 1 [] .ex]))(k:Int) :
  ba Tryz.prog 76 O [aI k,.mp 1 0] (fun r O'=>r=.cK []∧O'=(O++[al.cells [aI k]]).set 1 (.cells [.os O.length 1 1])):=by
 have hl:=I h1;have CY:∀X,(O++X)[1]?=some (.cells [.aB 1 [] .ex]):=fun X=>cj h1;have gU:O.length<=O.length+1:=by omega
 refine eY hT true (O.length+1) Tryz.func76 rfl (by kernel_rfl) (by simp[Tryz.ntmps76]) (by assumption) ?_;show cu Tryz.prog _ _ _ ⟨7,_,_⟩;dsimp only[Tmp,TypeId,slotsOf];have jH:((O++[al.cells [ae.v (.int .i64 k)]]).set 1 (.cells [.os O.length 1 1])).take (O.length+1)=(O++[al.cells [ae.v (.int .i64 k)]]).set 1 (.cells [.os O.length 1 1]):=List.take_of_length_le (by simp);refine Oa ?_;simp -dsimp only[simprocAttr,↓aa,zp,h1,CY,dG,dC];refine⟨trivial,?_⟩;refine aV ?_;simp -dsimp only[simprocAttr,↓aa,zp,zr,Tryz.results76,jH,List.length_set,List.length_append];exact⟨bR (pH (fun o ho=>al.cE (by omega) (br o ho)) ⟨trivial,trivial⟩) ⟨show _<_ by omega,trivial⟩,trivial⟩
theorem Jy{O:List al}(br:∀o∈O,o.upto O.length){oid:Nat}{l:List Int}(h1:O[1]?=some (.cells [.os oid l.length 1]))(h2:O[oid]?=some (.cells (l.map aI)))(ho:oid≠1)(yh:l.length<=1000)(k:Int) :
  ba Tryz.prog 76 O [aI k,.mp 1 0] (fun r O'=>r=.cK []∧O'=(O.set oid .gone++[al.cells ((l++[k]).map aI)]).set 1 (.cells [.os O.length (l.length+1) 1])):=by
 have hl:=I h1;have CY:∀X,(O.set oid .gone++X)[1]?=some (.cells [.os oid l.length 1]):=fun X=>cj (bm h1 ho);have gU:O.length<=O.length+1:=by omega
 refine eY hT true (O.length+1) Tryz.func76 rfl (by kernel_rfl) (by simp[Tryz.ntmps76]) (by assumption) ?_;show cu Tryz.prog _ _ _ ⟨7,_,_⟩;dsimp only[Tmp,TypeId,slotsOf];refine Oa ?_;simp -dsimp only[simprocAttr,↓aa,zp,h1,CY,h2,dG,dC];refine⟨by simp,by omega,by omega,?_⟩;have EG:(l.map aI).take (l.length*1)=l.map aI:=List.take_of_length_le (by simp);have jH:((O.set oid .gone++[al.cells (l.map aI++[ae.v (.int .i64 k)])]).set 1 (.cells [.os O.length (l.length+1) 1])).take (O.length+1)=(O.set oid .gone++[al.cells (l.map aI++[ae.v (.int .i64 k)])]).set 1 (.cells [.os O.length (l.length+1) 1]):=List.take_of_length_le (by simp);refine⟨trivial,?_⟩;refine aV ?_;simp -dsimp only[simprocAttr,↓aa,zp,zr,Tryz.results76,EG,jH,List.length_set,List.length_append];refine⟨bR (pH (bR (fun o ho=>al.cE (by omega) (br o ho)) trivial) ?_) ⟨show _<_ by omega,trivial⟩,trivial,by simp⟩;show au _ _;have:=av (O.length+1) (l++[k]);simpa using this
def eF(x v:Int):Int:=max x (v+1)
def dB(b:Block):List Int:=b.params++b.ins.map Ins.to
def ga(f:Func):List Int:=f.blocks.flatMap dB
def cv(f:Func):Int:=(ga f).foldl eF 0
theorem r5{O:List al}(br:∀o∈O,o.upto O.length){A:Nat}{x:Int}(hA:O[A]?=some (.cells [aI x]))(v:Int)(hv:0<=v∧v<=2 ^ 60) :
  ba Tryz.prog 61 O [aI v,.mp A 0] (fun r O'=>r=.cK []∧O'=O.set A (.cells [aI (eF x v)])):=by
 have C1:=I hA;have jH:(O.set A (.cells [aI (eF x v)])).take O.length=O.set A (.cells [aI (eF x v)]):=bX;have vT:∀o∈O.set A (.cells [aI (eF x v)]),o.upto O.length:=bR br ⟨trivial,trivial⟩;unfold eF at *;refine zf true O.length Tryz.func61 Tryz.ntmps61 ?_;dsimp only[Tmp,TypeId,slotsOf];refine j4 ?_;simp -dsimp only[simprocAttr,↓aa,zp,hA]
 repeat(refine⟨by omega,?_⟩)
 refine aV ?_;simp -dsimp only[simprocAttr,↓aa,zp,zr,Tryz.results61,jH,List.length_set];exact⟨vT,trivial⟩
def H4(f:Func):Prop:=∀v∈ga f,0<=v∧v<=4095
theorem uF{x v:Int}(hx:x<=4096)(hv:v<=4095):eF x v<=4096:=by
 unfold eF;omega
theorem mY:∀(l:List Int) (x:Int),x<=4096->(∀v∈l,v<=4095)->l.foldl eF x<=4096
 | [],_,hx,_=>hx
 | v::r,x,hx,h=>mY r _ (uF hx (h v (by simp))) (fun w hw=>h w (by simp[hw]))
theorem mX:∀(l:List Int) (x:Int),x<=l.foldl eF x∧∀v∈l,v<l.foldl eF x
 | [],_=>⟨Int.le_refl _,by simp⟩
 | v::r,x=>by
  have ih:=mX r (eF x v);have:x<=eF x v∧v<eF x v:=by unfold eF;omega
  simp only[List.foldl_cons];refine⟨by omega,fun w hw=>?_⟩;rcases List.mem_cons.1 hw with q|q
  ·subst q;omega
  exact ih.2 w q
theorem BG{O:List al}(br:∀o∈O,o.upto O.length){A:Nat}(f:Func)(hf:H4 f)(uk:f.blocks.length<=2 ^ 47)(SD:∀b∈f.blocks,b.params.length<=2 ^ 47∧b.ins.length<=2 ^ 47)(hA:O[A]?=some (.cells [aI 0])) :
  ba Tryz.prog 60 O [f.enc,.fn (.func 61) [] [.mp A 0]] (fun r O'=>r=.cK []∧O'=O.set A (.cells [aI (cv f)])):=by
 have C1:=I hA;obtain⟨R,hR⟩:∃R,R=cv f:=⟨_,rfl⟩
 rw[<-hR];unfold cv ga at hR;have EM:∀x,(O.set A x)[A]?=some x:=fun x=>List.getElem?_set_self C1;have eS:∀x:Int,∀o∈O.set A (.cells [aI x]),o.upto (O.set A (.cells [aI x])).length:=fun x=>by
  rw[List.length_set];exact bR br ⟨trivial,trivial⟩
 have hlen:∀x,(O.set A x).length=O.length:=fun x=>List.length_set;have fB:O.set A (.cells [aI 0])=O:=jw hA;have jH:∀x:Int,(O.set A (.cells [aI x])).take O.length=O.set A (.cells [aI x]):=fun x=>bX;have dz:∀x y,(O.set A x).set A y=O.set A y:=fun x y=>List.set_set ..;refine zf true O.length Tryz.func60 Tryz.ntmps60 ?_;dsimp only[Tmp,TypeId,slotsOf];refine ay (ah ?_);refine aJ 2 ([aI f.name,aw f.blocks]) [(1,.fn (.func 61) [] [.mp A 0]),(2,.ip none [aI f.name,aw f.blocks])] rfl (by rfl) (by omega) (by simp[bq,aY,Go.Av.look]) ?_ ?_ ?_
 ·exact br
 ·simp[ae.upto,au,av,Block.ag,C1]
 refine ay (ah ?_);refine ai (aO (ι:={x:Nat×Int // x.1<=f.blocks.length∧R=((f.blocks.drop x.1).flatMap dB).foldl eF x.2∧x.2<=4096}) (fun x=>⟨41,[(1,.fn (.func 61) [] [.mp A 0]),(11,aw f.blocks),(12,aI f.blocks.length),(13,aI x.1.1)],O.set A (.cells [aI x.1.2])⟩) (fun x=>f.blocks.length-x.1.1) ⟨(0,0),by simp,hR,by simp⟩ ?_ ?_)
 ·refine zq rfl ?_ ?_;simp -dsimp only[simprocAttr,↓aa,zp,zc];exact fB.symm
 rintro⟨⟨k,x⟩,hk,dW,hx⟩;simp only at hk dW hx;refine ay (ah ?_);apply ib rfl<;>intro h
 ·refine cm ?_;have aZ:k<f.blocks.length:=by simpa using h
  obtain⟨b,hb⟩:∃b,f.blocks[k]?=some b:=⟨f.blocks[k],by simp[aZ]⟩
  have sJ:=List.mem_of_getElem? hb;have UC:∀v∈dB b,0<=v∧v<=4095:=fun v hv=>hf v (List.mem_flatMap.2 ⟨b,sJ,hv⟩);rw[bQ hb]at dW;rw[List.flatMap_cons,List.foldl_append,dB,List.foldl_append]at dW;have SD:=SD b sJ;have ZG:=hlen (.cells [aI x]);refine aH (ai ?_);refine aS ?_;simp -dsimp only[simprocAttr,↓aa,zp,hb];refine ah ?_;refine aJ 5 ([aT b.params,bP b.ins,aI b.term.kind,aI b.term.arg,aI b.term.n,aT b.term.cases,aE b.term.to]) [(1,.fn (.func 61) [] [.mp A 0]),(5,.ip none [aT b.params,bP b.ins,aI b.term.kind,aI b.term.arg,aI b.term.n,aT b.term.cases,aE b.term.to]),(11,aw f.blocks),(12,aI f.blocks.length),(13,aI k)] rfl (by rfl) (by omega) (by simp[bq,aY,Go.Av.look]) ?_ ?_ ?_
  ·exact eS x
  ·simp[ae.upto,au,av,Block.ag,Edge.ag,Ins.ag,C1]
  refine cb (ah ?_);refine ai (aO (ι:={y:Nat×Int // y.1<=b.params.length∧R=((f.blocks.drop (k+1)).flatMap dB).foldl eF ((b.ins.map Ins.to).foldl eF ((b.params.drop y.1).foldl eF y.2))∧y.2<=4096}) (fun y=>⟨41,[(1,.fn (.func 61) [] [.mp A 0]),(5,.ip none [aT b.params,bP b.ins,aI b.term.kind,aI b.term.arg,aI b.term.n,aT b.term.cases,aE b.term.to]),(11,aw f.blocks),(12,aI f.blocks.length),(13,aI k),(18,aT b.params),(19,aI b.params.length),(20,aI y.1.1)],O.set A (.cells [aI y.1.2])⟩) (fun y=>b.params.length-y.1.1) ⟨(0,x),by simp,dW,hx⟩ ?_ ?_)
  ·refine zq rfl ?_ ?_;simp -dsimp only[simprocAttr,↓aa,zp,zc];rfl
  rintro⟨⟨j,y⟩,hj,jX,hy⟩;simp only at hj jX hy;refine ay (ah ?_);apply ib rfl<;>intro h
  ·refine cm ?_;have Tg:j<b.params.length:=by simpa using h
   obtain⟨v,hv⟩:∃v,b.params[j]?=some v:=⟨b.params[j],by simp[Tg]⟩
   rw[bQ hv,List.foldl_cons]at jX;have T0:=UC v (by simp[dB,List.mem_of_getElem? hv]);have dp:=r5 (eS y) (EM _) v ⟨T0.1,by omega⟩;rw[dz]at dp;refine aH (ai ?_);refine aS ?_;simp -dsimp only[simprocAttr,↓aa,zp,hv];refine ah ?_;refine cF ?_;refine .inr (.inl ⟨_,_,dp,.inl (an (zj ?_))⟩);refine ah ?_;refine cF ?_
   repeat(refine⟨by omega,?_⟩)
   refine fw ?_;refine⟨⟨(j+1,eF y v),Tg,jX,uF hy T0.2⟩,by simp;omega,?_⟩;refine zq rfl ?_ ?_;simp -dsimp only[simprocAttr,↓aa,zp,zc]
   ·exact Sub.int (by simp)
   rfl
  refine aG ?_;simp -dsimp only[bD,ne_eq,Nat.reduceEqDiff,reduceCtorEq];have ru:j=b.params.length:=by simp at h;omega
  subst ru;rw[List.drop_length,List.foldl_nil]at jX;refine ay (ah ?_);refine ai (aO (ι:={z:Nat×Int // z.1<=b.ins.length∧R=((f.blocks.drop (k+1)).flatMap dB).foldl eF (((b.ins.drop z.1).map Ins.to).foldl eF z.2)∧z.2<=4096}) (fun z=>⟨41,[(1,.fn (.func 61) [] [.mp A 0]),(11,aw f.blocks),(12,aI f.blocks.length),(13,aI k),(29,bP b.ins),(30,aI b.ins.length),(31,aI z.1.1)],O.set A (.cells [aI z.1.2])⟩) (fun z=>b.ins.length-z.1.1) ⟨(0,y),by simp,jX,hy⟩ ?_ ?_)
  ·refine zq rfl ?_ ?_;simp -dsimp only[simprocAttr,↓aa,zp,zc];rfl
  rintro⟨⟨q,z⟩,hq,TG,hz⟩;simp only at hq TG hz;refine ay (ah ?_);apply ib rfl<;>intro h
  ·refine cm ?_;have Th:q<b.ins.length:=by simpa using h
   obtain⟨i,hi⟩:∃i,b.ins[q]?=some i:=⟨b.ins[q],by simp[Th]⟩
   rw[bQ hi,List.map_cons,List.foldl_cons]at TG;have T0:=UC i.to (by simp only[dB,List.mem_append,List.mem_map];exact .inr ⟨i,List.mem_of_getElem? hi,rfl⟩);have dp:=r5 (eS z) (EM _) i.to ⟨T0.1,by omega⟩;rw[dz]at dp;have ZG:=hlen (.cells [aI z]);refine aH (ai ?_);refine aS ?_;simp -dsimp only[simprocAttr,↓aa,zp,hi];refine ah ?_;refine aJ 9 ([aI i.to,aI i.op,aI i.n,aT i.args]) [(1,.fn (.func 61) [] [.mp A 0]),(9,.ip none [aI i.to,aI i.op,aI i.n,aT i.args]),(11,aw f.blocks),(12,aI f.blocks.length),(13,aI k),(29,bP b.ins),(30,aI b.ins.length),(31,aI q)] rfl (by rfl) (by omega) (by simp[bq,aY,Go.Av.look]) ?_ ?_ ?_
   ·exact eS z
   ·simp[ae.upto,au,av,Block.ag,Edge.ag,Ins.ag,C1]
   refine cF ?_;refine .inr (.inl ⟨_,_,dp,.inl (an (zj ?_))⟩);refine ah ?_;refine cF ?_
   repeat(refine⟨by omega,?_⟩)
   refine fw ?_;refine⟨⟨(q+1,eF z i.to),Th,TG,uF hz T0.2⟩,by simp;omega,?_⟩;refine zq rfl ?_ ?_;simp -dsimp only[simprocAttr,↓aa,zp,zc]
   ·exact Sub.int (by simp)
   rfl
  refine aG ?_;simp -dsimp only[bD,ne_eq,Nat.reduceEqDiff,reduceCtorEq];have ZQ:q=b.ins.length:=by simp at h;omega
  subst ZQ;rw[List.drop_length,List.map_nil,List.foldl_nil]at TG;refine cF ?_
  repeat(refine⟨by omega,?_⟩)
  refine fw ?_;refine⟨⟨(k+1,z),aZ,TG,hz⟩,by simp;omega,?_⟩;refine zq rfl ?_ ?_;simp -dsimp only[simprocAttr,↓aa,zp,zc]
  ·exact Sub.int (by simp)
  rfl
 refine aG ?_;simp -dsimp only[bD,ne_eq,Nat.reduceEqDiff,reduceCtorEq];have gU:k=f.blocks.length:=by simp at h;omega
 subst gU;rw[List.drop_length,List.flatMap_nil,List.foldl_nil]at dW;subst dW
 skip
 simp -dsimp only[simprocAttr,↓aa,zp,zr,Tryz.results60,jH,List.length_set];have:=eS R;rw[hlen]at this;exact⟨this,trivial⟩
theorem CW(f:Func)(hf:H4 f)(uk:f.blocks.length<=2 ^ 47)(SD:∀b∈f.blocks,b.params.length<=2 ^ 47∧b.ins.length<=2 ^ 47):bh Tryz.prog 34 [f.enc] (aI (cv f)):=by
 have GN:=BG (O:=[.gone,.cells [aI 0]]) (A:=1) (by simp[al.upto,au,ae.upto]) f hf uk SD rfl;refine zf true 0 Tryz.func34 Tryz.ntmps34 ?_;dsimp only[Tmp,TypeId,slotsOf];refine ay (ah ?_);refine aA 1 0 (.ip none [aI f.name,aw f.blocks]) rfl (by simp[al.aC]) trivial rfl ?_ ?_;rotate_left;simp -dsimp only[simprocAttr,↓aa,zp]
 ·refine ay (ah ?_);refine ay ?_;refine .inr (.inl ⟨_,_,GN,.inl (an (zj ?_))⟩);refine ah ?_;refine ay (ah ?_);refine aq ?_;simp -dsimp only[simprocAttr,↓aa,zp,zr,Tryz.results34]
 exact bT.mp rfl rfl
end Go.Proofs.YtjdnhamngpafmaaGreat
namespace Go.Av

end Go.Av
namespace Go.Proofs.YtjdnhamngpafmaaGreat
open Go.Av
theorem LR(n:Nat)(l:List Bool):au n (l.map eB):=by
 rw[bZ];intro x hx;obtain⟨b,_,rfl⟩:=List.mem_map.1 hx;trivial
theorem Ac(n:Nat):(List.replicate n [ae.v (.bool false)]).flatten=(List.replicate n false).map eB:=by
 induction n with
 | zero=>rfl
 | succ n ih=>rw[List.replicate_succ,List.flatten_cons,ih,List.replicate_succ];rfl
def Ua(l:List Bool)(v:Int)(b:Bool):List Bool:=l.set v.toNat b
def QA(l:List Bool)(vs:List Int):List Bool:=vs.foldl (fun s v=>Ua s v true) l
def Ep(i:Ins)(now:List Bool):List Bool:=QA (Ua now i.to false) i.args
def Of(l:List Ins)(now:List Bool):List Bool:=l.foldr Ep now
structure Sr where
 seen:List Bool
 st:List (Int×Int)
 out:List Int
def fY(f:Func)(b:Int):List Edge:=(aF f b).term.to
def iS(f:Func)(b e:Int):Int:=((fY f b)[e.toNat]?.getD default).block
def gw(f:Func)(S:Sr):Sr :=
 match S.st with
 | []=>S
 | (b,e)::r =>
  if e=(fY f b).length then⟨S.seen,r,S.out++[b]⟩
  else if S.seen[(iS f b e).toNat]?.getD false=true then⟨S.seen,(b,e+1)::r,S.out⟩
  else⟨S.seen.set (iS f b e).toNat true,(iS f b e,0)::(b,e+1)::r,S.out⟩
def iB(f:Func):Nat->Sr->Sr
 | 0,S=>S
 | n+1,S=>if S.st.isEmpty then S else iB f n (gw f S)
def cH(f:Func):Sr:=⟨(List.replicate f.blocks.length false).set 0 true,[(0,0)],[]⟩
def gK(f:Func):List Int:=(iB f 100000 (cH f)).out
structure zo(f:Func)(S:Sr):Prop where
 len:S.seen.length=f.blocks.length
 blk:∀p∈S.st,0<=p.1∧p.1<f.blocks.length∧0<=p.2∧p.2<=(fY f p.1).length
 few:S.out.length+S.st.length<=S.seen.countP id
 outs:∀b∈S.out,0<=b∧b<f.blocks.length
def RP:List (Int×Int)->Nat
 | []=>0
 | p::r=>(258-p.2.toNat)+RP r
def Ln(S:Sr):Nat:=300*(S.seen.length-S.seen.countP id)+RP S.st
structure gb(f:Func):Prop where
 ne:f.blocks≠[]
 few:f.blocks.length<=128
 to:∀b∈f.blocks,b.term.to.length<=257
 eZ:∀b∈f.blocks,∀e∈b.term.to,1<=e.block∧e.block<f.blocks.length
theorem Rc.gr{f:Func}(h:Rc f):gb f :=
 ⟨h.ne,h.few,fun b hb=>to_few (ud (h.blk b hb).fin),fun b hb e he=>by
  have:=((ud (h.blk b hb).fin).eZ e he).1;omega⟩
theorem gb.next{f:Func}(h:gb f){b e:Int}(hb:0<=b∧b<f.blocks.length)(h0:0<=e)(h1:e<(fY f b).length):∃x,(fY f b)[e.toNat]?=some x∧x.block=iS f b e∧1<=iS f b e∧iS f b e<f.blocks.length:=by
 have aZ:e.toNat<(fY f b).length:=by omega
 have hx:(fY f b)[e.toNat]?=some (fY f b)[e.toNat]:=List.getElem?_eq_getElem aZ;refine⟨_,hx,by rw[iS,hx];rfl,?_⟩;have:=h.eZ _ (eW hb.1 hb.2) (fY f b)[e.toNat] (List.getElem_mem aZ);rw[iS,hx];exact this
theorem mv{l:List Bool}{k:Nat}(hk:k<l.length)(h:l[k]?.getD false=false):(l.set k true).countP id=l.countP id+1:=by
 induction l generalizing k with
 | nil=>simp at hk
 | cons a r ih =>
  cases k with
  | zero =>
   simp only[List.getElem?_cons_zero,Option.getD_some]at h;subst h;simp
  | succ k =>
   simp only[List.getElem?_cons_succ]at h;have:=ih (by simpa using hk) h;simp only[List.set_cons_succ,List.countP_cons,this];omega
theorem om{f:Func}(hg:gb f){S:Sr}(h:zo f S)(bI:S.st≠[]):zo f (gw f S)∧Ln (gw f S)<Ln S:=by
 obtain⟨seen,st,out⟩:=S;cases st with
 | nil=>exact absurd rfl bI
 | cons p r =>
  obtain⟨b,e⟩:=p;obtain⟨h1,h2,h3,h4⟩:=h;simp only at h1 h2 h3 h4;have hp:=h2 (b,e) (by simp);simp only at hp;have BV:(fY f b).length<=257:=hg.to _ (eW hp.1 hp.2.1);have hc:seen.countP id<=seen.length:=List.countP_le_length;simp only[List.length_cons]at h3;simp only[gw];by_cases he:e=(fY f b).length
  ·rw[if_pos he];refine⟨⟨h1,fun p hp=>h2 p (by simp[hp]),by simp only[List.length_append,List.length_cons,List.length_nil];omega,fun x hx=>?_⟩,?_⟩
   ·rcases List.mem_append.1 hx with q|q
    ·exact h4 x q
    simp only[List.mem_singleton]at q;subst q;exact⟨hp.1,hp.2.1⟩
   simp only[Ln,RP];omega
  rw[if_neg he];obtain⟨x,hx,Ll,BT,HR⟩:=hg.next ⟨hp.1,hp.2.1⟩ hp.2.2.1 (by omega)
  by_cases hs:seen[(iS f b e).toNat]?.getD false=true
  ·rw[if_pos hs];refine⟨⟨h1,fun p RE=>?_,by simpa using h3,h4⟩,?_⟩
   ·rcases List.mem_cons.1 RE with q|q
    ·subst q;exact⟨hp.1,hp.2.1,by simp only;omega,by simp only;omega⟩
    exact h2 p (by simp[q])
   simp only[Ln,RP];omega
  rw[if_neg hs];have Dd:seen[(iS f b e).toNat]?.getD false=false:=by simpa using hs
  have hk:(iS f b e).toNat<seen.length:=by omega
  have gn:=mv hk Dd;have gA:(seen.set (iS f b e).toNat true).countP id<=(seen.set (iS f b e).toNat true).length:=List.countP_le_length;rw[List.length_set]at gA;refine⟨⟨by simpa using h1,fun p RE=>?_,by simp only[List.length_cons,gn];omega,h4⟩,?_⟩
  ·rcases List.mem_cons.1 RE with q|q
   ·subst q;exact⟨by simp only;omega,HR,by simp,by simp⟩
   rcases List.mem_cons.1 q with q|q
   ·subst q;exact⟨hp.1,hp.2.1,by simp only;omega,by simp only;omega⟩
   exact h2 p (by simp[q])
  simp only[Ln,RP,List.length_set,gn];omega
theorem qQ{f:Func}(hg:gb f):∀(n:Nat) (S:Sr),zo f S->Ln S<n->zo f (iB f n S)∧(iB f n S).st=[]
 | 0,S,_,h=>by omega
 | n+1,S,h,hw=>by
  simp only[iB];cases dz:S.st with
  | nil=>simpa[dz]using h
  | cons p r =>
   simp only[List.isEmpty_cons,Bool.false_eq_true,if_false];have:=om hg h (by rw[dz];simp);exact qQ hg n _ this.1 (by omega)
theorem mn{f:Func}(hg:gb f):zo f (cH f)∧Ln (cH f)<100000:=by
 have hl:0<f.blocks.length:=by
  cases hb:f.blocks with
  | nil=>exact absurd hb hg.ne
  | cons=>simp
 have C7:=hg.few;have hc:((List.replicate f.blocks.length false).set 0 true).countP id=1:=by
  rw[mv (by simpa using hl) (by simp[hl])];simp[List.countP_replicate]
 refine⟨⟨by simp[cH],fun p hp=>?_,by simp only[cH,hc];simp,by simp[cH]⟩,?_⟩
 ·simp only[cH,List.mem_singleton]at hp;subst hp;exact⟨by simp,by simp;omega,by simp,by simp⟩
 simp only[Ln,cH,hc,List.length_set,List.length_replicate,RP];simp;omega
def yU:List (Int×Int)->List ae
 | []=>[]
 | p::r=>yU r++[aI p.1,aI p.2]
theorem lG:∀l:List (Int×Int),(yU l).length=l.length*2
 | []=>rfl
 | p::r=>by
  simp only[yU,List.length_append,lG r,List.length_cons,List.length_nil];omega
theorem stkC_upto(n:Nat):∀l:List (Int×Int),au n (yU l)
 | []=>trivial
 | p::r=>by
  rw[bZ];intro x hx;rcases List.mem_append.1 hx with q|q
  ·exact bZ.1 (stkC_upto n r) x q
  simp only[List.mem_cons,List.not_mem_nil,or_false]at q;rcases q with rfl|rfl<;>trivial
structure So where
 S:Sr
 sid:Nat
 oid:Nat
 O:List al
def xQ(O:List al)(id:Nat):List ae :=
 match O[id]? with
 | some (.cells cs)=>cs
 | _=>[]
def th(O:List al)(oid:Nat)(out:List Int)(b:Int):List al :=
 if out=[]then(O++[al.cells [aI b]]).set 1 (.cells [.os O.length 1 1])
 else(O.set oid .gone++[al.cells ((out++[b]).map aI)]).set 1 (.cells [.os O.length (out.length+1) 1])
def k8(f:Func)(X:So):So :=
 match X.S.st with
 | []=>X
 | (b,e)::r =>
  if e=(fY f b).length then⟨gw f X.S,X.sid,X.O.length,th X.O X.oid X.S.out b⟩
  else
   let cs:=(xQ X.O X.sid).set (r.length*2+1) (aI (e+1));let O1:=X.O.set X.sid (.cells cs)
   if X.S.seen[(iS f b e).toNat]?.getD false=true then⟨gw f X.S,X.sid,X.oid,O1⟩
   else
    let O2:=O1.set 2 (.cells ((X.S.seen.set (iS f b e).toNat true).map eB))
    ⟨gw f X.S,O2.length,X.oid,O2.set X.sid .gone++[al.cells (cs.take ((r.length+1)*2)++[aI (iS f b e),aI 0])]⟩
def km(f:Func):Nat->So->So
 | 0,X=>X
 | n+1,X=>if X.S.st.isEmpty then X else km f n (k8 f X)
theorem Bx(f:Func)(X:So):(k8 f X).S=gw f X.S:=by
 unfold k8;cases dz:X.S.st with
 | nil=>simp[gw,dz]
 | cons p r =>
  simp only;split
  ·rfl
  split<;>rfl
theorem yP(f:Func):∀(n:Nat) (X:So),(km f n X).S=iB f n X.S
 | 0,X=>rfl
 | n+1,X=>by
  simp only[km,iB];split
  ·rfl
  rw[yP f n,Bx]
structure SO(X:So):Prop where
 up:∀o∈X.O,o.upto X.O.length
 out:X.O[1]?=some (.cells [pv X.oid X.S.out])
 outs:X.S.out≠[]->X.O[X.oid]?=some (.cells (X.S.out.map aI))∧X.oid≠X.sid∧2<X.oid
 seen:X.O[2]?=some (.cells (X.S.seen.map eB))
 stk:∃qx,X.O[X.sid]?=some (.cells (yU X.S.st++qx))
 sne:2<X.sid
theorem SO.step{f:Func}{X:So}(h:SO X):SO (k8 f X):=by
 obtain⟨⟨seen,st,out⟩,sid,oid,O⟩:=X;obtain⟨h1,h2,h3,h4,⟨qx,h5⟩,h6⟩:=h;simp only at h1 h2 h3 h4 h5 h6;have l1:=I h2;have l2:=I h4;have l5:=I h5;cases st with
 | nil=>exact⟨h1,h2,h3,h4,⟨qx,h5⟩,h6⟩
 | cons p r =>
  obtain⟨b,e⟩:=p;simp only[k8,gw];by_cases he:e=(fY f b).length
  ·rw[if_pos he,if_pos he];by_cases ho:out=[]
   ·subst ho;simp only[th,if_true,List.nil_append];refine⟨?_,?_,fun _=>⟨?_,by simp only;omega,by simp only;omega⟩,?_,⟨[aI b,aI e]++qx,?_⟩,h6⟩
    ·have:=bR (n:=O.length+1) (k:=1) (x:=.cells [.os O.length 1 1]) (pH (fun o ho=>al.cE (by omega) (h1 o ho)) (x:=.cells [aI b]) ⟨trivial,trivial⟩) ⟨show _<_ by omega,trivial⟩;simpa using this
    ·simp only;rw[List.getElem?_set_self (by simp;omega)];rfl
    ·simp only;rw[List.getElem?_set_ne (by omega),List.getElem?_append_right (Nat.le_refl _)];simp
    ·simp only;rw[List.getElem?_set_ne (by omega),List.getElem?_append_left l2];exact h4
    simp only;rw[List.getElem?_set_ne (by omega),List.getElem?_append_left l5,h5];simp[yU]
   obtain⟨k1,k2,k3⟩:=h3 ho;have lo:=I k1;simp only[th,if_neg ho];refine⟨?_,?_,fun _=>⟨?_,by simp only;omega,by simp only;omega⟩,?_,⟨[aI b,aI e]++qx,?_⟩,h6⟩
   ·have:=bR (n:=O.length+1) (k:=1) (x:=.cells [.os O.length (out.length+1) 1]) (pH (bR (k:=oid) (x:=.gone) (fun o ho=>al.cE (by omega) (h1 o ho)) trivial) (x:=.cells ((out++[b]).map aI)) (av _ _)) ⟨show _<_ by omega,trivial⟩;simpa using this
   ·simp only;rw[List.getElem?_set_self (by simp;omega)];simp[pv]
   ·simp only;rw[List.getElem?_set_ne (by omega),List.getElem?_append_right (by simp)];simp
   ·simp only;rw[List.getElem?_set_ne (by omega),List.getElem?_append_left (by simpa using l2),List.getElem?_set_ne (by omega)];exact h4
   simp only;rw[List.getElem?_set_ne (by omega),List.getElem?_append_left (by simpa using l5),List.getElem?_set_ne (by omega),h5];simp[yU]
  rw[if_neg he,if_neg he];have gn:(xQ O sid).set (r.length*2+1) (aI (e+1))=yU ((b,e+1)::r)++qx:=by
   simp only[xQ,h5,yU];rw[List.append_assoc,List.set_append_right _ _ (by rw[lG];omega),lG,show r.length*2+1-r.length*2=1 by omega];simp
  rw[gn];have PU:au O.length qx:=by
   rw[bZ];intro x hx;have:=h1 _ (List.mem_of_getElem? h5);exact bZ.1 this x (List.mem_append.2 (.inr hx))
  have vL:au O.length (yU ((b,e+1)::r)++qx):=by
   rw[bZ];intro x hx;rcases List.mem_append.1 hx with q|q
   ·exact bZ.1 (stkC_upto _ _) x q
   exact bZ.1 PU x q
  by_cases hs:seen[(iS f b e).toNat]?.getD false=true
  ·rw[if_pos hs,if_pos hs];refine⟨?_,?_,fun ho=>?_,?_,⟨qx,?_⟩,h6⟩
   ·have:=bR (n:=O.length) (k:=sid) (x:=.cells (yU ((b,e+1)::r)++qx)) h1 vL;simpa using this
   ·simp only;rw[List.getElem?_set_ne (by omega)];exact h2
   ·obtain⟨k1,k2,k3⟩:=h3 ho;refine⟨?_,k2,k3⟩;simp only;rw[List.getElem?_set_ne (fun q=>k2 q.symm)];exact k1
   ·simp only;rw[List.getElem?_set_ne (by omega)];exact h4
   simp only;rw[List.getElem?_set_self l5]
  rw[if_neg hs,if_neg hs]
  skip
  have jH:(yU ((b,e+1)::r)++qx).take ((r.length+1)*2)=yU ((b,e+1)::r):=by
   rw[List.take_append_of_le_length (by rw[lG];simp),List.take_of_length_le (by rw[lG];simp)]
  rw[jH];refine⟨?_,?_,fun ho=>?_,?_,⟨[],?_⟩,?_⟩
  ·have a1:=bR (n:=O.length) (k:=sid) (x:=.cells (yU ((b,e+1)::r)++qx)) h1 vL;have a2:=bR (k:=2) (x:=.cells ((seen.set (iS f b e).toNat true).map eB)) a1 (LR _ _);have a3:=bR (k:=sid) (x:=.gone) a2 trivial;have a4:=pH (n:=O.length+1) (x:=.cells (yU ((b,e+1)::r)++[aI (iS f b e),aI 0])) (fun o ho=>al.cE (by omega) (a3 o ho)) (by
    show au _ _;have:=stkC_upto (O.length+1) ((iS f b e,0)::(b,e+1)::r);exact this)
   simpa using a4
  ·simp only;rw[List.getElem?_append_left (by simp;omega),List.getElem?_set_ne (by omega),List.getElem?_set_ne (by omega),List.getElem?_set_ne (by omega)];exact h2
  ·obtain⟨k1,k2,k3⟩:=h3 ho;have lo:=I k1;refine⟨?_,by simp;omega,k3⟩;simp only;rw[List.getElem?_append_left (by simpa using lo),List.getElem?_set_ne (fun q=>k2 q.symm),List.getElem?_set_ne (by omega),List.getElem?_set_ne (fun q=>k2 q.symm)];exact k1
  ·simp only;rw[List.getElem?_append_left (by simpa using l2),List.getElem?_set_ne (by omega),List.getElem?_set_self (by simpa using l2)]
  ·simp only[List.length_set];rw[List.getElem?_append_right (by simp)];simp[yU]
  simp;omega
def gL(f:Func):So:=⟨cH f,3,0,[.gone,.cells [.aB 1 [] .ex],.cells ((cH f).seen.map eB),.cells [aI 0,aI 0]]⟩
theorem ml(f:Func):SO (gL f) where
 up:=by
  intro o ho;simp only[gL,List.mem_cons,List.not_mem_nil,or_false]at ho;rcases ho with rfl|rfl|rfl|rfl
  ·trivial
  ·exact⟨⟨trivial,trivial⟩,trivial⟩
  ·exact LR _ _
  exact⟨trivial,trivial,trivial⟩
 out:=rfl
 outs:=fun h=>absurd rfl h
 seen:=rfl
 stk:=⟨[],rfl⟩
 sne:=by simp[gL]
theorem sn(f:Func)(hg:gb f) :
  ba Tryz.prog 75 [.gone,.cells [.aB 1 [] .ex]] [f.enc,.fn (.func 76) [] [.mp 1 0]] (fun r O'=>r=.cK []∧O'=(km f 100000 (gL f)).O):=by
 have Xh:=hg.few;have hl:0<f.blocks.length:=by
  cases hb:f.blocks with
  | nil=>exact absurd hb hg.ne
  | cons=>simp
 obtain⟨N,hN⟩:∃N,N=f.blocks.length:=⟨_,rfl⟩
 obtain⟨F,hF⟩:∃F,F=km f 100000 (gL f):=⟨_,rfl⟩
 rw[<-hF];have gU:[al.gone,al.cells [ae.aB 1 [] .ex]].length<=F.O.length:=by
  have key:∀(n:Nat) (X:So),SO X->SO (km f n X):=fun n=>by
   induction n with
   | zero=>exact fun X h=>h
   | succ n ih =>
    intro X h;simp only[km];split
    ·exact h
    exact ih _ h.step
  have:=I (key 100000 _ (ml f)).out;rw[<-hF]at this;simp only[List.length_cons,List.length_nil];omega
 refine eY hT true (F.O.length) Tryz.func75 rfl (by kernel_rfl) (by simp[Tryz.ntmps75]) (by assumption) ?_;show cu Tryz.prog _ _ _ ⟨81,_,_⟩;dsimp only[Tmp,TypeId,slotsOf];refine ay (ah ?_);refine aA 2 2 (.ip none [aI f.name,aw f.blocks]) rfl (by simp[al.aC]) trivial rfl ?_ ?_;rotate_left;simp -dsimp only[simprocAttr,↓aa,zp]
 ·refine bF 2 [(1,.fn (.func 76) [] [.mp 1 0]),(2,.ip none [aI f.name,aw f.blocks])] (by simp) (by omega) [.gone,.cells [.aB 1 [] .ex]] ?_ ?_ ?_ ?_ ?_
  ·rfl
  ·simp[al.upto,au,ae.upto,av,Block.ag]
  ·simp[fL,St.get,bq,aY,Go.Av.look,Sub.refl]
  ·simp[al.upto,au,ae.upto,av,Block.ag]
  refine aS ?_;simp -dsimp only[simprocAttr,↓aa,zp,Ac,<-hN];refine⟨by omega,by omega,?_⟩;refine ah ?_;refine ay ?_;have ry:bk ((List.replicate N false).map eB) 0 [.v (.bool true)]=(cH f).seen.map eB:=by
   rw[fX _ (by simp;omega)];simp only[cH,<-hN,List.map_set];rfl
  refine⟨by omega,by simp;omega,?_⟩;rw[ry];refine ah ?_;refine aH (oX ⟨false,false⟩ hT 1 rfl rfl rfl (by simp) ?_);simp -dsimp only[simprocAttr,↓aa,zp];refine AX hT rfl rfl (by simp) rfl rfl rfl (by simp) rfl (by intro p hp;simp at hp;subst hp;trivial) rfl rfl (by intro x hx;simp at hx;subst hx;rfl) (by simp) (by simp) ?_;simp -dsimp only[simprocAttr,↓aa,zp];refine ah ?_;have Tx:=mn hg;refine ai (aO (ι:={X:So // SO X∧zo f X.S∧∃n,Ln X.S<n∧F=km f n X}) (fun X=>⟨81,[(1,.fn (.func 76) [] [.mp 1 0]),(2,.ip none [aI f.name,aw f.blocks]),(4,.ms 2 0 N N),(5,.os X.1.sid X.1.S.st.length 2)],X.1.O⟩) (fun X=>Ln X.1.S) ⟨gL f,ml f,Tx.1,100000,Tx.2,hF⟩ ?_ ?_)
  ·refine zq rfl ?_ ?_;simp -dsimp only[simprocAttr,↓aa,zp,zc]
   all_goals first|rfl|exact Sub.refl _
  rintro⟨X,hX,hS,n,hn,XT⟩;have Rn:=hX.step (f:=f);obtain⟨⟨seen,st,out⟩,sid,oid,O⟩:=X;obtain⟨h1,h2,h3,h4,⟨qx,h5⟩,h6⟩:=id hX;simp only at h1 h2 h3 h4 h5 h6 hn;cases st with
  | nil =>
   refine cb (ah ?_);refine cd rfl ?_;refine aG ?_;simp -dsimp only[bD,ne_eq,Nat.reduceEqDiff,reduceCtorEq];have YI:F.O=O:=by
    rw[XT];cases n with
    | zero=>rfl
    | succ n=>rfl
   skip
   simp -dsimp only[simprocAttr,↓aa,zp,zr,Tryz.results75];rw[YI];exact⟨by simp,by rw[List.take_of_length_le (Nat.le_refl _)];exact h1,trivial,List.take_of_length_le (Nat.le_refl _)⟩
  | cons p r =>
   obtain⟨b,e⟩:=p;have bJ:=om hg hS (by simp);obtain⟨n,rfl⟩:∃n',n=n'+1:=⟨n-1,by omega⟩
   have GH:F=km f n (k8 f ⟨⟨seen,(b,e)::r,out⟩,sid,oid,O⟩):=XT;have hSs:=Bx f ⟨⟨seen,(b,e)::r,out⟩,sid,oid,O⟩;have hp:=hS.blk (b,e) (by simp);simp only at hp;have ZU:r.length<=128:=by
    have a1:=hS.few;have a2:seen.countP id<=seen.length:=List.countP_le_length;have a3:=hS.len;simp only[List.length_cons]at a1 a3;omega
   have HT:((r.length+1:Nat):Int)-1=(r.length:Nat):=by omega
   obtain⟨B,hB⟩:∃B,B=aF f b:=⟨_,rfl⟩
   have Xa:=ez hp.1 hp.2.1;rw[<-hB]at Xa;have BV:fY f b=B.term.to:=by rw[hB];rfl
   have Mh:(yU ((b,e)::r)++qx)[r.length*2]?=some (aI b):=by
    rw[yU,List.append_assoc,List.getElem?_append_right (by rw[lG];omega),lG,Nat.sub_self];rfl
   have HO:(yU ((b,e)::r)++qx)[r.length*2+1]?=some (aI e):=by
    rw[yU,List.append_assoc,List.getElem?_append_right (by rw[lG];omega),lG,show r.length*2+1-r.length*2=1 by omega];rfl
   obtain⟨cs,gn⟩:∃cs,cs=yU ((b,e)::r)++qx:=⟨_,rfl⟩
   rw[<-gn]at Mh HO h5;refine cb (ah ?_);apply aM rfl<;>intro h
   ·refine cm ?_;refine ai ?_;refine aS ?_;simp -dsimp only[simprocAttr,↓aa,zp,HT]
    repeat(refine⟨by omega,?_⟩)
    refine ah ?_;refine aS ?_;simp -dsimp only[simprocAttr,↓aa,zp,h5,Mh,Xa]
    repeat(refine⟨by omega,?_⟩)
    refine⟨ob (by kernel_rfl),?_⟩;refine ah ?_;by_cases he:e=(fY f b).length
    ·have m5:decide (e=(B.term.to.length:Int))=true:=decide_eq_true (by rw[he,BV]);have qw:gw f ⟨seen,(b,e)::r,out⟩=⟨seen,r,out++[b]⟩:=by simp only[gw];rw[if_pos he]
     have Li:k8 f ⟨⟨seen,(b,e)::r,out⟩,sid,oid,O⟩=⟨⟨seen,r,out++[b]⟩,sid,O.length,th O oid out b⟩:=by simp only[k8];rw[if_pos he,qw]
     rw[Li]at Rn GH;simp only[qw]at bJ;have V4:ba Tryz.prog 76 O [aI b,.mp 1 0] (fun r' O'=>r'=.cK []∧O'=th O oid out b):=by
      unfold th;by_cases ho:out=[]
      ·rw[if_pos ho];exact GS h1 (by rw[h2,ho];rfl) b
      rw[if_neg ho];obtain⟨k1,k2,k3⟩:=h3 ho;have a1:=hS.few;have a2:seen.countP id<=seen.length:=List.countP_le_length;have a3:=hS.len;simp only at a1 a3;exact Jy h1 (by rw[h2,pv,if_neg ho]) k1 (by omega) (by omega) b
     refine cJ ?_;simp -dsimp only[simprocAttr,↓aa,zp,h5,HO,m5];refine ah ?_;refine cN rfl ?_;refine aS ?_;simp -dsimp only[simprocAttr,↓aa,zp,h5,Mh];refine .inr (.inl ⟨_,_,V4,.inl (an (zj ?_))⟩);refine ah ?_;refine aS ?_;simp -dsimp only[simprocAttr,↓aa,zp,HT]
     repeat(refine⟨by omega,?_⟩)
     refine ah ?_;refine aG ?_;simp -dsimp only[bD,ne_eq,Nat.reduceEqDiff,reduceCtorEq];refine⟨⟨_,Rn,bJ.1,n,?_,GH⟩,?_,?_⟩
     ·have:=bJ.2;simp only at this hn ⊢;omega
     ·exact bJ.2
     refine zq rfl ?_ ?_;simp -dsimp only[simprocAttr,↓aa,zp,zc]
     all_goals rfl
    have m5:decide (e=(B.term.to.length:Int))=false:=decide_eq_false (by rw[<-BV];exact he);obtain⟨x,hx,Ll,BT,HR⟩:=hg.next ⟨hp.1,hp.2.1⟩ hp.2.2.1 (by omega)
    rw[BV]at hx;refine cJ ?_;simp -dsimp only[simprocAttr,↓aa,zp,h5,HO,m5];refine ah ?_;refine cd rfl ?_;refine cm ?_;refine aS ?_;simp -dsimp only[simprocAttr,↓aa,zp,h5,HO,hx]
    repeat(refine⟨by omega,?_⟩)
    refine ah ?_;obtain⟨j,hj⟩:∃j:Nat,iS f b e=(j:Int):=⟨(iS f b e).toNat,by omega⟩
    have VW:j<seen.length:=by
     have a3:=hS.len;simp only at a3;omega
    rw[hj]at Ll BT HR;obtain⟨sv,Qj⟩:∃sv,seen[j]?=some sv:=⟨seen[j],List.getElem?_eq_getElem VW⟩
    have TR:(seen.map eB)[j]?=some (.v (.bool sv)):=by rw[List.getElem?_map,Qj];rfl
    have gA:(r.length+1)*2<=cs.length:=by
     rw[gn,List.length_append,lG];simp
    obtain⟨Og,Mj⟩:∃Og,Og=cs.set (r.length*2+1) (aI (e+1)):=⟨_,rfl⟩
    have ry:bk cs (r.length*2+1) [.v (.int .i64 (e+1))]=Og:=by rw[fX _ (by omega),Mj]
    have Zd:(r.length+1)*2<=Og.length:=by rw[Mj,List.length_set];exact gA
    obtain⟨O1,dD⟩:∃O1,O1=O.set sid (.cells Og):=⟨_,rfl⟩
    have g5:O1[sid]?=some (.cells Og):=by rw[dD];exact lP h5
    have g4:O1[2]?=some (.cells (seen.map eB)):=by rw[dD];exact bm h4 (by omega)
    have Mg:xQ O sid=cs:=by simp only[xQ,h5]
    have Yw:(fY f b).length<=257:=hg.to _ (eW hp.1 hp.2.1);refine aS ?_;simp -dsimp only[simprocAttr,↓aa,zp,h5,HO]
    repeat(refine⟨by omega,?_⟩)
    refine ah ?_;rw[ry,<-dD];cases sv with
    | true =>
     have qw:gw f ⟨seen,(b,e)::r,out⟩=⟨seen,(b,e+1)::r,out⟩:=by simp only[gw];rw[if_neg he,hj,Int.toNat_natCast,Qj,if_pos (show(some true).getD false=true from rfl)]
     have Li:k8 f ⟨⟨seen,(b,e)::r,out⟩,sid,oid,O⟩=⟨⟨seen,(b,e+1)::r,out⟩,sid,oid,O1⟩:=by simp only[k8];rw[if_neg he,qw,Mg,hj,Int.toNat_natCast,Qj,if_pos (show(some true).getD false=true from rfl),<-Mj,dD]
     rw[Li]at Rn GH;simp only[qw]at bJ;refine aS ?_;simp -dsimp only[simprocAttr,↓aa,zp,g4,Ll,Int.toNat_natCast,TR,Nat.mul_one]
     repeat(refine⟨by omega,?_⟩)
     refine ah ?_;refine cd rfl ?_;refine WV ?_;refine⟨⟨_,Rn,bJ.1,n,?_,GH⟩,?_,?_⟩
     ·have:=bJ.2;simp only at this hn ⊢;omega
     ·exact bJ.2
     refine zq rfl ?_ ?_;simp -dsimp only[simprocAttr,↓aa,zp,zc]
     all_goals rfl
    | false =>
     have qw:gw f ⟨seen,(b,e)::r,out⟩=⟨seen.set j true,((j:Int),0)::(b,e+1)::r,out⟩:=by simp only[gw];rw[if_neg he,hj,Int.toNat_natCast,Qj,if_neg (by simp)]
     obtain⟨O2,s6⟩:∃O2,O2=O1.set 2 (.cells ((seen.set j true).map eB)):=⟨_,rfl⟩
     have k5:O2[sid]?=some (.cells Og):=by rw[s6];exact bm g5 (by omega)
     have Li:k8 f ⟨⟨seen,(b,e)::r,out⟩,sid,oid,O⟩=⟨⟨seen.set j true,((j:Int),0)::(b,e+1)::r,out⟩,O2.length,oid,O2.set sid .gone++[al.cells (Og.take ((r.length+1)*2)++[aI j,aI 0])]⟩:=by
      simp only[k8];rw[if_neg he,qw,Mg,hj,Int.toNat_natCast,Qj,if_neg (by simp),<-Mj,<-dD,<-s6]
     rw[Li]at Rn GH;simp only[qw]at bJ;have TO:bk (seen.map eB) j [.v (.bool true)]=(seen.set j true).map eB:=by
      rw[fX _ (by simpa using VW),List.map_set];rfl
     refine aS ?_;simp -dsimp only[simprocAttr,↓aa,zp,g4,Ll,Int.toNat_natCast,TR,Nat.mul_one]
     repeat(refine⟨by omega,?_⟩)
     refine ah ?_;refine cN rfl ?_;refine aS ?_;simp -dsimp only[simprocAttr,↓aa,zp,g4,Ll,Int.toNat_natCast,Nat.mul_one]
     repeat(refine⟨by omega,?_⟩)
     refine ah ?_;rw[TO,<-s6];refine j4 ?_;simp -dsimp only[simprocAttr,↓aa,zp,k5,Ll]
     repeat(refine⟨by omega,?_⟩)
     refine RS ?_;refine⟨⟨_,Rn,bJ.1,n,?_,GH⟩,?_,?_⟩
     ·have:=bJ.2;simp only at this hn ⊢;omega
     ·exact bJ.2
     refine zq rfl ?_ ?_;simp -dsimp only[simprocAttr,↓aa,zp,zc]
     all_goals rfl
   exact af h (by omega)
 exact bT.mp rfl rfl
def zn(l:List Int)(i:Nat)(m:List Int):Prop:=m.length=l.length∧∀k,k<l.length->m[k]?=if k<i∨l.length<=k+i then l[l.length-1-k]? else l[k]?
theorem DV(l:List Int):zn l 0 l:=⟨rfl,fun k hk=>by rw[if_neg (by omega)]⟩
theorem DU{l m:List Int}{i:Nat}(h:zn l i m)(hi:2*i+1<l.length){a b:Int}(ha:m[i]?=some a)(hb:m[l.length-1-i]?=some b):zn l (i+1) ((m.set i b).set (l.length-1-i) a):=by
 obtain⟨h1,h2⟩:=h;refine⟨by simpa using h1,fun k hk=>?_⟩;have e1:=h2 i (by omega);have e2:=h2 (l.length-1-i) (by omega);rw[if_neg (by omega)]at e1 e2;rw[List.getElem?_set,List.getElem?_set];simp only[List.length_set];by_cases q1:l.length-1-i=k
 ·rw[if_pos q1,if_pos (by omega),if_pos (by omega),<-ha,e1];congr 1;omega
 rw[if_neg q1];by_cases q2:i=k
 ·rw[if_pos q2,if_pos (by omega),if_pos (by omega),<-hb,e2,q2]
 rw[if_neg q2,h2 k hk];by_cases q3:k<i∨l.length<=k+i
 ·rw[if_pos q3,if_pos (by omega)]
 rw[if_neg q3,if_neg (by omega)]
theorem DT{l m:List Int}{i:Nat}(h:zn l i m)(hi:l.length<=2*i+1):m=l.reverse:=by
 obtain⟨h1,h2⟩:=h;apply List.ext_getElem?;intro k;by_cases hk:k<l.length
 ·rw[h2 k hk,List.getElem?_reverse hk];split
  ·rfl
  congr 1;omega
 rw[List.getElem?_eq_none (by omega),List.getElem?_eq_none (by simp;omega)]
theorem qL{O:List al}(br:∀o∈O,o.upto O.length){oid:Nat}{l:List Int}(ho:O[oid]?=some (.cells (l.map aI)))(yh:l.length<=1000) :
  ba Tryz.prog 77 O [.os oid l.length 1] (fun r O'=>r=.cK []∧O'=O.set oid (.cells (l.reverse.map aI))):=by
 have ES:=I ho;have fB:O.set oid (.cells (l.map aI))=O:=jw ho;have EM:∀x,(O.set oid x)[oid]?=some x:=fun x=>List.getElem?_set_self ES;have jH:∀m:List Int,(O.set oid (.cells (m.map aI))).take O.length=O.set oid (.cells (m.map aI)):=fun m=>bX;have eS:∀m:List Int,∀o∈O.set oid (.cells (m.map aI)),o.upto O.length:=fun m=>bR br (av _ _);refine zf true O.length Tryz.func77 Tryz.ntmps77 ?_;dsimp only[Tmp,TypeId,slotsOf];refine ay ?_
 repeat(refine⟨by omega,?_⟩)
 refine ah ?_;refine ai (aO (ι:={x:Nat×List Int // x.1<=l.length∧zn l x.1 x.2}) (fun x=>⟨28,[(0,.os oid l.length 1),(2,aI x.1.1),(3,aI ((l.length:Int)-1-x.1.1))],O.set oid (.cells (x.1.2.map aI))⟩) (fun x=>l.length-x.1.1) ⟨(0,l),by simp,DV l⟩ ?_ ?_)
 ·refine zq rfl ?_ ?_;simp -dsimp only[simprocAttr,↓aa,zp,zc];exact fB.symm
 rintro⟨⟨i,m⟩,hi,hr⟩;simp only at hi hr;have AH:=hr.1;refine cb (ah ?_);apply aM rfl<;>intro h
 ·refine cm ?_;have aZ:2*i+1<l.length:=by
   have:=of_decide_eq_true h;omega
  obtain⟨j,hj⟩:∃j,j=l.length-1-i:=⟨_,rfl⟩
  have UI:(l.length:Int)-1-i=(j:Nat):=by omega
  obtain⟨a,ha⟩:∃a,m[i]?=some a:=⟨m[i]'(by omega),List.getElem?_eq_getElem _⟩
  obtain⟨b,hb⟩:∃b,m[j]?=some b:=⟨m[j]'(by omega),List.getElem?_eq_getElem _⟩
  have OK:=DU hr aZ ha (by rw[<-hj];exact hb);rw[<-hj]at OK;have Tj:(m.map aI)[i]?=some (aI a):=by rw[List.getElem?_map,ha];rfl
  have ZH:(m.map aI)[j]?=some (aI b):=by rw[List.getElem?_map,hb];rfl
  have vS:bk (m.map aI) i [.v (.int .i64 b)]=(m.set i b).map aI:=by
   rw[fX _ (by simp;omega),List.map_set]
  have My:bk ((m.set i b).map aI) j [.v (.int .i64 a)]=((m.set i b).set j a).map aI:=by
   rw[fX _ (by simp;omega)];simp only[List.map_set]
  refine aH (ai ?_);refine j4 ?_;simp -dsimp only[simprocAttr,↓aa,zp,EM,UI,Tj,ZH,Int.toNat_natCast,Nat.mul_one,vS,My,List.set_set,List.length_set];refine⟨by omega,by omega,by omega,by omega,by omega,by omega,?_⟩;refine⟨bN [oid] O.length [.pure,.pure,.pure,.pure,.pure,.pure,.pure,.rd 0,.pure,.pure,.pure,.rd 0,.pure,.wr 1 [0],.pure,.wr 1 [0]] (by simp) (by simp;omega) rfl rfl (by kernel_rfl),aV ?_⟩;simp -dsimp only[bD,ne_eq,Nat.reduceEqDiff,reduceCtorEq];refine cF ?_
  repeat(refine⟨by omega,?_⟩)
  refine fw ?_;refine⟨⟨(i+1,_),by simp only;omega,OK⟩,by simp;omega,?_⟩;refine zq rfl ?_ ?_;simp -dsimp only[simprocAttr,↓aa,zp,zc]
  ·exact⟨Sub.int (by simp),Sub.int (by omega)⟩
  rfl
 refine aG ?_;simp -dsimp only[bD,ne_eq,Nat.reduceEqDiff,reduceCtorEq];have qX:l.length<=2*i+1:=by
  have:=of_decide_eq_false h;omega
 rw[DT hr qX]
 skip
 simp -dsimp only[simprocAttr,↓aa,zp,zr,Tryz.results77,jH,List.length_set];exact⟨eS _,trivial⟩
def bz(f:Func):List Int:=(gK f).reverse
def yw(f:Func):ae:=if aN f=0 then .cK [aT (bz f),aI 0]else .cK [aT [],aI (aN f)]
theorem Ke{f:Func}:∀(n:Nat) (S:Sr),(S.st=[]->S.out≠[])->(iB f n S).st=[]->(iB f n S).out≠[]
 | 0,S,h,he=>h he
 | n+1,S,h,he=>by
  simp only[iB]at he ⊢;cases dz:S.st with
  | nil =>
   rw[dz]at he;simp only[List.isEmpty_nil,if_true]at he ⊢;exact h dz
  | cons p r =>
   rw[dz]at he;simp only[List.isEmpty_cons,Bool.false_eq_true,if_false]at he ⊢;refine Ke n _ (fun q=>?_) he;obtain⟨b,e⟩:=p;simp only[gw,dz]at q ⊢;split
   ·simp
   rename_i bI;rw[if_neg bI]at q;split at q<;>simp at q
theorem u9{f:Func}:∀(n:Nat) (X:So),SO X->SO (km f n X)
 | 0,X,h=>h
 | n+1,X,h=>by
  simp only[km];split
  ·exact h
  exact u9 n _ h.step
theorem nt{f:Func}(hg:gb f):gK f≠[]∧(gK f).length<=128∧∀b∈gK f,0<=b∧b<f.blocks.length:=by
 have h0:=mn hg;have h1:=qQ hg 100000 _ h0.1 h0.2;have h2:=Ke 100000 (cH f) (fun q=>by simp[cH]at q) h1.2;have a1:=h1.1.few;have a2:(iB f 100000 (cH f)).seen.countP id<=(iB f 100000 (cH f)).seen.length:=List.countP_le_length;have a3:=h1.1.len;have a4:=hg.few;exact⟨h2,by unfold gK;omega,h1.1.outs⟩
theorem kC(l:List Int):(l.map aI).map ae.bo=ao (l.map aI):=by
 induction l with
 | nil=>rfl
 | cons a r ih =>
  simp only[List.map_cons,ao,List.flatMap_cons]at ih ⊢;rw[ih];rfl
theorem uH(f:Func)(bt:f.fit):bh Tryz.prog 52 [f.enc] (yw f):=by
 have sL:=il f bt;unfold yw;by_cases hc:aN f=0
 ·rw[if_pos hc];rw[hc]at sL;have hg:=(cq bt hc).gr;have qw:=sn f hg;obtain⟨f1,f2,_⟩:=nt hg;have Su:(km f 100000 (gL f)).S=iB f 100000 (cH f):=yP f 100000 (gL f);have hX:=u9 (f:=f) 100000 _ (ml f);obtain⟨X,Vr⟩:∃X,X=km f 100000 (gL f):=⟨_,rfl⟩
  rw[<-Vr]at qw hX Su;have jr:X.S.out=gK f:=by rw[Su];rfl
  unfold bz;obtain⟨l,hl⟩:∃l,l=gK f:=⟨_,rfl⟩
  rw[<-hl]at f1 f2 jr ⊢;have h1:=hX.out;rw[jr,pv,if_neg f1]at h1;obtain⟨h2,h3,h4⟩:=hX.outs (by rw[jr];exact f1);rw[jr]at h2;have br:=hX.up;obtain⟨S,sid,oid,O⟩:=X;simp only at h1 h2 h3 h4 br qw;have Qf:=qL br h2 (by omega);have CY:(O.set oid (.cells (l.reverse.map aI)))[1]?=some (.cells [.os oid l.length 1]):=bm h1 (by omega);have K6:(O.set oid (.cells (l.reverse.map aI)))[oid]?=some (.cells (l.reverse.map aI)):=lP h2;refine zf true 0 Tryz.func52 Tryz.ntmps52 ?_;dsimp only[Tmp,TypeId,slotsOf];refine ay (ah ?_);refine aA 1 0 (.ip none [aI f.name,aw f.blocks]) rfl (by simp[al.aC]) trivial rfl ?_ ?_;rotate_left;simp -dsimp only[simprocAttr,↓aa,zp]
  ·refine cb ?_;refine zi sL ?_;refine ah ?_;refine ay (ah ?_);refine cd rfl ?_;refine cm ?_;refine ay (ah ?_);refine ay ?_;refine .inr (.inl ⟨_,_,qw,.inl (an (zj ?_))⟩);refine ah ?_;refine aS ?_;simp -dsimp only[simprocAttr,↓aa,zp,h1];refine .inr (.inl ⟨_,_,Qf,.inl (an (zj ?_))⟩);refine ah ?_;refine aS ?_;simp -dsimp only[simprocAttr,↓aa,zp,CY];refine ah ?_;refine aA 2 oid (o:=.cells (l.reverse.map aI)) (aT l.reverse) K6 (by simp[al.aC]) trivial rfl (bT.os (cs:=l.reverse.map aI) K6 ?_ ?_ ?_) ?_
   ·intro x hx;obtain⟨c,_,rfl⟩:=List.mem_map.1 hx;rfl
   ·simp
   ·rw[List.drop_zero,List.take_of_length_le (by simp)];exact kC _
   simp -dsimp only[simprocAttr,↓aa,zp];refine aq ?_;simp -dsimp only[simprocAttr,↓aa,zp,zr,Tryz.results52];exact⟨⟨av _ _,trivial⟩,trivial,trivial⟩
  exact bT.mp rfl rfl
 rw[if_neg hc];obtain⟨e,he⟩:∃e,e=aN f:=⟨_,rfl⟩
 rw[<-he]at hc sL ⊢;have m5:decide (e=0)=false:=decide_eq_false hc;refine zf true 0 Tryz.func52 Tryz.ntmps52 ?_;dsimp only[Tmp,TypeId,slotsOf];refine ay (ah ?_);refine aA 1 0 (.ip none [aI f.name,aw f.blocks]) rfl (by simp[al.aC]) trivial rfl ?_ ?_;rotate_left;simp -dsimp only[simprocAttr,↓aa,zp]
 ·refine cb ?_;refine zi sL ?_;refine ah ?_;refine aS ?_;simp -dsimp only[simprocAttr,↓aa,zp,m5];refine ah ?_;refine cN rfl ?_;refine ay (ah ?_);refine aq ?_;simp -dsimp only[simprocAttr,↓aa,zp,zr,Tryz.results52];simp[au,ae.upto]
 exact bT.mp rfl rfl
def mZ(l:List Int)(n:Int):Bool:=l.any fun x=>decide (x=n)
theorem I5{l:List Int}{n:Int}:mZ l n=true↔n∈l:=by
 simp[mZ]
theorem Pg{α:Type}{l:List α}{p:α->Bool}{j:Nat}{x:α}(h:l[j]?=some x):(l.drop j).any p=(p x ||(l.drop (j+1)).any p):=by
 rw[bQ h];rfl
theorem Ao(l:List Int)(n:Int):bh Tryz.prog 15 [aT l,aI n] (.v (.bool (mZ l n))):=by
 obtain⟨R,hR⟩:∃R,R=mZ l n:=⟨_,rfl⟩
 rw[<-hR];unfold mZ at hR;refine zf true 0 Tryz.func15 Tryz.ntmps15 ?_;dsimp only[Tmp,TypeId,slotsOf];refine ay (ah ?_);refine fp 0 rfl (fun yh=>?_);simp only[List.length_map]at yh;refine cb (ah ?_);refine ai (aO (ι:={k:Nat // k<=l.length∧R=(l.drop k).any fun x=>decide (x=n)}) (fun k=>⟨17,[(1,aI n),(4,.v (.bool false)),(7,aT l),(8,aI l.length),(9,aI k.1)],[]⟩) (fun k=>l.length-k.1) ⟨0,by omega,hR⟩ ?_ ?_)
 ·refine zq rfl ?_ ?_;simp -dsimp only[simprocAttr,↓aa,zp,zc];rfl
 rintro⟨k,hk,dW⟩;refine ay (ah ?_);apply ib rfl<;>intro h
 ·refine cm ?_;have aZ:k<l.length:=by simpa using h
  obtain⟨a,ha⟩:∃a,l[k]?=some a:=⟨l[k],by simp[aZ]⟩
  rw[Pg ha]at dW;refine aH (ai ?_);refine aS ?_;simp -dsimp only[simprocAttr,↓aa,zp,ha];refine ah ?_;by_cases yd:a=n
  ·have hd:decide (a=n)=true:=decide_eq_true yd;rw[hd,Bool.true_or]at dW;refine aS ?_;simp -dsimp only[simprocAttr,↓aa,zp,hd];refine ah ?_;refine cN rfl ?_;refine ay (ah ?_);refine aq ?_;simp -dsimp only[simprocAttr,↓aa,zp,zr,Tryz.results15];rw[dW]
  have hd:decide (a=n)=false:=decide_eq_false yd;rw[hd,Bool.false_or]at dW;refine aS ?_;simp -dsimp only[simprocAttr,↓aa,zp,hd];refine ah ?_;refine cd rfl ?_;refine kA ?_;refine cF ?_
  repeat(refine⟨by omega,?_⟩)
  refine fw ?_;refine⟨⟨k+1,aZ,dW⟩,by simp;omega,?_⟩;refine zq rfl ?_ ?_;simp -dsimp only[simprocAttr,↓aa,zp,zc]
  ·exact Sub.int (by simp)
  rfl
 refine aG ?_;simp -dsimp only[bD,ne_eq,Nat.reduceEqDiff,reduceCtorEq];have gU:k=l.length:=by simp at h;omega
 subst gU;rw[List.drop_length]at dW;refine ay (ah ?_);refine aq ?_;simp -dsimp only[simprocAttr,↓aa,zp,zr,Tryz.results15];rw[dW];rfl
def q8(f:Func)(a b:Int):Prop:=∃x∈fY f a,x.block=b
def W2(f:Func):List (Int×Int)->Prop
 | []=>True
 | [p]=>p.1=0
 | p::q::r=>q8 f q.1 p.1∧p.1≠0∧W2 f (q::r)
theorem W2.tail{f:Func}{p:Int×Int}{r:List (Int×Int)}(h:W2 f (p::r)):W2 f r:=by
 cases r with
 | nil=>trivial
 | cons q r=>exact h.2.2
theorem W2.head{f:Func}{b e e':Int}{r:List (Int×Int)}(h:W2 f ((b,e)::r)):W2 f ((b,e')::r):=by
 cases r with
 | nil=>exact h
 | cons q r=>exact h
structure Jn(f:Func)(S:Sr):Prop where
 st:W2 f S.st
 out:∀i v,S.out[i]?=some v->(v≠0∧∃a,q8 f a v∧((∃j,i<j∧S.out[j]?=some a)∨∃e,(a,e)∈S.st))∨(v=0∧S.st=[]∧i+1=S.out.length)
theorem Jn.step{f:Func}(hg:gb f){S:Sr}(hS:zo f S)(h:Jn f S):Jn f (gw f S):=by
 obtain⟨seen,st,out⟩:=S;obtain⟨h1,h2⟩:=h;simp only at h1 h2;cases st with
 | nil=>exact⟨h1,h2⟩
 | cons p r =>
  obtain⟨b,e⟩:=p;have hp:=hS.blk (b,e) (by simp);simp only at hp;have hold:∀i v,out[i]?=some v->v≠0∧∃a,q8 f a v∧((∃j,i<j∧out[j]?=some a)∨∃e',(a,e')∈(b,e)::r):=fun i v hi=>by
   rcases h2 i v hi with q|⟨_,q,_⟩
   ·exact q
   cases q
  simp only[gw];split
  ·refine⟨h1.tail,fun i v hi=>?_⟩;simp only at hi ⊢;by_cases aZ:i<out.length
   ·rw[List.getElem?_append_left aZ]at hi;obtain⟨q0,a,q1,q2⟩:=hold i v hi;refine .inl ⟨q0,a,q1,?_⟩;rcases q2 with⟨j,q2,q3⟩|⟨e',q2⟩
    ·exact .inl ⟨j,q2,by rw[List.getElem?_append_left (I q3)];exact q3⟩
    rcases List.mem_cons.1 q2 with q|q
    ·simp only[Prod.mk.injEq]at q;exact .inl ⟨out.length,aZ,by rw[q.1];simp⟩
    exact .inr ⟨e',q⟩
   have gI:=I hi;simp only[List.length_append,List.length_cons,List.length_nil]at gI;have:i=out.length:=by omega
   subst this;simp at hi;subst hi;cases r with
   | nil=>exact .inr ⟨h1,rfl,by simp⟩
   | cons q r=>exact .inl ⟨h1.2.1,q.1,h1.1,.inr ⟨q.2,by simp⟩⟩
  rename_i he;obtain⟨x,hx,Ll,BT,HR⟩:=hg.next ⟨hp.1,hp.2.1⟩ hp.2.2.1 (by omega)
  split
  ·refine⟨h1.head,fun i v hi=>.inl ?_⟩;obtain⟨q0,a,q1,q2⟩:=hold i v hi;refine⟨q0,a,q1,?_⟩;rcases q2 with q2|⟨e',q2⟩
   ·exact .inl q2
   rcases List.mem_cons.1 q2 with q|q
   ·simp only[Prod.mk.injEq]at q;exact .inr ⟨e+1,by simp[q.1]⟩
   exact .inr ⟨e',by simp[q]⟩
  refine⟨⟨⟨x,List.mem_of_getElem? hx,Ll⟩,by simp only;omega,h1.head⟩,fun i v hi=>.inl ?_⟩;obtain⟨q0,a,q1,q2⟩:=hold i v hi;refine⟨q0,a,q1,?_⟩;rcases q2 with q2|⟨e',q2⟩
  ·exact .inl q2
  rcases List.mem_cons.1 q2 with q|q
  ·simp only[Prod.mk.injEq]at q;exact .inr ⟨e+1,by simp[q.1]⟩
  exact .inr ⟨e',by simp[q]⟩
theorem Jn.run{f:Func}(hg:gb f):∀(n:Nat) (S:Sr),zo f S->Jn f S->Jn f (iB f n S)
 | 0,S,_,h=>h
 | n+1,S,hS,h=>by
  simp only[iB];cases dz:S.st with
  | nil=>simpa[dz]using h
  | cons p r =>
   simp only[List.isEmpty_cons,Bool.false_eq_true,if_false];exact Jn.run hg n _ (om hg hS (by rw[dz];simp)).1 (h.step hg hS)
theorem Jn.start(f:Func):Jn f (cH f):=⟨rfl,fun i v h=>by simp[cH]at h⟩
theorem xf{f:Func}(hg:gb f){n:Nat}{v:Int}(h:(bz f)[n]?=some v):(n=0∧v=0)∨∃a,q8 f a v∧a∈(bz f).take n:=by
 have h0:=mn hg;have h1:=qQ hg 100000 _ h0.1 h0.2;have hJ:=Jn.run hg 100000 _ h0.1 (Jn.start f);have hn:=I h;unfold bz gK at *;generalize iB f 100000 (cH f)=S at *;have hl:n<S.out.length:=by simpa using hn
 rw[List.getElem?_reverse hl]at h;rcases hJ.out _ _ h with⟨_,a,q1,q2⟩|⟨q1,_,q3⟩
 ·rcases q2 with⟨j,q3,q4⟩|⟨e,q3⟩
  ·refine .inr ⟨a,q1,?_⟩;have hj:=I q4;have:(S.out.reverse)[S.out.length-1-j]?=some a:=by
    rw[List.getElem?_reverse (by omega),<-q4];congr 1;omega
   exact List.mem_of_getElem? (i:=S.out.length-1-j) (by rw[List.getElem?_take,if_pos (by omega)];exact this)
  rw[h1.2]at q3;cases q3
 exact .inl ⟨by omega,q1⟩
theorem DO{k:Nat}{ls:List (List Int)}{e:Edge}{j:Nat}{a:Int}(h:a∈ls[j]?.getD []):a∈(gm k ls e)[j]?.getD []:=by
 unfold gm;by_cases q:e.block.toNat=j
 ·subst q;by_cases hl:e.block.toNat<ls.length
  ·rw[List.getElem?_set_self hl];simp[h]
  rw[List.getElem?_eq_none (by omega)]at h;simp at h
 rw[List.getElem?_set_ne q];exact h
theorem pz{k:Nat}{j:Nat}{a:Int}:∀{es:List Edge} {ls:List (List Int)},a∈ls[j]?.getD []->a∈(gD k ls es)[j]?.getD []
 | [],_,h=>h
 | e::r,ls,h=>pz (es:=r) (DO h)
theorem uQ{j:Nat}{a:Int}:∀{bs:List Block} {k:Nat} {ls:List (List Int)},a∈ls[j]?.getD []->a∈(ju k ls bs)[j]?.getD []
 | [],_,_,h=>h
 | b::r,k,ls,h=>uQ (bs:=r) (pz h)
theorem xm{k:Nat}:∀{es:List Edge} {ls:List (List Int)} {x:Edge},x∈es->x.block.toNat<ls.length->(k:Int)∈(gD k ls es)[x.block.toNat]?.getD []
 | [],_,_,h,_=>by cases h
 | e::r,ls,x,h,hl=>by
  show(k:Int)∈(gD k (gm k ls e) r)[x.block.toNat]?.getD [];rcases List.mem_cons.1 h with q|q
  ·subst q;apply pz;unfold gm;rw[List.getElem?_set_self hl];simp
  exact xm q (by rw[xn];exact hl)
theorem xq:∀{bs:List Block} {k i:Nat} {ls:List (List Int)} {b:Block} {x:Edge},bs[i]?=some b->x∈b.term.to->x.block.toNat<ls.length->((k+i:Nat):Int)∈(ju k ls bs)[x.block.toNat]?.getD []
 | [],_,_,_,_,_,h,_,_=>by simp at h
 | c::r,k,i,ls,b,x,h,hx,hl=>by
  cases i with
  | zero =>
   simp only[List.getElem?_cons_zero,Option.some.injEq]at h;subst h;exact uQ (bs:=r) (xm hx hl)
  | succ i =>
   have:=xq (bs:=r) (k:=k+1) (i:=i) (ls:=gD k ls c.term.to) (by simpa using h) hx (by rw[rI];exact hl);rw[show k+(i+1)=k+1+i by omega];exact this
theorem nN{f:Func}{a v:Int}(ha:0<=a∧a<f.blocks.length)(hv:0<=v∧v<f.blocks.length)(h:q8 f a v):a∈(dj f)[v.toNat]?.getD []:=by
 obtain⟨x,hx,Yb⟩:=h;have hb:=ez ha.1 ha.2;have:=xq (bs:=f.blocks) (k:=0) (ls:=List.replicate f.blocks.length []) hb hx (by rw[Yb,List.length_replicate];omega);rw[Yb,Nat.zero_add,Int.toNat_of_nonneg ha.1]at this;exact this
structure Nd(f:Func)(S:Sr):Prop where
 nd:(S.out++S.st.map (·.1)).Nodup
 seen:∀v,v∈S.out++S.st.map (·.1)↔(0<=v∧S.seen[v.toNat]?.getD false=true)
 outs:∀v∈S.out,∀x∈fY f v,S.seen[x.block.toNat]?.getD false=true
 st:∀p∈S.st,∀(j:Nat) x,(j:Int)<p.2->(fY f p.1)[j]?=some x->S.seen[x.block.toNat]?.getD false=true
theorem getD_set_mono{l:List Bool}{k j:Nat}(h:l[j]?.getD false=true):(l.set k true)[j]?.getD false=true:=by
 have hj:j<l.length:=by
  refine Classical.byContradiction fun q=>?_;rw[List.getElem?_eq_none (by omega)]at h;cases h
 by_cases e:k=j
 ·subst e;rw[List.getElem?_set_self hj];rfl
 rw[List.getElem?_set_ne e];exact h
theorem Nd.step{f:Func}(hg:gb f){S:Sr}(hS:zo f S)(h:Nd f S):Nd f (gw f S):=by
 obtain⟨seen,st,out⟩:=S;obtain⟨h1,h2,h3,h4⟩:=h;simp only at h1 h2 h3 h4;cases st with
 | nil=>exact⟨h1,h2,h3,h4⟩
 | cons p r =>
  obtain⟨b,e⟩:=p;have hp:=hS.blk (b,e) (by simp);simp only at hp;have hlen:=hS.len;simp only at hlen;simp only[gw];split
  ·rename_i he;refine⟨?_,fun v=>?_,fun v hv x hx=>?_,fun q hq=>h4 q (by simp[hq])⟩
   ·simp only[List.append_assoc,List.cons_append,List.nil_append];simpa using h1
   ·rw[<-h2 v];simp only[List.append_assoc,List.cons_append,List.nil_append,List.map_cons]
   simp only at hv ⊢;rcases List.mem_append.1 hv with q|q
   ·exact h3 v q x hx
   rw[List.mem_singleton.1 q]at hx;obtain⟨j,hj⟩:=List.getElem?_of_mem hx;have:=I hj;exact h4 (b,e) (by simp) j x (by simp only;omega) hj
  rename_i he;obtain⟨x,hx,Ll,BT,HR⟩:=hg.next ⟨hp.1,hp.2.1⟩ hp.2.2.1 (by omega)
  split
  ·rename_i hs;refine⟨by simpa using h1,fun v=>by simpa using h2 v,h3,fun q hq j y hj hy=>?_⟩;simp only at hq ⊢;rcases List.mem_cons.1 hq with q'|q'
   ·subst q';simp only at hj hy;by_cases jX:(j:Int)<e
    ·exact h4 (b,e) (by simp) j y jX hy
    have:j=e.toNat:=by omega
    subst this;rw[hx]at hy;simp only[Option.some.injEq]at hy;subst hy;rw[Ll];exact hs
   exact h4 q (by simp[q']) j y hj hy
  rename_i hs;have ZI:iS f b e ∉ out++(b::r.map (·.1)):=fun hm=>by
   have:=(h2 (iS f b e)).1 (by simpa using hm);exact hs this.2
  have hk:(iS f b e).toNat<seen.length:=by omega
  refine⟨?_,fun v=>?_,fun v hv y hy=>getD_set_mono (h3 v hv y hy),fun q hq j y hj hy=>?_⟩
  ·simp only[List.map_cons]at h1 ⊢;rw[List.nodup_append]at h1 ⊢;simp only[List.mem_append,not_or]at ZI;refine⟨h1.1,List.nodup_cons.2 ⟨ZI.2,h1.2.1⟩,fun a ha c hc=>?_⟩;rcases List.mem_cons.1 hc with q|q
   ·subst q;exact fun e=>ZI.1 (e ▸ ha)
   exact h1.2.2 a ha c q
  ·simp only[List.map_cons];have K6:=h2 v;simp only[List.map_cons]at K6;by_cases e1:v=iS f b e
   ·subst e1;rw[List.getElem?_set_self hk];simp;omega
   have:v∈out++iS f b e::b::r.map (·.1)↔v∈out++(b::r.map (·.1)):=by
    simp only[List.mem_append,List.mem_cons,e1,false_or]
   rw[this,K6];by_cases h0:0<=v
   ·rw[List.getElem?_set_ne (by omega)]
   simp[h0]
  simp only at hq ⊢;rcases List.mem_cons.1 hq with q'|q'
  ·subst q';simp only at hj;omega
  rcases List.mem_cons.1 q' with q'|q'
  ·subst q';simp only at hj hy;by_cases jX:(j:Int)<e
   ·exact getD_set_mono (h4 (b,e) (by simp) j y jX hy)
   have:j=e.toNat:=by omega
   subst this;rw[hx]at hy;simp only[Option.some.injEq]at hy;subst hy;rw[Ll,List.getElem?_set_self hk];rfl
  exact getD_set_mono (h4 q (by simp[q']) j y hj hy)
theorem Nd.run{f:Func}(hg:gb f):∀(n:Nat) (S:Sr),zo f S->Nd f S->Nd f (iB f n S)
 | 0,S,_,h=>h
 | n+1,S,hS,h=>by
  simp only[iB];cases dz:S.st with
  | nil=>simpa[dz]using h
  | cons p r =>
   simp only[List.isEmpty_cons,Bool.false_eq_true,if_false];exact Nd.run hg n _ (om hg hS (by rw[dz];simp)).1 (h.step hg hS)
theorem Nd.start{f:Func}(hg:gb f):Nd f (cH f):=by
 have hl:=List.length_pos_iff.2 hg.ne;refine⟨by simp[cH],fun v=>?_,fun v hv=>by simp[cH]at hv,fun p hp j x hj=>?_⟩
 ·simp only[cH,List.nil_append,List.map_cons,List.map_nil,List.mem_singleton];constructor
  ·intro e;subst e;refine⟨by omega,?_⟩;rw[Int.toNat_zero,List.getElem?_set_self (by simpa using hl)];rfl
  rintro⟨h0,h⟩;refine Classical.byContradiction fun q=>?_;rw[List.getElem?_set_ne (by omega),List.getElem?_replicate]at h;split at h<;>simp at h
 simp only[cH,List.mem_singleton]at hp;subst hp;simp only at hj;omega
theorem kd{l:List Int}{n:Int}:(0<=m9 l n↔n∈l)∧(0<=m9 l n->l[(m9 l n).toNat]?=some n):=by
 unfold m9;have hm:l.findIdx (· == n)<l.length↔n∈l:=by
  rw[List.findIdx_lt_length];simp
 by_cases h:l.findIdx (· == n)<l.length
 ·rw[if_pos h];refine⟨⟨fun _=>hm.1 h,fun _=>by omega⟩,fun _=>?_⟩;have:=List.findIdx_getElem (w:=h);simp only[beq_iff_eq]at this;rw[Int.toNat_natCast,List.getElem?_eq_getElem h,this]
 rw[if_neg h];exact⟨⟨fun q=>absurd q (by omega),fun q=>absurd (hm.2 q) h⟩,fun q=>absurd q (by omega)⟩
def cU(f:Func)(k:Int):Int:=m9 (bz f) k
structure gX(f:Func):Prop where
 inj:∀a b,0<=cU f a->cU f a=cU f b->a=b
 zero:cU f 0=0
 at_:∀(i:Nat) v,(bz f)[i]?=some v->cU f v=i
 get:∀v,0<=cU f v->(bz f)[(cU f v).toNat]?=some v
 low:∀v,-1<=cU f v∧cU f v<(bz f).length
 fwd:∀v,1<=cU f v->∃a,q8 f a v∧0<=cU f a∧cU f a<cU f v
 next:∀a b,0<=cU f a->q8 f a b->0<=cU f b
 range:∀v,0<=cU f v->0<=v∧v<f.blocks.length
 few:(bz f).length<=128
 pos:0<(bz f).length
theorem dk{f:Func}(hg:gb f):gX f:=by
 obtain⟨g1,g2,g3⟩:=nt hg;have h0:=mn hg;have h1:=qQ hg 100000 _ h0.1 h0.2;have hN:=Nd.run hg 100000 _ h0.1 (Nd.start hg);have HS:(bz f).Nodup:=by
  have:=hN.nd;rw[h1.2]at this;simp only[List.map_nil,List.append_nil]at this;unfold bz List.Nodup;rw[List.pairwise_reverse];exact List.Pairwise.imp (fun h=>Ne.symm h) this
 have iO:∀v,v∈bz f↔v∈gK f:=fun v=>by simp[bz]
 have bI:0<(bz f).length:=by
  have:bz f≠[]:=by simpa[bz]using g1
  exact List.length_pos_iff.2 this
 have fQ:∀v,0<=cU f v->(bz f)[(cU f v).toNat]?=some v:=fun v hv=>kd.2 hv;have pL:∀(i:Nat) v,(bz f)[i]?=some v->cU f v=i:=fun i v hi=>by
  have hm:v∈bz f:=List.mem_of_getElem? hi;have h2:=fQ v (kd.1.2 hm);have h3:0<=cU f v:=kd.1.2 hm;have:=(List.getElem?_inj (I h2) HS).1 (h2.trans hi.symm);omega
 have Mr:∀v,-1<=cU f v∧cU f v<(bz f).length:=fun v=>by
  unfold cU m9;split
  ·omega
  omega
 refine⟨fun a b ha e=>?_,?_,pL,fQ,Mr,fun v hv=>?_,fun a b ha e=>?_,fun v hv=>?_,by simpa[bz]using g2,bI⟩
 ·have h2:=fQ a ha;have h3:=fQ b (by omega);rw[e,h3]at h2;simpa using h2.symm
 ·have:(bz f)[0]?=some (bz f)[0]:=List.getElem?_eq_getElem bI;rcases xf hg this with⟨_,q⟩|⟨a,_,q⟩
  ·have:=pL 0 _ this;rw[q]at this;simpa using this
  simp at q
 ·have h2:=fQ v (by omega);rcases xf hg h2 with⟨q,_⟩|⟨a,q1,q2⟩
  ·omega
  obtain⟨j,hj⟩:=List.getElem?_of_mem q2;rw[List.getElem?_take]at hj;split at hj
  ·have:=pL j a hj;exact⟨a,q1,by omega,by omega⟩
  cases hj
 ·have hm:a∈gK f:=(iO a).1 (kd.1.1 ha);obtain⟨x,hx,Ll⟩:=e;have:=hN.outs a hm x hx;rw[Ll]at this;have hb:0<=b:=by
   have X3:=g3 a hm;have:=hg.eZ _ (eW X3.1 X3.2) x hx;omega
  have h3:=(hN.seen b).2 ⟨hb,this⟩;rw[h1.2]at h3;simp only[List.map_nil,List.append_nil]at h3;exact kd.1.2 ((iO b).2 h3)
 exact g3 v ((iO v).1 (kd.1.1 hv))
def dH(l:List Int)(k:Int):Int:=l[k.toNat]?.getD (-1)
def fT(f:Func):List Int:=(List.range f.blocks.length).map fun(k:Nat)=>cU f k
theorem py{f:Func}{k:Int}(h0:0<=k)(h1:k<f.blocks.length):(fT f)[k.toNat]?=some (cU f k):=by
 unfold fT;rw[List.getElem?_map,List.getElem?_range (by omega)];simp only[Option.map_some,Option.some.injEq];congr 1;omega
def iw(P O:List Int):Nat->Int->Int->Int
 | 0,a,_=>a
 | n+1,a,b=>if a=b then a else if dH P b<dH P a then iw P O n (dH O a) b else iw P O n a (dH O b)
def cM(P O:List Int)(next p:Int):Int:=if dH P p<0∨(p≠0∧dH O p<0)then next else if next<0 then p else iw P O 300 next p
def gV(P O:List Int)(ps:List Int):Int:=ps.foldl (cM P O) (-1)
def bB(f:Func)(k:Int):List Int:=(dj f)[k.toNat]?.getD []
structure Dm where
 over:List Int
 again:Bool
def ew(f:Func)(S:Dm)(z:Int):Dm:=if gV (fT f) S.over (bB f z)≠dH S.over z then⟨S.over.set z.toNat (gV (fT f) S.over (bB f z)),true⟩else S
def HL(f:Func)(S:Dm):Dm:=((bz f).drop 1).foldl (ew f) S
def Eu(f:Func):Nat->Dm->Dm
 | 0,S=>S
 | n+1,S=>if S.again then Eu f n (HL f ⟨S.over,false⟩)else S
def CJ(f:Func):Dm:=⟨List.replicate f.blocks.length (-1),true⟩
def dn(f:Func):List Int:=(Eu f 30000 (CJ f)).over
inductive iD(O:List Int)(d:Int):Int->Prop
 | refl:iD O d d
 | up {k:Int} (h:0<=dH O k) (a:iD O d (dH O k)):iD O d k
def jW(O:List Int)(k:Int):Prop:=k=0∨0<=dH O k
structure Tr(f:Func)(O:List Int):Prop where
 len:O.length=f.blocks.length
 root:dH O 0=-1
 up:∀k,0<=dH O k->0<=cU f (dH O k)∧cU f (dH O k)<cU f k∧jW O (dH O k)
 low:∀k,-1<=dH O k
theorem iD.trans{O:List Int}{a b c:Int}(h1:iD O a b)(h2:iD O b c):iD O a c:=by
 induction h2 with
 | refl=>exact h1
 | up h _ ih=>exact .up h ih
theorem Tr.y5{f:Func}(hw:gX f){O:List Int}(h:Tr f O){k:Int}(hk:jW O k):0<=cU f k:=by
 rcases hk with q|q
 ·rw[q,hw.zero];omega
 have:=h.up k q;omega
theorem iD.pl{f:Func}(hw:gX f){O:List Int}(h:Tr f O){d k:Int}(hk:jW O k)(ha:iD O d k):cU f d<=cU f k∧0<=cU f d∧jW O d∧(cU f d=cU f k->d=k):=by
 induction ha with
 | refl=>exact⟨Int.le_refl _,h.y5 hw hk,hk,fun _=>rfl⟩
 | up hu _ ih =>
  have br:=h.up _ hu;obtain⟨h1,h2,h3,_⟩:=ih br.2.2;exact⟨by omega,h2,h3,fun e=>by omega⟩
theorem iD.comp{O:List Int}{a d p:Int}(ha:iD O a p)(hd:iD O d p):iD O a d∨iD O d a:=by
 induction ha with
 | refl=>exact .inr hd
 | @up k h ha ih =>
  cases hd with
  | refl=>exact .inl (.up h ha)
  | up _ hd=>exact ih hd
theorem yq{f:Func}(hw:gX f){O:List Int}(h:Tr f O):∀(n:Nat) (a b:Int),jW O a->jW O b->cU f a+cU f b<n ->
  iD O (iw (fT f) O n a b) a∧iD O (iw (fT f) O n a b) b∧∀d,iD O d a->iD O d b->iD O d (iw (fT f) O n a b)
 | 0,a,b,ha,hb,hn=>by
  have:=h.y5 hw ha;have:=h.y5 hw hb;omega
 | n+1,a,b,ha,hb,hn=>by
  have pa:=h.y5 hw ha;have pb:=h.y5 hw hb;have ra:=hw.range a pa;have rb:=hw.range b pb;have ea:dH (fT f) a=cU f a:=by unfold dH;rw[py ra.1 ra.2];rfl
  have eb:dH (fT f) b=cU f b:=by unfold dH;rw[py rb.1 rb.2];rfl
  simp only[iw];rw[ea,eb];split
  ·rename_i e;subst e;exact⟨.refl,.refl,fun d h _=>h⟩
  rename_i bI;split
  ·rename_i aZ;have hu:0<=dH O a:=by
    rcases ha with q|q
    ·rw[q,hw.zero]at aZ;omega
    exact q
   obtain⟨u1,u2,u3⟩:=h.up a hu;obtain⟨i1,i2,i3⟩:=yq hw h n (dH O a) b u3 hb (by omega);refine⟨.up hu i1,i2,fun d d1 d2=>?_⟩;cases d1 with
   | refl =>
    have:=(d2.pl hw h hb).1;omega
   | up _ d1=>exact i3 d d1 d2
  rename_i aZ;have hu:0<=dH O b:=by
   rcases hb with q|q
   ·rw[q,hw.zero]at aZ;have:a=0:=hw.inj a 0 pa (by rw[hw.zero];omega);exact absurd (this.trans q.symm) bI
   exact q
  obtain⟨u1,u2,u3⟩:=h.up b hu;obtain⟨i1,i2,i3⟩:=yq hw h n a (dH O b) ha u3 (by omega);refine⟨i1,.up hu i2,fun d d1 d2=>?_⟩;cases d2 with
  | refl =>
   have:=d1.pl hw h ha;have:cU f b=cU f a:=by omega
   exact absurd (hw.inj b a pb this).symm bI
  | up _ d2=>exact i3 d d1 d2
theorem AW{f:Func}(hw:gX f){O:List Int}(h:Tr f O){a b:Int}(ha:jW O a)(hb:jW O b) :
  iD O (iw (fT f) O 300 a b) a∧iD O (iw (fT f) O 300 a b) b∧∀d,iD O d a->iD O d b->iD O d (iw (fT f) O 300 a b):=by
 have h1:=(hw.low a).2;have h2:=(hw.low b).2;have h3:=hw.few;exact yq hw h 300 a b ha hb (by omega)
theorem jW.nn{f:Func}(hw:gX f){O:List Int}(h:Tr f O){k:Int}(hk:jW O k):0<=k:=(hw.range k (h.y5 hw hk)).1
theorem np{f:Func}(hw:gX f){O:List Int}(h:Tr f O){p:Int}(hp:0<=p∧p<f.blocks.length):(dH (fT f) p<0∨(p≠0∧dH O p<0))↔¬jW O p:=by
 have ep:dH (fT f) p=cU f p:=by unfold dH;rw[py hp.1 hp.2];rfl
 rw[ep];constructor
 ·rintro(q|⟨q1,q2⟩) ha
  ·have:=h.y5 hw ha;omega
  rcases ha with r|r
  ·exact q1 r
  omega
 intro ha;refine .inr ⟨fun e=>ha (.inl e),?_⟩;exact Classical.byContradiction fun q=>ha (.inr (by omega))
theorem nT{f:Func}(hw:gX f){O:List Int}(h:Tr f O):∀(ps:List Int) (acc:Int),(∀p∈ps,0<=p∧p<f.blocks.length)->(acc=-1∨jW O acc) ->
  (ps.foldl (cM (fT f) O) acc=-1∧acc=-1∧∀p∈ps,¬jW O p) ∨
  (jW O (ps.foldl (cM (fT f) O) acc)∧(acc≠-1->iD O (ps.foldl (cM (fT f) O) acc) acc)∧(∀p∈ps,jW O p->iD O (ps.foldl (cM (fT f) O) acc) p) ∧
   ∀d,(acc≠-1->iD O d acc)->(∀p∈ps,jW O p->iD O d p)->iD O d (ps.foldl (cM (fT f) O) acc))
 | [],acc,_,rr=>by
  rcases rr with q|q
  ·exact .inl ⟨q,q,by simp⟩
  refine .inr ⟨q,fun _=>.refl,by simp,fun d h1 _=>h1 ?_⟩;have:=q.nn hw h;omega
 | p::r,acc,mI,rr=>by
  have hp:=mI p (by simp);have hr:∀p∈r,0<=p∧p<f.blocks.length:=fun q hq=>mI q (by simp[hq]);rw[List.foldl_cons];by_cases ha:jW O p
  ·have P2:=fun q=>(np hw h hp).1 q ha;have hs:cM (fT f) O acc p=if acc<0 then p else iw (fT f) O 300 acc p:=by
    unfold cM;rw[if_neg P2]
   rcases rr with q|q
   ·have Dd:cM (fT f) O acc p=p:=by rw[hs,if_pos (by omega)]
    rw[Dd];rcases nT hw h r p hr (.inr ha)with⟨_,i2,_⟩|⟨i1,i2,i3,i4⟩
    ·have:=ha.nn hw h;omega
    have GJ:p≠-1:=by omega
    refine .inr ⟨i1,fun e=>absurd q e,fun x hx AL=>?_,fun d _ h2=>i4 d (fun _=>h2 p (by simp) ha) fun x hx AL=>h2 x (by simp[hx]) AL⟩;rcases List.mem_cons.1 hx with e|e
    ·subst e;exact i2 GJ
    exact i3 x e AL
   have hq:=q.nn hw h;have Dd:cM (fT f) O acc p=iw (fT f) O 300 acc p:=by rw[hs,if_neg (by omega)]
   rw[Dd];obtain⟨m1,m2,m3⟩:=AW hw h q ha;have Tj:=(m1.pl hw h q).2.2.1;rcases nT hw h r _ hr (.inr Tj)with⟨_,i2,_⟩|⟨i1,i2,i3,i4⟩
   ·have:=Tj.nn hw h;omega
   have XQ:iw (fT f) O 300 acc p≠-1:=by have:=Tj.nn hw h;omega
   refine .inr ⟨i1,fun _=>(i2 XQ).trans m1,fun x hx AL=>?_,fun d h1 h2=>i4 d (fun _=>m3 d (h1 (by omega)) (h2 p (by simp) ha)) fun x hx AL=>h2 x (by simp[hx]) AL⟩;rcases List.mem_cons.1 hx with e|e
   ·subst e;exact(i2 XQ).trans m2
   exact i3 x e AL
  have hs:cM (fT f) O acc p=acc:=by
   unfold cM;rw[if_pos ((np hw h hp).2 ha)]
  rw[hs];rcases nT hw h r acc hr rr with⟨i1,i2,i3⟩|⟨i1,i2,i3,i4⟩
  ·refine .inl ⟨i1,i2,fun x hx=>?_⟩;rcases List.mem_cons.1 hx with e|e
   ·subst e;exact ha
   exact i3 x e
  refine .inr ⟨i1,i2,fun x hx AL=>?_,fun d h1 h2=>i4 d h1 fun x hx AL=>h2 x (by simp[hx]) AL⟩;rcases List.mem_cons.1 hx with e|e
  ·subst e;exact absurd AL ha
  exact i3 x e AL
theorem Hj{k:Nat}{ls:List (List Int)}{e:Edge}{j:Nat}{a:Int}(h:a∈(gm k ls e)[j]?.getD []):a∈ls[j]?.getD []∨(a=k∧j=e.block.toNat):=by
 unfold gm at h;by_cases q:e.block.toNat=j
 ·subst q;by_cases hl:e.block.toNat<ls.length
  ·rw[List.getElem?_set_self hl]at h;simp only[Option.getD_some,List.mem_append,List.mem_singleton]at h;rcases h with h|h
   ·exact .inl h
   exact .inr ⟨h,rfl⟩
  rw[List.getElem?_eq_none (by simp;omega)]at h;simp at h
 rw[List.getElem?_set_ne q]at h;exact .inl h
theorem xl{k:Nat}{j:Nat}{a:Int}:∀{es:List Edge} {ls:List (List Int)},a∈(gD k ls es)[j]?.getD []->a∈ls[j]?.getD []∨(a=k∧∃e∈es,j=e.block.toNat)
 | [],_,h=>.inl h
 | e::r,ls,h=>by
  have h:a∈(gD k (gm k ls e) r)[j]?.getD []:=h;rcases xl h with q|⟨q1,x,q2,q3⟩
  ·rcases Hj q with q|⟨q1,q2⟩
   ·exact .inl q
   exact .inr ⟨q1,e,by simp,q2⟩
  exact .inr ⟨q1,x,by simp[q2],q3⟩
theorem xp{j:Nat}{a:Int}:∀{bs:List Block} {k:Nat} {ls:List (List Int)},a∈(ju k ls bs)[j]?.getD []->a∈ls[j]?.getD []∨∃(i:Nat) (b:Block),bs[i]?=some b∧a=(k+i:Nat)∧∃e∈b.term.to,j=e.block.toNat
 | [],_,_,h=>.inl h
 | b::r,k,ls,h=>by
  rw[ju]at h;rcases xp h with q|⟨i,c,q1,q2,q3⟩
  ·rcases xl q with q|⟨q1,q2⟩
   ·exact .inl q
   exact .inr ⟨0,b,rfl,q1,q2⟩
  exact .inr ⟨i+1,c,q1,by rw[q2];congr 1;omega,q3⟩
theorem iT{f:Func}(hg:gb f){k p:Int}(hk:0<=k)(h:p∈bB f k):(0<=p∧p<f.blocks.length)∧q8 f p k:=by
 rcases xp h with q|⟨i,b,q1,q2,e,q3,q4⟩
 ·rw[List.getElem?_replicate]at q;split at q<;>simp at q
 have hi:=I q1;refine⟨by omega,e,?_,?_⟩
 ·have:aF f p=b:=by simp[aF,show p.toNat=i by omega,q1]
  rw[fY,this];exact q3
 have:=hg.eZ b (List.mem_of_getElem? q1) e q3;omega
structure ku(f:Func)(i:Int)(O:List Int):Prop where
 tr:Tr f O
 y5:∀v,1<=cU f v->cU f v<i->0<=dH O v
 low:∀k,0<=dH O k->∀d,(∀p∈bB f k,jW O p->iD O d p)->iD O d (dH O k)
 fwd:∀k,0<=dH O k->(cU f k<i∨i<=cU f (dH O k))->∃p∈bB f k,jW O p∧cU f p<cU f k∧iD O (dH O k) p
theorem Em{O:List Int}{z nx:Int}(hz:1<=z)(hl:z.toNat<O.length)(k:Int):dH (O.set z.toNat nx) k=if k=z then nx else dH O k:=by
 unfold dH;by_cases e:k=z
 ·subst e;rw[if_pos rfl,List.getElem?_set_self hl];rfl
 rw[if_neg e,List.getElem?_set_ne (by omega)]
theorem wG{f:Func}(hg:gb f)(hw:gX f){i:Int}{O:List Int}(h:ku f i O){z:Int}(hz:cU f z=i)(h1:1<=i) :
  0<=gV (fT f) O (bB f z)∧0<=cU f (gV (fT f) O (bB f z))∧(0<=dH O z->gV (fT f) O (bB f z)=dH O z∨cU f (gV (fT f) O (bB f z))<cU f (dH O z))∧ku f (i+1) (O.set z.toNat (gV (fT f) O (bB f z))) ∧
  (∀p∈bB f z,jW O p->iD O (gV (fT f) O (bB f z)) p):=by
 have wX:=hw.range z (by omega);have WG:1<=z:=by
  refine Classical.byContradiction fun q=>?_;have:z=0:=by omega
  rw[this,hw.zero]at hz;omega
 have ta:z.toNat<O.length:=by rw[h.tr.len];omega
 have mI:∀p∈bB f z,0<=p∧p<f.blocks.length:=fun p hp=>(iT hg (by omega) hp).1;obtain⟨a,Y3,Xp,ha3⟩:=hw.fwd z (by omega);have Y6:=hw.range a Xp;have Mc:a∈bB f z:=nN Y6 ⟨by omega,wX.2⟩ Y3;have Ro:jW O a:=by
  by_cases e:a=0
  ·exact .inl e
  refine .inr (h.y5 a ?_ (by omega));refine Classical.byContradiction fun q=>e (hw.inj a 0 Xp (by rw[hw.zero];omega))
 have Oy:=nT hw h.tr (bB f z) (-1) mI (.inl rfl);obtain⟨nx,ER⟩:∃nx,nx=gV (fT f) O (bB f z):=⟨_,rfl⟩
 rw[show(bB f z).foldl (cM (fT f) O) (-1)=nx from ER.symm]at Oy;rw[<-ER];rcases Oy with⟨_,_,q⟩|⟨n1,_,n3,n4⟩
 ·exact absurd Ro (q a Mc)
 have n4:∀d,(∀p∈bB f z,jW O p->iD O d p)->iD O d nx:=fun d=>n4 d (fun e=>absurd rfl e);have P3:=n1.nn hw h.tr;have XV:=h.tr.y5 hw n1;have GI:cU f nx<i:=by
  have:=(n3 a Mc Ro).pl hw h.tr Ro;omega
 have OI:0<=dH O z->iD O nx (dH O z):=fun Qq=>h.low z Qq nx n3;obtain⟨O',I1⟩:∃O',O'=O.set z.toNat nx:=⟨_,rfl⟩
 have pL:∀k,dH O' k=if k=z then nx else dH O k:=fun k=>by rw[I1];exact Em WG ta k
 rw[<-I1];have vJ:∀k,jW O k->jW O' k:=fun k hk=>by
  rcases hk with q|q
  ·exact .inl q
  refine .inr ?_;rw[pL];split
  ·exact P3
  exact q
 have Xr:∀k,k≠z->jW O' k->jW O k:=fun k hk q=>by
  rcases q with q|q
  ·exact .inl q
  rw[pL,if_neg hk]at q;exact .inr q
 have E6:∀{d p},jW O p->cU f p<i->iD O d p->iD O' d p:=fun {d p} hp aZ ha=>by
  induction ha with
  | refl=>exact .refl
  | @up k hk _ ih =>
   have hu:=h.tr.up k hk;have OD:k≠z:=fun e=>by rw[e]at aZ;omega
   have e:dH O' k=dH O k:=by rw[pL,if_neg OD]
   refine .up (by rw[e];exact hk) ?_;rw[e];exact ih hu.2.2 (by omega)
 have Qs:∀{d p},jW O p->cU f p<i->iD O' d p->iD O d p:=fun {d p} hp aZ ha=>by
  induction ha with
  | refl=>exact .refl
  | @up k hk _ ih =>
   have OD:k≠z:=fun e=>by rw[e]at aZ;omega
   have e:dH O' k=dH O k:=by rw[pL,if_neg OD]
   rw[e]at hk ih;have hu:=h.tr.up k hk;exact .up hk (ih hu.2.2 (by omega))
 have OY:∀{a p},jW O p->i<=cU f a->iD O a p->iD O' a p:=fun {a p} hp hle ha=>by
  induction ha with
  | refl=>exact .refl
  | @up k hk ha ih =>
   have hu:=h.tr.up k hk;have Wb:=ha.pl hw h.tr hu.2.2;have OD:k≠z:=fun e=>by rw[e]at hu Wb;omega
   have e:dH O' k=dH O k:=by rw[pL,if_neg OD]
   refine .up (by rw[e];exact hk) ?_;rw[e];exact ih hu.2.2
 have shrink:∀{d p},jW O p->iD O' d p->iD O d p:=fun {d p} hp ha=>by
  induction ha with
  | refl=>exact .refl
  | @up k hk ha ih =>
   by_cases OD:k=z
   ·subst OD;have e:dH O' k=nx:=by rw[pL,if_pos rfl]
    rw[e]at ha;have Qq:0<=dH O k:=by
     rcases hp with q|q
     ·omega
     exact q
    exact .up Qq ((Qs n1 GI ha).trans (OI Qq))
   have e:dH O' k=dH O k:=by rw[pL,if_neg OD]
   rw[e]at hk ih;exact .up hk (ih (h.tr.up k hk).2.2)
 have Ql:Tr f O':=by
  refine⟨by rw[I1,List.length_set];exact h.tr.len,by rw[pL,if_neg (by omega)];exact h.tr.root,fun k hk=>?_,fun k=>?_⟩
  ·rw[pL]at hk ⊢;split
   ·rename_i e;subst e;exact⟨XV,by omega,vJ _ n1⟩
   rename_i e;rw[if_neg e]at hk;have:=h.tr.up k hk;exact⟨this.1,this.2.1,vJ _ this.2.2⟩
  rw[pL];split
  ·omega
  exact h.tr.low k
 refine⟨P3,XV,fun Qq=>?_,⟨Ql,fun v hv hvi=>?_,fun k hk d hd=>?_,fun k hk hc=>?_⟩,n3⟩
 ·have:=OI Qq;have hu:=h.tr.up z Qq;have Wb:=this.pl hw h.tr hu.2.2;by_cases e:cU f nx=cU f (dH O z)
  ·exact .inl (Wb.2.2.2 e)
  exact .inr (by omega)
 ·rw[pL];split
  ·exact P3
  rename_i e;refine h.y5 v hv ?_;refine Classical.byContradiction fun q=>e (hw.inj v z (by omega) (by omega))
 ·rw[pL];have hold:∀p∈bB f k,jW O p->iD O d p:=fun p hp pM=>shrink pM (hd p hp (vJ p pM));split
  ·rename_i e;subst e;exact E6 n1 GI (n4 d hold)
  rename_i e;rw[pL,if_neg e]at hk;have Ow:=h.low k hk d hold;have hu:=h.tr.up k hk;by_cases pM:cU f (dH O k)<i
  ·exact E6 hu.2.2 pM Ow
  obtain⟨p,hp,P',_,vR⟩:=h.fwd k hk (.inr (by omega));have mN:=OY P' (by omega) vR;have SJ:=hd p hp (vJ p P');rcases mN.comp SJ with q|q
  ·have q':=q.pl hw Ql (SJ.pl hw Ql (vJ p P')).2.2.1;have EJ:=Ow.pl hw h.tr hu.2.2;have:d=dH O k:=EJ.2.2.2 (by omega);rw[this];exact .refl
  exact q
 rw[pL]at hc ⊢;by_cases e:k=z
 ·subst e;rw[if_pos rfl];exact⟨a,Mc,vJ a Ro,by omega,E6 Ro (by omega) (n3 a Mc Ro)⟩
 rw[if_neg e]at hc ⊢;rw[pL,if_neg e]at hk;have hku:=h.tr.up k hk;rcases hc with q|q
 ·have Rx:cU f k<i:=by
   refine Classical.byContradiction fun r=>e (hw.inj k z (by omega) (by omega))
  obtain⟨p,hp,pM,s7,vR⟩:=h.fwd k hk (.inl Rx);exact⟨p,hp,vJ p pM,s7,E6 pM (by omega) vR⟩
 obtain⟨p,hp,pM,s7,vR⟩:=h.fwd k hk (.inr (by omega));exact⟨p,hp,vJ p pM,s7,OY pM (by omega) vR⟩
def MX(f:Func)(o:Int):Nat:=if o<0 then 200 else(cU f o).toNat
def Dm.weight(f:Func)(S:Dm):Nat:=(S.over.map (MX f)).sum
theorem Ht{l:List Int}{k:Nat}{x:Int}(h:l[k]?=some x):l.set k x=l:=by
 obtain⟨aZ,e⟩:=List.getElem?_eq_some_iff.1 h;rw[<-e,List.set_getElem_self]
theorem rn{f:Func}(hg:gb f)(hw:gX f){i:Int}{S:Dm}(h:ku f i S.over){z:Int}(hz:cU f z=i)(h1:1<=i) :
  ku f (i+1) (ew f S z).over∧(ew f S z).weight f<=S.weight f∧((ew f S z).again=true->S.again=true∨(ew f S z).weight f<S.weight f) ∧
  ((ew f S z).again=false->ew f S z=S∧gV (fT f) S.over (bB f z)=dH S.over z):=by
 obtain⟨s1,s2,s3,s4,_⟩:=wG hg hw h hz h1;have wX:=hw.range z (by omega);obtain⟨o,ho⟩:∃o,S.over[z.toNat]?=some o:=⟨S.over[z.toNat]'(by rw[h.tr.len];omega),List.getElem?_eq_getElem _⟩
 have Ld:dH S.over z=o:=by simp[dH,ho]
 unfold ew;generalize gV (fT f) S.over (bB f z)=nx at *;split
 ·rename_i bI;have aZ:MX f nx<MX f o:=by
   have hl:=(hw.low nx).2;have hf:=hw.few;unfold MX;rw[if_neg (by omega)];split
   ·omega
   rw[Ld]at s3 bI;rcases s3 (by omega)with q|q
   ·exact absurd q bI
   omega
  have hs:=FJ (l:=S.over.map (MX f)) (k:=z.toNat) (x:=MX f nx) (y:=MX f o) (by simp[ho]);rw[<-List.map_set]at hs;simp only[Dm.weight];exact⟨s4,by omega,fun _=>.inr (by omega),fun q=>by cases q⟩
 rename_i bI;have bI:nx=dH S.over z:=by simpa using bI
 have:S.over.set z.toNat nx=S.over:=Ht (by rw[bI,Ld];exact ho);rw[this]at s4;exact⟨s4,Nat.le_refl _,fun q=>.inl q,fun _=>⟨rfl,bI⟩⟩
theorem IB{f:Func}(hg:gb f)(hw:gX f):∀(l:List Int) (i:Nat) {S:Dm},1<=i->(∀(j:Nat) z,l[j]?=some z->cU f z=i+j)->ku f i S.over ->
  ku f (i+l.length:Nat) (l.foldl (ew f) S).over∧(l.foldl (ew f) S).weight f<=S.weight f∧((l.foldl (ew f) S).again=true->S.again=true∨(l.foldl (ew f) S).weight f<S.weight f) ∧
  ((l.foldl (ew f) S).again=false->l.foldl (ew f) S=S∧∀z∈l,gV (fT f) S.over (bB f z)=dH S.over z)
 | [],i,S,_,_,h=>⟨h,Nat.le_refl _,fun q=>.inl q,fun _=>⟨rfl,by simp⟩⟩
 | z::r,i,S,h1,hl,h=>by
  have hz:=hl 0 z rfl;obtain⟨a1,a2,a3,a4⟩:=rn hg hw h (z:=z) (by rw[hz];omega) (by omega);have hr:∀(j:Nat) z,r[j]?=some z->cU f z=((i+1:Nat):Int)+j:=fun j y hj=>by
   rw[hl (j+1) y hj];omega
  have Rh:ku f ((i+1:Nat):Int) (ew f S z).over:=by
   rw[show((i+1:Nat):Int)=(i:Int)+1 by omega];exact a1
  obtain⟨b1,b2,b3,b4⟩:=IB hg hw r (i+1) (by omega) hr Rh;rw[List.foldl_cons];refine⟨by rw[List.length_cons,show i+(r.length+1)=i+1+r.length by omega];exact b1,by omega,fun q=>?_,fun q=>?_⟩
  ·rcases b3 q with q|q
   ·rcases a3 q with q|q
    ·exact .inl q
    exact .inr (by omega)
   exact .inr (by omega)
  obtain⟨c1,c2⟩:=b4 q;rw[c1]at q;obtain⟨d1,d2⟩:=a4 q;rw[d1]at c1 c2;rw[d1];refine⟨c1,fun y hy=>?_⟩;rcases List.mem_cons.1 hy with e|e
  ·subst e;exact d2
  exact c2 y e
theorem pd{f:Func}(hw:gX f){O:List Int}(h:ku f (bz f).length O):ku f 1 O :=
 ⟨h.tr,fun v h1 h2=>absurd h1 (by omega),h.low,fun k hk _=>h.fwd k hk (.inl (hw.low k).2)⟩
theorem CI{f:Func}(hg:gb f)(hw:gX f){S:Dm}(h:ku f 1 S.over) :
  ku f (bz f).length (HL f S).over∧(HL f S).weight f<=S.weight f∧((HL f S).again=true->S.again=true∨(HL f S).weight f<S.weight f) ∧
  ((HL f S).again=false->HL f S=S∧∀z∈(bz f).drop 1,gV (fT f) S.over (bB f z)=dH S.over z):=by
 have hp:=hw.pos;have:=IB hg hw ((bz f).drop 1) 1 (S:=S) (by omega) (fun j z hj=>by
  rw[List.getElem?_drop]at hj;rw[hw.at_ _ _ hj];omega) h
 rw[List.length_drop,show 1+((bz f).length-1)=(bz f).length by omega]at this;exact this
theorem zV{f:Func}{S:Dm}(h:S.again=false)(n:Nat):Eu f n S=S:=by
 cases n with
 | zero=>rfl
 | succ n=>simp[Eu,h]
theorem IC{f:Func}(hg:gb f)(hw:gX f):∀(n:Nat) {S:Dm},ku f 1 S.over->S.again=true->S.weight f<n ->
  (Eu f n S).again=false∧ku f (bz f).length (Eu f n S).over∧∀z∈(bz f).drop 1,gV (fT f) (Eu f n S).over (bB f z)=dH (Eu f n S).over z
 | 0,S,_,_,hn=>absurd hn (by omega)
 | n+1,S,h,ha,hn=>by
  obtain⟨a1,a2,a3,a4⟩:=CI hg hw (S:=⟨S.over,false⟩) h;have RI:(⟨S.over,false⟩:Dm).weight f=S.weight f:=rfl;rw[RI]at a2 a3;simp only[Eu,ha,if_true];cases hr:(HL f ⟨S.over,false⟩).again with
  | false =>
   obtain⟨b1,b2⟩:=a4 hr;rw[zV hr];refine⟨hr,a1,?_⟩;rw[b1];exact b2
  | true =>
   rcases a3 hr with q|q
   ·cases q
   exact IC hg hw n (pd hw a1) hr (by omega)
theorem CK{f:Func}(hw:gX f):ku f 1 (CJ f).over:=by
 have pL:∀k,dH (CJ f).over k=-1:=fun k=>by
  unfold dH CJ;simp only;rw[List.getElem?_replicate];split<;>rfl
 refine⟨⟨by simp[CJ],pL 0,fun k hk=>?_,fun k=>by rw[pL];omega⟩,fun v h1 h2=>absurd h1 (by omega),fun k hk=>?_,fun k hk=>?_⟩
 all_goals
  rw[pL]at hk;omega
theorem tW{f:Func}(h:f.blocks.length<=128):(CJ f).weight f<=25600:=by
 have hs:=Ki (l:=(CJ f).over.map (MX f)) (b:=200) (fun x hx=>by
  simp only[CJ,List.map_replicate]at hx;rw[(List.mem_replicate.1 hx).2];simp[MX])
 simp only[CJ,List.length_map,List.length_replicate]at hs;simp only[Dm.weight,CJ];omega
structure R3(f:Func):Prop where
 tr:Tr f (dn f)
 y5:∀v,1<=cU f v->0<=dH (dn f) v
 fix:∀v,1<=cU f v->gV (fT f) (dn f) (bB f v)=dH (dn f) v
theorem ko{f:Func}(hg:gb f):R3 f:=by
 have hw:=dk hg;have h0:=tW hg.few;obtain⟨_,h2,h3⟩:=IC hg hw 30000 (CK hw) rfl (by omega);refine⟨h2.tr,fun v hv=>h2.y5 v hv (hw.low v).2,fun v hv=>h3 v ?_⟩;have:=hw.get v (by omega);refine List.mem_of_getElem? (i:=(cU f v).toNat-1) ?_;rw[List.getElem?_drop,<-this];congr 1;omega
theorem R3.Cd{f:Func}(hw:gX f)(h:R3 f){v:Int}(hv:0<=cU f v):jW (dn f) v:=by
 by_cases e:cU f v=0
 ·exact .inl (hw.inj v 0 hv (by rw[hw.zero,e]))
 exact .inr (h.y5 v (by omega))
def RQ(O:List Int):Nat->Int->List Int
 | 0,_=>[]
 | n+1,k=>if k<0 then []else k::RQ O n (dH O k)
theorem Fa{f:Func}(hw:gX f){O:List Int}(h:Tr f O){d:Int}:∀(n:Nat) (k:Int),jW O k->cU f k<n->(d∈RQ O n k↔iD O d k)
 | 0,k,hk,hn=>by
  have:=h.y5 hw hk;omega
 | n+1,k,hk,hn=>by
  have HQ:=hk.nn hw h;simp only[RQ];rw[if_neg (by omega),List.mem_cons];by_cases hu:0<=dH O k
  ·obtain⟨u1,u2,u3⟩:=h.up k hu;rw[Fa hw h n (dH O k) u3 (by omega)];constructor
   ·rintro(q|q)
    ·rw[q];exact .refl
    exact .up hu q
   intro q;cases q with
   | refl=>exact .inl rfl
   | up _ q=>exact .inr q
  have e:RQ O n (dH O k)=[]:=by
   cases n with
   | zero=>rfl
   | succ n=>simp only[RQ];rw[if_pos (by omega)]
  rw[e];constructor
  ·rintro(q|q)
   ·rw[q];exact .refl
   cases q
  intro q;cases q with
  | refl=>exact .inl rfl
  | up q _=>exact absurd q hu
end Go.Proofs.YtjdnhamngpafmaaGreat
namespace Go.Proofs.YtjdnhamngpafmaaGreat
open Go.Av Go.Sort
def gW(l:List Int):List Int:=l.mergeSort fun x y=>decide (x<=y)
theorem kn(l:List Int):(gW l).Perm l:=List.mergeSort_perm _ _
theorem yQ(l:List Int):(gW l).Pairwise (fun x y=>x<=y):=by
 have h:=List.pairwise_mergeSort (le:=fun x y:Int=>decide (x<=y)) (fun a b c h1 h2=>by simp only[decide_eq_true_eq]at h1 h2 ⊢;omega) (fun a b=>by simp only[Bool.or_eq_true,decide_eq_true_eq];omega) l;exact h.imp fun q=>by simpa using q
def wv(P:Program)(f:FuncId):Prop:=∀(blk off cap:Nat) (zs:List Int) (w:World),Go.Sort.Holds (Value.int .i64) w blk off zs.toArray->blk<w.heap.size->zs.length<4611686018427387904 ->
 Calls P f #[.slice (some ⟨blk,off,none⟩) zs.length cap] w fun e w' =>
  e=.returned (.tuple #[])∧∃n os,w'=grow (putRow (Value.int .i64) (Sort.ahead w n) blk off (zs.mergeSort fun x y=>decide (x<=y)).toArray) os
theorem By{P:Program}{f:FuncId}(Rs:Go.Av.Enters P f)(hc:wv P f){O:List al}{id:Nat}{zs:List Int}(ho:O[id]?=some (.cells (zs.map aI)))(hl:zs.length<=1000) :
  ba P f O [.os id zs.length 1] (fun r O'=>r=.cK []∧O'=O.set id (.cells ((gW zs).map aI))):=by
 refine⟨Rs,fun g vs hg y9 GN=>?_⟩;subst y9;obtain⟨h1,h2⟩:=GN;simp only[List.length_singleton]at h1;have EU:vs[0]?=some (vs[0]'(by omega)):=Array.getElem?_eq_getElem _;obtain⟨l,o,cap,he,jo,Ts,ee,hb,gu,Ww⟩:=(h2 0 _ _ rfl EU).rG;have GN:vs = #[.slice (some ⟨l.block,0,none⟩) zs.length cap]:=by
  apply Array.ext
  ·simpa using h1
  intro i VO Oz;have:i=0:=by omega
  subst this;exact Ww
 subst GN;obtain⟨arr,t,hZ,de,hlen,gn,mG,Da⟩:=hg.row ho he;rw[List.length_map]at hlen;have dd:∀(j:Nat) x,zs[j]?=some x->arr[j]?=some (.int .i64 x)∧lV (.int .i64 x):=fun j x hj=>by
  have OA:=I hj;have La:arr[j]?=some (arr[j]'(by omega)):=Array.getElem?_eq_getElem _;obtain⟨e,hf⟩:=(gn j (aI x) _ (by simp[hj]) La).bV;exact⟨by rw[La,e],hf⟩
 have hH:Go.Sort.Holds (Value.int .i64) g.w l.block 0 zs.toArray:=fun j hj=>by
  have gZ:j<zs.length:=by simpa using hj
  refine⟨?_,by simp[World.frozen?,de]⟩;rw[show g.w.cell? ⟨l.block,0+j,none⟩=arr[0+j]? from Go.Av.cell_of_row de (0+j),Nat.zero_add,(dd j _ (List.getElem?_eq_getElem gZ)).1];simp[gZ]
 refine(hc l.block 0 cap zs g.w hH (aW de) (by omega)).mono ?_;rintro e w' ⟨rfl,n,os,yk⟩;have OQ:(zs.mergeSort fun x y=>decide (x<=y))=gW zs:=rfl;rw[OQ]at yk;have hp:=kn zs;obtain⟨ss,zb⟩:∃ss,ss=gW zs:=⟨_,rfl⟩
 rw[<-zb]at yk hp ⊢;have pN:=hp.length_eq;have Vv:=aW de;have fB:∀k,k<g.w.heap.size->w'.heap[k]?=(g.w.heap.modify l.block (onCells (putCells (Value.int .i64) 0 ss.toArray)))[k]?:=fun k hk=>by
  subst yk;simp only[grow,putRow,mapBlock,Sort.ahead];rw[Array.getElem?_append_left (by simpa using hk)]
 have TJ:w'.heap[l.block]?=some (.cells (putCells (Value.int .i64) 0 ss.toArray arr) t (0,0)):=by
  rw[fB _ Vv,Array.getElem?_modify,if_pos rfl,de];rfl
 have Ty:∀k,k<g.w.heap.size->k≠l.block->w'.heap[k]?=g.w.heap[k]?:=fun k hk bI=>by
  rw[fB k hk,Array.getElem?_modify,if_neg (fun q=>bI q.symm)]
 have l6:∀(j:Nat) x,ss[j]?=some x->(putCells (Value.int .i64) 0 ss.toArray arr)[j]?=some (.int .i64 x):=fun j x hj=>by
  have OA:=I hj;have La:arr[j]?=some (arr[j]'(by omega)):=Array.getElem?_eq_getElem _;simp only[putCells,Array.getElem?_mapIdx,La,Option.map_some,Nat.zero_add,Nat.zero_le,true_and,Nat.sub_zero,List.size_toArray];rw[if_pos OA];simp[hj]
 have eC:kB g id (.cells (zs.map aI)) (some l) (.cells (ss.map aI)) w' :=
  {obj:=ho
   os:=by rw[yk];rfl
   tape:=by rw[yk];rfl
   output:=by rw[yk];rfl
   size:=by rw[yk];simp[grow,putRow,mapBlock,Sort.ahead]
   block:=fun k hk bI=>Ty k hk fun e=>bI l he trivial e.symm
   cell:=fun b off x hx hb=>by
    by_cases e:b=l.block
    ·have:=hb l he trivial e.symm;omega
    rw[iL (Ty b (nK hx) e)];exact hx
   place:=fun l1 h1 _=>by
    simp only[Option.some.injEq]at h1;subst h1;exact .inr ⟨l,he,trivial,rfl,Nat.le_refl _⟩
   spare:=fun m h=>by cases h
   plain:=fun _=>⟨by simp[al.aC],he⟩
   gone:=by simp }
 refine⟨g.bp id (some l) (.cells (ss.map aI)) w',.tuple #[],.cK [],rfl,rfl,Le.bp hg eC,Good.bp hg eC ?_ ?_,.cK rfl (by simp),rfl,rfl⟩
 ·refine⟨l,_,t,rfl,hZ,TJ,by simp[putCells,pN];omega,fun j c u hj hu=>?_,fun c hc=>?_,by simpa[putCells]using Da⟩
  ·rw[List.getElem?_map]at hj;obtain⟨x,hx,rfl⟩:=Option.map_eq_some_iff.1 hj;rw[l6 j x hx]at hu;simp only[Option.some.injEq]at hu;subst hu;have hm:x∈zs:=hp.subset (List.mem_of_getElem? hx);obtain⟨i,hi⟩:=List.getElem?_of_mem hm;exact .v (dd i x hi).2
  obtain⟨x,_,rfl⟩:=List.mem_map.1 hc;trivial
 intro l1 h1 _;simp only[Option.some.injEq]at h1;subst h1;rw[yk];simp[grow,putRow,mapBlock,Sort.ahead];omega
end Go.Proofs.YtjdnhamngpafmaaGreat
namespace Go.Proofs.YtjdnhamngpafmaaGreat
open Go.Av
def qH(f:Func):List Int:=gW (bz f)
theorem kf{f:Func}{k:Int}:k∈qH f↔0<=cU f k:=by
 unfold qH cU;rw[(kn _).mem_iff];exact kd.1.symm
theorem uT(f:Func):(qH f).length=(bz f).length:=(kn _).length_eq
def ou(O:List Int)(a b:Int):Bool:=decide (a∈RQ O 300 b)
theorem je{f:Func}(hw:gX f){O:List Int}(h:Tr f O){a b:Int}(hb:jW O b):ou O a b=true↔iD O a b:=by
 have h1:=(hw.low b).2;have h2:=hw.few;unfold ou;rw[decide_eq_true_iff];exact Fa hw h 300 b hb (by omega)
theorem H9{f:Func}(hw:gX f){O:List Int}(h:Tr f O){a k:Int}(hk:jW O k)(bI:k≠a) :
  (0<=dH O k∧jW O (dH O k)∧cU f (dH O k)<cU f k∧ou O a k=ou O a (dH O k))∨(dH O k=-1∧ou O a k=false):=by
 by_cases hu:0<=dH O k
 ·obtain⟨u1,u2,u3⟩:=h.up k hu;refine .inl ⟨hu,u3,u2,?_⟩;rw[Bool.eq_iff_iff,je hw h hk,je hw h u3];constructor
  ·intro q;cases q with
   | refl=>exact absurd rfl bI
   | up _ q=>exact q
  exact fun q=>.up hu q
 have:=h.low k;refine .inr ⟨by omega,?_⟩;rw[<-Bool.not_eq_true,je hw h hk];intro q;cases q with
 | refl=>exact bI rfl
 | up q _=>exact hu q
theorem FX{f:Func}(hw:gX f){O:List Int}(h:Tr f O){k:Int}(hk:jW O k):ou O k k=true:=(je hw h hk).2 .refl
theorem tu{f:Func}(hg:gb f){k p:Int}(hk:1<=cU f k)(hp:p∈bB f k)(hr:0<=cU f p){a:Int}(ha:iD (dn f) a k)(bI:a≠k):iD (dn f) a p:=by
 have hw:=dk hg;have ht:=ko hg;have vN:=hw.range k (by omega);have hu:0<=dH (dn f) k:=ht.y5 k hk;have HN:iD (dn f) a (dH (dn f) k):=by
  cases ha with
  | refl=>exact absurd rfl bI
  | up _ q=>exact q
 refine HN.trans ?_;have Ja:=ht.fix k hk;have cA:∀q∈bB f k,0<=q∧q<f.blocks.length:=fun q hq=>(iT hg vN.1 hq).1;unfold gV at Ja;rcases nT hw ht.tr (bB f k) (-1) cA (.inl rfl)with⟨e,_⟩|⟨_,_,h3,_⟩
 ·omega
 have h4:=h3 p hp (ht.Cd hw hr)
 rwa [Ja]at h4
def rU(f:Func)(k:Int):List (Int×Int):=((fY f k).filter fun x=>ou (dn f) x.block k).map fun x=>(k,x.block)
def ig(f:Func):List (Int×Int):=(qH f).flatMap (rU f)
structure Wl where
 work:List Int
 all:List Int
def nF(f:Func)(S:Wl):Wl :=
 match S.work.getLast? with
 | none=>S
 | some k=>if k∈qH f∧k ∉ S.all then⟨S.work.dropLast++bB f k,S.all++[k]⟩else⟨S.work.dropLast,S.all⟩
def Wl.weight(f:Func)(S:Wl):Nat:=(f.blocks.length-S.all.length)*40000+S.work.length
structure vq(f:Func)(h:Int)(src:List Int)(S:Wl):Prop where
 head:S.all[0]?=some h
 nd:S.all.Nodup
 qZ:∀k∈S.all,0<=k∧k<f.blocks.length
 xu:∀k∈S.all,k=h∨0<=cU f k
 wk:∀k∈S.work,0<=k∧k<f.blocks.length
 ind:∀P:Int->Prop,(∀k∈src,P k)->(∀k,k∈S.all->k≠h->P k->∀p∈bB f k,P p)->(∀k∈S.all,k≠h->P k)∧∀k∈S.work,P k
 cl:∀k∈S.all,k≠h->∀p∈bB f k,0<=cU f p->p∈S.all∨p∈S.work
 src:∀k∈src,0<=cU f k->k∈S.all∨k∈S.work
theorem Dx{l:List Int}{n:Nat}(h:l.Nodup)(hr:∀x∈l,0<=x∧x<n):l.length<=n:=by
 have h1:=nj n (l.map Int.toNat) (by
  unfold List.Nodup;rw[List.pairwise_map];refine List.Pairwise.imp_of_mem (fun ha hb bI e=>bI ?_) h;have:=hr _ ha;have:=hr _ hb;omega) (fun x hx=>by
  obtain⟨y,hy,rfl⟩:=List.mem_map.1 hx;have:=hr y hy;omega)
 simpa using h1
theorem vq.few{f:Func}{h:Int}{src:List Int}{S:Wl}(hS:vq f h src S):S.all.length<=f.blocks.length:=Dx hS.nd hS.qZ
theorem Hi(k j:Nat)(ls:List (List Int))(e:Edge):((gm k ls e)[j]?.getD []).length<=(ls[j]?.getD []).length+1:=by
 unfold gm;rw[List.getElem?_set];split
 ·rename_i q;subst q;split
  ·simp
  simp
 omega
theorem xk(k j:Nat):∀(es:List Edge) (ls:List (List Int)),((gD k ls es)[j]?.getD []).length<=(ls[j]?.getD []).length+es.length
 | [],ls=>by simp[gD]
 | e::r,ls=>by
  have h1:=xk k j r (gm k ls e);have h2:=Hi k j ls e;have h3:gD k ls (e::r)=gD k (gm k ls e) r:=rfl;rw[h3,List.length_cons];omega
theorem xo(j:Nat):∀(bs:List Block) (k:Nat) (ls:List (List Int)),(∀b∈bs,b.term.to.length<=257)->((ju k ls bs)[j]?.getD []).length<=(ls[j]?.getD []).length+bs.length*257
 | [],k,ls,_=>by simp[ju]
 | b::r,k,ls,hb=>by
  have h1:=xo j r (k+1) (gD k ls b.term.to) fun x hx=>hb x (List.mem_cons_of_mem _ hx);have h2:=xk k j b.term.to ls;have h3:=hb b List.mem_cons_self;simp only[ju,List.length_cons];omega
theorem xr{f:Func}(hg:gb f)(k:Int):(bB f k).length<=33000:=by
 have h1:=xo k.toNat f.blocks 0 (List.replicate f.blocks.length []) hg.to;have h2:=hg.few;have h3:((List.replicate f.blocks.length ([]:List Int))[k.toNat]?.getD []).length=0:=by
  rw[List.getElem?_replicate];split<;>rfl
 unfold bB dj;omega
theorem K3{f:Func}{h:Int}(h0:0<=h∧h<f.blocks.length){src:List Int}(hs:∀k∈src,0<=k∧k<f.blocks.length):vq f h src ⟨src,[h]⟩ where
 head:=rfl
 nd:=by simp
 qZ:=fun k hk=>by
  simp only[List.mem_singleton]at hk;rw[hk];exact h0
 xu:=fun k hk=>by
  simp only[List.mem_singleton]at hk;exact .inl hk
 wk:=hs
 ind:=fun P h1 _=>⟨fun k hk bI=>by
  simp only[List.mem_singleton]at hk;exact absurd hk bI,h1⟩
 cl:=fun k hk bI=>by
  simp only[List.mem_singleton]at hk;exact absurd hk bI
 src:=fun k hk _=>.inr hk
theorem kV{l:List Int}{k:Int}(h:l.getLast?=some k):l=l.dropLast++[k]:=by
 have bI:l≠[]:=fun e=>by rw[e]at h;cases h
 rw[List.getLast?_eq_some_getLast bI]at h;simp only[Option.some.injEq]at h;rw[<-h,List.dropLast_concat_getLast]
theorem rP{f:Func}(hg:gb f){h:Int}{src:List Int}{S:Wl}(hS:vq f h src S):vq f h src (nF f S):=by
 unfold nF;cases hk:S.work.getLast? with
 | none=>exact hS
 | some k =>
  have he:=kV hk;have vN:k∈S.work:=by rw[he];simp
  simp only;split
  ·rename_i hc;have PW:=hS.wk k vN;have r6:∀x,x∈S.all++[k]↔x∈S.all∨x=k:=fun x=>by simp
   exact {
    head:=by
     rw[List.getElem?_append_left (I hS.head)];exact hS.head
    nd:=by
     rw[List.nodup_append];refine⟨hS.nd,by simp,fun a ha b hb e=>?_⟩;simp only[List.mem_singleton]at hb;exact hc.2 (hb ▸ e ▸ ha)
    qZ:=fun x hx=>by
     rcases(r6 x).1 hx with q|q
     ·exact hS.qZ x q
     rw[q];exact PW
    xu:=fun x hx=>by
     rcases(r6 x).1 hx with q|q
     ·exact hS.xu x q
     rw[q];exact .inr (kf.1 hc.1)
    wk:=fun x hx=>by
     rcases List.mem_append.1 hx with q|q
     ·exact hS.wk x (List.dropLast_subset _ q)
     exact(iT hg PW.1 q).1
    ind:=fun P h1 h2=>by
     obtain⟨i1,i2⟩:=hS.ind P h1 (fun x hx=>h2 x ((r6 x).2 (.inl hx)));have Xk:=i2 k vN;refine⟨fun x hx bI=>?_,fun x hx=>?_⟩
     ·rcases(r6 x).1 hx with q|q
      ·exact i1 x q bI
      rw[q];exact Xk
     rcases List.mem_append.1 hx with q|q
     ·exact i2 x (List.dropLast_subset _ q)
     by_cases e:k=h
     ·exact absurd (e ▸ List.mem_of_getElem? hS.head) hc.2
     exact h2 k ((r6 k).2 (.inr rfl)) e Xk x q
    cl:=fun x hx bI p hp hr=>by
     rcases(r6 x).1 hx with q|q
     ·rcases hS.cl x q bI p hp hr with r|r
      ·exact .inl ((r6 p).2 (.inl r))
      rw[he]at r;rcases List.mem_append.1 r with r|r
      ·exact .inr (List.mem_append_left _ r)
      exact .inl ((r6 p).2 (.inr (by simpa using r)))
     rw[q]at hp;exact .inr (List.mem_append_right _ hp)
    src:=fun x hx hr=>by
     rcases hS.src x hx hr with r|r
     ·exact .inl ((r6 x).2 (.inl r))
     rw[he]at r;rcases List.mem_append.1 r with r|r
     ·exact .inr (List.mem_append_left _ r)
     exact .inl ((r6 x).2 (.inr (by simpa using r))) }
  rename_i hc;have As:∀p,p∈S.all∨p∈S.work->0<=cU f p->p∈S.all∨p∈S.work.dropLast:=fun p hp hr=>by
   rcases hp with q|q
   ·exact .inl q
   rw[he]at q;rcases List.mem_append.1 q with q|q
   ·exact .inr q
   simp only[List.mem_singleton]at q;subst q;exact .inl (Classical.byContradiction fun z=>hc ⟨kf.2 hr,z⟩)
  exact {
   head:=hS.head
   nd:=hS.nd
   qZ:=hS.qZ
   xu:=hS.xu
   wk:=fun x hx=>hS.wk x (List.dropLast_subset _ hx)
   ind:=fun P h1 h2=>⟨(hS.ind P h1 h2).1,fun x hx=>(hS.ind P h1 h2).2 x (List.dropLast_subset _ hx)⟩
   cl:=fun x hx bI p hp hr=>As p (hS.cl x hx bI p hp hr) hr
   src:=fun x hx hr=>As x (hS.src x hx hr) hr }
theorem oT{f:Func}(hg:gb f){h:Int}{src:List Int}{S:Wl}(hS:vq f h src S)(hw:S.work≠[]):(nF f S).weight f<S.weight f:=by
 have jG:=(rP hg hS).few;unfold nF at jG ⊢;cases hk:S.work.getLast? with
 | none=>exact absurd (List.getLast?_eq_none_iff.1 hk) hw
 | some k =>
  have he:=congrArg List.length (kV hk);have hp:=xr hg k;rw[hk]at jG;simp only[List.length_append,List.length_singleton]at he;simp only at jG ⊢;split
  ·rename_i hc;rw[if_pos hc]at jG;simp only[Wl.weight,List.length_append,List.length_singleton]at jG ⊢;omega
  simp only[Wl.weight];omega
def nE(f:Func):Nat->Wl->Wl
 | 0,S=>S
 | n+1,S=>if S.work.isEmpty then S else nE f n (nF f S)
theorem K1{f:Func}(hg:gb f){h:Int}{src:List Int}(n:Nat):∀(S:Wl),vq f h src S->S.weight f<n->vq f h src (nE f n S)∧(nE f n S).work=[]:=by
 induction n with
 | zero=>exact fun S _ hn=>absurd hn (Nat.not_lt_zero _)
 | succ n ih =>
  intro S hS hn;simp only[nE];split
  ·rename_i e;exact⟨hS,by simpa using e⟩
  rename_i e;have aZ:=oT hg hS (by simpa using e);exact ih _ (rP hg hS) (Nat.lt_of_lt_of_le aZ (Nat.le_of_lt_succ hn))
theorem Eh{f:Func}{S:Wl}(h:S.work=[])(n:Nat):nE f n S=S:=by
 cases n with
 | zero=>rfl
 | succ n=>simp[nE,h]
def iG(f:Func)(h:Int):List Int:=((ig f).filter fun p=>decide (p.2=h)).map (·.1)
def iF(f:Func)(h:Int):List Int:=(nE f 10000000 ⟨iG f h,[h]⟩).all
theorem w9{f:Func}{k h:Int}:(k,h)∈ig f↔0<=cU f k∧(∃x∈fY f k,x.block=h)∧ou (dn f) h k=true:=by
 unfold ig rU;simp only[List.mem_flatMap,List.mem_map,List.mem_filter,kf,Prod.mk.injEq];constructor
 ·rintro⟨z,hz,x,⟨hx,ha⟩,e1,e2⟩;subst e1;subst e2;exact⟨hz,⟨x,hx,rfl⟩,ha⟩
 rintro⟨hz,⟨x,hx,e⟩,ha⟩;subst e;exact⟨k,hz,x,⟨hx,ha⟩,rfl,rfl⟩
theorem n6{f:Func}{k h:Int}:k∈iG f h↔0<=cU f k∧(∃x∈fY f k,x.block=h)∧ou (dn f) h k=true:=by
 rw[<-w9];unfold iG;simp only[List.mem_map,List.mem_filter,decide_eq_true_eq];constructor
 ·rintro⟨⟨a,b⟩,⟨h1,h2⟩,h3⟩;simp only at h2 h3;subst h2;subst h3;exact h1
 intro h1;exact⟨(k,h),⟨h1,rfl⟩,rfl⟩
theorem rf{f:Func}(hg:gb f):(ig f).length<=33000:=by
 have h1:∀l:List Int,(∀k∈l,0<=cU f k)->(l.flatMap (rU f)).length<=l.length*257:=by
  intro l;induction l with
  | nil=>simp
  | cons a r ih =>
   intro hl;have h2:=ih fun k hk=>hl k (List.mem_cons_of_mem _ hk);have hr:=(dk hg).range a (hl a List.mem_cons_self);have h3:(rU f a).length<=257:=by
    have hb:f.blocks[a.toNat]?=some (f.blocks[a.toNat]'(by omega)):=List.getElem?_eq_getElem _;have h4:(fY f a).length<=257:=by
     unfold fY aF;rw[hb];exact hg.to _ (List.mem_of_getElem? hb)
    unfold rU;rw[List.length_map];exact Nat.le_trans (List.length_filter_le _ _) h4
   simp only[List.flatMap_cons,List.length_append,List.length_cons];omega
 have h5:=h1 (qH f) fun k hk=>kf.1 hk;have h6:=uT f;have h7:=(dk hg).few;unfold ig;omega
theorem FH{f:Func}(hg:gb f)(h:Int):(iG f h).length<=33000:=by
 unfold iG;rw[List.length_map];exact Nat.le_trans (List.length_filter_le _ _) (rf hg)
structure U2(f:Func)(h:Int):Prop where
 head:(iF f h)[0]?=some h
 nd:(iF f h).Nodup
 qZ:∀k∈iF f h,0<=k∧k<f.blocks.length
 xu:∀k∈iF f h,k=h∨0<=cU f k
 ind:∀P:Int->Prop,(∀k∈iG f h,P k)->(∀k,k∈iF f h->k≠h->P k->∀p∈bB f k,P p)->∀k∈iF f h,k≠h->P k
 cl:∀k∈iF f h,k≠h->∀p∈bB f k,0<=cU f p->p∈iF f h
 src:∀k∈iG f h,k∈iF f h
theorem xc{f:Func}(hg:gb f){h:Int}(h0:0<=h∧h<f.blocks.length):vq f h (iG f h) ⟨iG f h,[h]⟩∧(⟨iG f h,[h]⟩:Wl).weight f<10000000:=by
 refine⟨K3 h0 fun k hk=>(dk hg).range k (n6.1 hk).1,?_⟩;have h1:=FH hg h;have h2:=hg.few;simp only[Wl.weight,List.length_singleton];omega
theorem nh{f:Func}(hg:gb f){h:Int}(h0:0<=h∧h<f.blocks.length):U2 f h:=by
 obtain⟨s1,s2⟩:=xc hg h0;obtain⟨r1,r2⟩:=K1 hg 10000000 _ s1 s2;exact {
  head:=r1.head
  nd:=r1.nd
  qZ:=r1.qZ
  xu:=r1.xu
  ind:=fun P h1 h2=>(r1.ind P h1 h2).1
  cl:=fun k hk bI p hp hr=>by
   rcases r1.cl k hk bI p hp hr with q|q
   ·exact q
   rw[r2]at q;cases q
  src:=fun k hk=>by
   rcases r1.src k hk (n6.1 hk).1 with q|q
   ·exact q
   rw[r2]at q;cases q }
theorem Fc{f:Func}(hg:gb f){h:Int}(h0:0<=h∧h<f.blocks.length){k:Int}(hk:k∈iF f h):iD (dn f) h k:=by
 have hw:=dk hg;have ht:=ko hg;by_cases e:k=h
 ·rw[e];exact .refl
 refine((nh hg h0).ind (fun k=>0<=cU f k->iD (dn f) h k) (fun s hs _=>?_) (fun x hx bI hP p hp hr=>?_) k hk e) (((nh hg h0).xu k hk).resolve_left e)
 ·have:=n6.1 hs;exact(je hw ht.tr (ht.Cd hw this.1)).1 this.2.2
 have ym:=((nh hg h0).xu x hx).resolve_left bI;have qq:=hP ym;have EW:1<=cU f x:=by
  refine Classical.byContradiction fun q=>?_;have Df:x=0:=hw.inj x 0 ym (by rw[hw.zero];omega);subst Df;cases qq with
  | refl=>exact bI rfl
  | up q _=>rw[ht.tr.root]at q;omega
 exact tu hg EW hp hr qq (Ne.symm bI)
theorem nat_rch{f:Func}(hg:gb f){h s:Int}(hs:s∈iG f h):0<=cU f h:=by
 have hw:=dk hg;have:=n6.1 hs;obtain⟨x,hx,e⟩:=this.2.1;exact hw.next s h this.1 ⟨x,hx,e⟩
structure aX where
 head:Int
 blocks:List Int
 parent:Int
abbrev aX.cells(x:aX):List ae:=[aI x.head,aT x.blocks,aI x.parent]
def jU(l:List aX):List ae:=l.flatMap aX.cells
theorem E9(a b:List aX):jU (a++b)=jU a++jU b:=by simp[jU]
theorem n5(l:List aX):(jU l).length=l.length*3:=by
 induction l with
 | nil=>rfl
 | cons x r ih =>
  have:jU (x::r)=x.cells++jU r:=rfl;rw[this,List.length_append,ih];simp only[aX.cells,List.length_cons,List.length_nil];omega
theorem rC{l:List aX}{i:Nat}{x:aX}(h:l[i]?=some x):jU l=jU (l.take i)++(x.cells++jU (l.drop (i+1)))∧(jU (l.take i)).length=i*3:=by
 have hi:=I h;refine⟨?_,by rw[n5,List.length_take];omega⟩;have e:l=l.take i++x::l.drop (i+1):=by
  rw[<-bQ h,List.take_append_drop]
 have e2:jU (x::l.drop (i+1))=x.cells++jU (l.drop (i+1)):=rfl;rw[<-e2,<-E9,<-e]
theorem Du{l:List aX}{i:Nat}{x:aX}(h:l[i]?=some x):(jU l)[i*3]?=some (aI x.head)∧(jU l)[i*3+1]?=some (aT x.blocks)∧(jU l)[i*3+2]?=some (aI x.parent)∧((jU l).drop (i*3)).take 3=x.cells:=by
 obtain⟨h1,h2⟩:=rC h;rw[h1];refine⟨?_,?_,?_,?_⟩
 ·rw[List.getElem?_append_right (by omega),h2,Nat.sub_self];rfl
 ·rw[List.getElem?_append_right (by omega),h2,show i*3+1-i*3=1 by omega];rfl
 ·rw[List.getElem?_append_right (by omega),h2,show i*3+2-i*3=2 by omega];rfl
 rw[List.drop_left' h2];rfl
theorem MF{l:List aX}{i:Nat}{x:aX}(h:l[i]?=some x)(k:Int):bk (jU l) (i*3+2) [.v (.int .i64 k)]=jU (l.set i ⟨x.head,x.blocks,k⟩):=by
 have hi:=I h;obtain⟨h1,h2⟩:=rC h;have h3:(l.set i ⟨x.head,x.blocks,k⟩)[i]?=some ⟨x.head,x.blocks,k⟩:=List.getElem?_set_self hi;obtain⟨h4,_⟩:=rC h3;rw[h4,List.take_set_of_le (Nat.le_refl _),List.drop_set_of_lt (by omega)];rw[fX _ (by rw[n5];omega),h1,List.set_append_right _ _ (by omega),h2,show i*3+2-i*3=2 by omega];rfl
theorem uA(n:Nat)(l:List aX):au n (jU l):=by
 rw[bZ];intro c hc;simp only[jU,List.mem_flatMap]at hc;obtain⟨x,_,hc⟩:=hc;simp only[aX.cells,List.mem_cons,List.not_mem_nil,or_false]at hc;rcases hc with rfl|rfl|rfl
 ·trivial
 ·exact⟨av _ _,trivial⟩
 trivial
def lz(l:List aX)(i k:Nat):List aX :=
 match l[i]?,l[k]? with
 | some a,some b=>if k=i∨dK b.blocks a.head=false then l else
   if a.parent<0∨b.blocks.length<((l[a.parent.toNat]?.map fun y=>y.blocks.length).getD 0)then l.set i ⟨a.head,a.blocks,k⟩else l
 | _,_=>l
def xd(i:Nat):Nat->Nat->List aX->List aX
 | 0,_,l=>l
 | m+1,k,l=>xd i m (k+1) (lz l i k)
def A3(n:Nat):Nat->Nat->List aX->List aX
 | 0,_,l=>l
 | m+1,i,l=>A3 n m (i+1) (xd i n 0 l)
def ni(l:List aX):List aX:=A3 l.length l.length 0 l
def jB(l m:List aX):Prop:=m.map (fun x=>(x.head,x.blocks))=l.map (fun x=>(x.head,x.blocks))∧∀x∈m,-1<=x.parent∧x.parent<l.length
theorem jB.len{l m:List aX}(h:jB l m):m.length=l.length:=by
 have:=congrArg List.length h.1;simpa using this
theorem sj{l m:List aX}(h:jB l m)(i k:Nat)(hk:k<l.length):jB l (lz m i k):=by
 unfold lz;cases hi:m[i]? with
 | none=>exact h
 | some a =>
  cases hb:m[k]? with
  | none=>exact h
  | some b =>
   simp only;split
   ·exact h
   split
   ·refine⟨?_,fun x hx=>?_⟩
    ·rw[List.map_set,<-h.1];refine List.ext_getElem? fun j=>?_;rw[List.getElem?_set];split
     ·rename_i e;subst e;have:=I hi;rw[if_pos (by simpa using this),List.getElem?_map,hi];rfl
     rfl
    rcases List.mem_or_eq_of_mem_set hx with q|q
    ·exact h.2 x q
    rw[q];simp only;omega
   exact h
theorem uB{l:List aX}(i:Nat):∀(m k:Nat) {x:List aX},jB l x->m+k<=l.length->jB l (xd i m k x)
 | 0,_,_,h,_=>h
 | m+1,k,_,h,hk=>uB i m (k+1) (sj h i k (by omega)) (by omega)
theorem A4{l:List aX}:∀(m i:Nat) {x:List aX},jB l x->jB l (A3 l.length m i x)
 | 0,_,_,h=>h
 | m+1,i,_,h=>A4 m (i+1) (uB i l.length 0 h (by omega))
theorem A5{l:List aX}(h:∀x∈l,x.parent=-1):jB l (ni l):=A4 l.length 0 ⟨rfl,fun x hx=>by
 have:=h x hx;omega⟩
def yC(f:Func)(h:Nat):List aX:=if iG f h=[]then []else [⟨h,gW (iF f h),-1⟩]
def sS(f:Func):List aX:=(List.range f.blocks.length).flatMap (yC f)
def cS(f:Func):List aX:=ni (sS f)
def fO(x:aX):ae:=.agg x.cells
def v7(oid:Nat)(l:List aX):ae:=if l=[]then .aB 3 [] .ex else .os oid l.length 3
theorem xg(n:Nat)(l:List aX)(x:aX):v7 n (l++[x])=.os n (l.length+1) 3:=by
 have:l++[x]≠[]:=by simp
 rw[v7,if_neg this,List.length_append];rfl
structure FO(acc:List aX)(oid:Nat)(O:List al):Prop where
 up:∀o∈O,o.upto O.length
 out:acc≠[]->O[oid]?=some (.cells (jU acc))
theorem FO.push{acc:List aX}{oid:Nat}{O:List al}(h:FO acc oid O){cs:List ae}(hc:au (O.length+1) cs):FO acc oid (O++[.cells cs]) where
 up:=by
  rw[List.length_append,List.length_singleton];exact pH (fun o ho=>al.cE (by omega) (h.up o ho)) hc
 out:=fun q=>cj (h.out q)
theorem FO.move{acc:List aX}{oid:Nat}{O:List al}(h:FO acc oid O){wid:Nat}(hw:acc≠[]->wid≠oid){cs:List ae}(hc:au (O.length+1) cs):FO acc oid (O.set wid .gone++[.cells cs]) where
 up:=by
  rw[List.length_append,List.length_set,List.length_singleton];exact pH (bR (fun o ho=>al.cE (by omega) (h.up o ho)) trivial) hc
 out:=fun q=>cj (bm (h.out q) (hw q))
theorem FO.set{acc:List aX}{oid:Nat}{O:List al}(h:FO acc oid O){wid:Nat}(hw:acc≠[]->wid≠oid){x:al}(hc:x.upto O.length):FO acc oid (O.set wid x) where
 up:=by
  rw[List.length_set];exact bR h.up hc
 out:=fun q=>bm (h.out q) (hw q)
theorem FO.aaa{acc:List aX}{oid:Nat}{O:List al}(h:FO acc oid O):(v7 oid acc).upto O.length:=by
 by_cases q:acc=[]
 ·rw[show v7 oid acc=.aB 3 [] .ex from if_pos q];exact⟨trivial,trivial⟩
 rw[show v7 oid acc=.os oid acc.length 3 from if_neg q];exact I (h.out q)
theorem Ga(n:Nat)(l:List (List Int)):au n (l.map aT):=by
 rw[bZ];intro c hc;obtain⟨x,_,rfl⟩:=List.mem_map.1 hc;exact⟨av _ _,trivial⟩
theorem AS(l:List aX)(x:aX):jU (l++[x])=jU l++x.cells:=by
 rw[E9];simp[jU]
theorem GZ(m:List aX):(jU m).map ae.bo=ao (m.map fO):=by
 induction m with
 | nil=>rfl
 | cons x r ih =>
  have h1:jU (x::r)=x.cells++jU r:=rfl;have h2:ao ((x::r).map fO)=x.cells++ao (r.map fO):=rfl;rw[h1,h2,List.map_append,ih];rfl
theorem gP(n:Nat)(m:List aX):au n (m.map fO):=by
 rw[bZ];intro c hc;obtain⟨x,_,rfl⟩:=List.mem_map.1 hc;exact⟨trivial,⟨av _ _,trivial⟩,trivial,trivial⟩
theorem K2{f:Func}(hg:gb f){h:Int}(qw:iG f h≠[]){S:Wl}(hS:vq f h (iG f h) S){k:Int}(hk:k∈S.work)(hr:0<=cU f k):bB f k≠[]:=by
 have hw:=dk hg;have ht:=ko hg;obtain⟨s,hs⟩:=List.exists_mem_of_ne_nil _ qw;have XR:=n6.1 hs;obtain⟨x,hx,wW⟩:=XR.2.1;have hh1:1<=h:=by
  have HT:=hw.range s XR.1;have hb:f.blocks[s.toNat]?=some (f.blocks[s.toNat]'(by omega)):=List.getElem?_eq_getElem _;have h2:=(hg.eZ _ (List.mem_of_getElem? hb) x (by
   simp only[fY,aF,hb]at hx;exact hx)).1
  omega
 have hP:=(hS.ind (fun k=>0<=cU f k->iD (dn f) h k) (fun s hs _=>by
   have:=n6.1 hs;exact(je hw ht.tr (ht.Cd hw this.1)).1 this.2.2) (fun x hx bI hP p hp lr=>by
   have ym:=(hS.xu x hx).resolve_left bI;have qq:=hP ym;have EW:1<=cU f x:=by
    refine Classical.byContradiction fun q=>?_;have Df:x=0:=hw.inj x 0 ym (by rw[hw.zero];omega);subst Df;cases qq with
    | refl=>exact bI rfl
    | up q _=>rw[ht.tr.root]at q;omega
   exact tu hg EW hp lr qq (Ne.symm bI))).2 k hk hr
 have Lb:1<=cU f k:=by
  refine Classical.byContradiction fun q=>?_;have HQ:k=0:=hw.inj k 0 hr (by rw[hw.zero];omega);subst HQ;cases hP with
  | refl=>omega
  | up q _=>rw[ht.tr.root]at q;omega
 obtain⟨p,hp,BU,_⟩:=hw.fwd k Lb;have:=nN (hw.range p BU) (hw.range k hr) hp;exact List.ne_nil_of_mem this
theorem D7{f:Func}{h:Int}{z:Nat}{p:Int×Int}(hp:(ig f)[z]?=some p):((((ig f).drop z).filter fun p=>decide (p.2=h)).map (·.1))=(if p.2=h then [p.1]else [])++((((ig f).drop (z+1)).filter fun p=>decide (p.2=h)).map (·.1)):=by
 rw[bQ hp,List.filter_cons];by_cases e:p.2=h
 ·simp[e]
 simp[e]
end Go.Proofs.YtjdnhamngpafmaaGreat
namespace Go.Av
def Ob(P:Program)(o:Oper)(qV:St)(R:ae->List al->Prop):Prop :=
 ∀(base:G) (σ:St) (a:Act) (g:G),Rel base σ a g->σ.n=qV.n->(∀x∈o.op.operands,∀y,qV.ev x=some y->σ.ev x=some y)->σ.objs=qV.objs ->
  ∀(K:Act->World->Prop) (Q:Exit->Act->World->Prop),(∀r u g',R r g'.objs->Rel base ⟨σ.n,oD o.dst r σ.bf,g'.objs⟩ (a.put o.dst u) g'->K (a.put o.dst u) g'.w)->o.wp P a g.w K Q
theorem zL{P:Program}{o:Oper}{σ:St}{x:Operand}{args:Array Operand}{qW:Array TypeId}{f:FuncId}{fs cs dA:List ae}{R:ae->List al->Prop}
  (ho:o.op=.call ⟨.value x,args,qW⟩) (hd:∀d,o.dst=some d->d<σ.n) (hx:σ.ev x=some (.fn (.func f) fs cs)) (ha:σ.Aa args.toList=some dA)
  (dM:ba P f σ.objs (fs++dA++cs) R):Ob P o σ R:=by
 intro base τ a g bE hn my hm K Q hK;have wW:σ.ev x=some (.fn (.func f) fs cs):=hx;have h1:=bE.eval (my x (by simp[ho,Op.operands,Call.operands]) _ hx);obtain⟨us,vs,e1,l1,l2,r1,r2⟩:=h1.Pv;have h2:=qi (σ:=σ) (a:=a) (g:=g) (xs:=args.toList) (fun z hz y hy=>bE.eval (my z (by
  rw[ho];simp only[Op.operands,Call.operands,Array.mem_append];exact .inr (Array.mem_toList_iff.1 hz)) y hy)) ha
 have K6:lM g dA (args.map a.eval):=by
  have e:args.map a.eval=(args.toList.map a.eval).toArray:=Array.ext' (by rw[Array.toList_map]);rw[e];exact h2
 have cA:=(lM.lO (lM.lO ⟨l1,r1⟩ K6) ⟨l2,r2⟩)
 have bw:=xw (P:=P) (w:=g.w) ho e1 dM.1;unfold Oper.wp;rw[bw,Oper.upon_enter];refine(dM.2 g _ bE.good (bE.objs.trans hm) cA).mono ?_;rintro e w' ⟨g',v,r',q1,q2,q3,q4,q5,q6⟩;subst q1;subst q2;refine hK r' v g' q6 ?_;cases jm:o.dst with
 | none=>exact bE.step q3 q4
 | some d=>exact bE.put q3 q4 (d:=d) (by rw[hn];exact hd d jm) q5
theorem gN{P:Program}{ops:Array Oper}{base:G}{ρ:St}{Q:Exit->Act->World->Prop}{rest:List Nat}(hQ:∀a g,Rel base ρ a g->wpOps P ops Q rest a g.w) :
  ∀(l:List (Nat×Kind)) (σ:St) (a:Act) (g:G),fj P ops l σ ρ->Rel base σ a g->wpOps P ops Q (l.map (·.1)++rest) a g.w
 | [],σ,a,g,oI,bE=>hQ a g (pQ.rel oI bE)
 | (i,k)::r,σ,a,g,oI,bE=>by
  obtain⟨fF,⟨o,ho,bJ⟩,eQ⟩:=oI;simp only[List.map_cons,List.cons_append,wpOps,ho];rcases bJ with⟨hw,r',m,Au,hk,Ju⟩|⟨hw,_,Ju⟩
  ·rw[if_pos (fv bE hw)];refine .inl (Au.2 base σ a g bE rfl (fun x _ y hy=>hy) (Mode.tp (.inr rfl)) _ _ fun u g' oK=>?_);subst Ju;exact gN hQ r _ _ _ eQ oK
  rw[if_neg (by rw[fv bE hw];simp)];subst Ju;refine gN hQ r _ _ g eQ ?_;cases jm:o.dst with
  | none=>exact bE
  | some d=>exact bE.skip d
theorem E3(ks:List Kind)(s:Nat):(((ks.zipIdx 0).map fun p=>(p.2,p.1)).map fun p=>(s+p.1,p.2)).map (·.1)=(List.range ks.length).map (s + ·):=by
 apply List.ext_getElem?;intro i;simp only[List.getElem?_map,List.getElem?_zipIdx];by_cases h:i<ks.length
 ·simp[h]
 rw[List.getElem?_eq_none (by omega),List.getElem?_eq_none (by simp;omega)];rfl
theorem Hm{n k:Nat}(h:k<n):List.range n=(List.range k).map (0 + ·)++(k::(List.range (n-(k+1))).map (k+1 + ·)):=by
 apply List.ext_getElem?;intro i;by_cases h1:i<k
 ·rw[List.getElem?_append_left (by simpa using h1)];simp[h1,show i<n by omega]
 rw[List.getElem?_append_right (by simp;omega)];simp only[List.length_map,List.length_range];by_cases h2:i=k
 ·subst h2;simp[h]
 rw[show i-k=(i-k-1)+1 by omega,List.getElem?_cons_succ,List.getElem?_map];by_cases h3:i<n
 ·rw[List.getElem?_range h3,List.getElem?_range (by omega),Option.map_some];congr 1;omega
 rw[List.getElem?_eq_none (by simp;omega),List.getElem?_eq_none (by simp;omega)];rfl
theorem zD{P:Program}{kb:Nat}{aR:ed}(md:Md)(hT:bY P aR){id:Nat}{l l1 l2:List Oper}{o:Oper}{Q:dP->St->Prop}{σ:St}(k:Nat)(h1:l.take k=l1)(h2:l[k]?=some o)(h3:l.drop (k+1)=l2)(hg:∀o∈l,o.guard=none)
  (h:ff P aR md l1 0 [] σ [] fun τ _=>∃R,Ob P o τ R∧∀r O',R r O'->ff P aR md l2 0 [] ⟨τ.n,oD o.dst r τ.bf,O'⟩ [] fun ρ _=>At ρ (Q .norm)):cu P kb (.region id l.toArray false) Q σ:=by
 have aZ:=I h2;obtain⟨τ,wZ,c1,n1,R,hc,h⟩:=dO (all:=l1.toArray) hT l1 0 [] σ [] (fun j=>by simp) (fun j t hj=>by simp[iA]at hj) h;intro base a g hb hr;have y9:o.guard=none:=hg o (List.mem_of_getElem? h2);have WM:l1.length=k:=by rw[<-h1,List.length_take];omega
 have Yi:l2.length=l.length-(k+1):=by rw[<-h3,List.length_drop]
 have d1:=ji (all:=l.toArray) (k:=0) (fun i o' hi=>by
  have gI:l1[i]?=some o':=by simpa using hi
  have:=I gI;rw[<-h1,List.getElem?_take]at gI;split at gI
  ·simpa using gI
  cases gI) (by simpa using hg) c1
 refine wp_region ?_;rw[show l.toArray.size=l.length from List.size_toArray,Hm aZ];have e1:=E3 wZ 0;rw[n1,WM]at e1;rw[<-e1];refine gN (ρ:=τ) (fun a g hr=>?_) _ _ _ _ d1 hr;have ho:l.toArray[k]?=some o:=by simpa using h2
 simp only[wpOps,ho];have hw:cQ l.toArray o τ=some true:=by simp[cQ,y9]
 rw[if_pos (fv hr hw)];refine .inl (hc base τ a g hr rfl (fun x _ y hy=>hy) rfl _ _ fun r u g' hR oK=>?_);obtain⟨ρ,OZ,c2,n2,hQ⟩:=dO (all:=l2.toArray) hT l2 0 [] _ [] (fun j=>by simp) (fun j t hj=>by simp[iA]at hj) (h r g'.objs hR);have d2:=ji (all:=l.toArray) (k:=k+1) (fun i o' hi=>by
  have gI:l2[i]?=some o':=by simpa using hi
  rw[<-h3,List.getElem?_drop]at gI;simpa using gI) (by simpa using hg) c2
 have e2:=E3 OZ (k+1);rw[n2,Yi]at e2;rw[<-e2];have:=gN (rest:=[]) (Q:=Pf base Q) (P:=P) (ops:=l.toArray) (base:=base) (ρ:=ρ) (fun a g hr=>⟨g,ρ,rfl,hr,hQ⟩) _ _ _ _ d2 oK;rw[List.append_nil]at this;exact this
def H3(aR:ed)(rv:List ResultVar)(R:ae->List al->Prop):dP->St->Prop
 | .exit _,_=>False
 | _,σ=>on (fI aR σ rv) fun rs=>R (iJ rs) σ.objs
theorem Gd{P:Program}{aR:ed}(hT:bY P aR){f:FuncId}{fn:Func}{c:Code}{O:List al}{args:List ae}{R:ae->List al->Prop}(hf:P.funcs[f]?=some fn)(hb:fn.body=some c)
  (uu : (fn.name == "runtime.NumGoroutine") = false) (hn : args.length <= fn.ntmps) (h : cu P O.length c (H3 aR fn.results.toList R) ⟨fn.ntmps, slotsOf 0 args, O⟩) : ba P f O args R := by
 refine⟨⟨fn,hf,uu,by simp[hb]⟩,fun g vs hg ho ha=>?_⟩;refine calls_of_wp hf hb ?_;have bE:Rel g ⟨fn.ntmps,slotsOf 0 args,O⟩ { tmps:=vs++Array.replicate (fn.ntmps-vs.size) undef,defers:=[] } g:={
  le:=Le.refl g
  good:=hg
  objs:=ho
  size:=by
   have:=ha.1;simp only[Array.size_append,Array.size_replicate];omega
  defers:=rfl
  slot:=fun s x hx=>by
   obtain⟨_,h1⟩:=l9 args 0 s x hx;simp only[Nat.sub_zero]at h1;have aZ:=I h1;have jF:s<vs.size:=by rw[ha.1];exact aZ
   refine⟨vs[s],?_,ha.2 s x _ h1 (by simp[jF])⟩;simp only;rw[Array.getElem?_append,if_pos jF];simp[jF] }
 refine wp_mono (h g _ g (by rw[ho];exact Nat.le_refl _) bE) fun e a w hp=>?_;have key:∀g' fF,g'.w=w->Rel g fF a g'->(on (fI aR fF fn.results.toList) fun rs=>R (Av.iJ rs) fF.objs) ->
   a.defers=[]∧∃v,(results fn a.tmps).run P w=.ok v w∧∃g' v' r,Ending.returned v=.returned v'∧g'.w=w∧Le g g'∧Good g'∧RV g' r v'∧R r g'.objs:=by
  intro g' fF hw hr hq;subst hw;obtain⟨rs,wV,h4⟩:=aD hq;obtain⟨us,q1,q2⟩:=mh hT hr wV;have hO:g'.objs=fF.objs:=hr.objs;refine⟨hr.defers,(if h:us.toArray.size=1 then us.toArray[0]else .tuple us.toArray),?_,g',_,_,rfl,rfl,hr.le,hr.good,RV.iJ q2,by rw[hO];exact h4⟩;have hm:fn.results.mapM (kh a)=Functor.map List.toArray (fn.results.toList.mapM (kh a)):=Array.mapM_eq_mapM_toList;have dS:results fn a.tmps=(do
   let vs <-fn.results.mapM (kh a)
   pure (if h:vs.size=1 then vs[0]else .tuple vs)):=rfl
  rw[dS,hm];simp only[Sem.run_bind,Sem.run_map,q1,Result.andThen_ok,Sem.run_pure]
 cases e with
 | normal =>
  obtain⟨g',fF,h1,h2,h3⟩:=hp;exact key g' fF h1 h2 h3
 | ret =>
  obtain⟨g',fF,h1,h2,h3⟩:=hp;exact key g' fF h1 h2 h3
 | exit id =>
  obtain⟨g',fF,h1,h2,h3⟩:=hp;exact h3.elim
 | goto l=>exact hp.elim
 | panic c=>exact hp.elim
 | outgrown=>exact hp.elim
theorem Ia{P:Program}{kb:Nat}{c:Code}{Q:dP->St->Prop}{n:Nat}{bf:List (Nat×ae)}{O:List al}(s:Nat){sz:Nat}{xs:List ae}{o:pP}(hs:look bf s=some (.aB sz xs o))
  (h1:xs=[]->cu P kb c Q ⟨n,bq s (.v (.slice none 0 0)) bf,O⟩) (h2:cu P kb c Q ⟨n,bq s (.aB sz xs .nn) bf,O⟩):cu P kb c Q ⟨n,bf,O⟩:=by
 intro base a g hb hr;obtain⟨u,e1,e2⟩:=hr.slot s _ hs;have key:∀y,RV g y u->Rel base ⟨n,bq s y bf,O⟩ a g:=fun y hy =>
  {le:=hr.le,good:=hr.good,objs:=hr.objs,size:=hr.size,defers:=hr.defers,slot:=fun k x hx=>by
    simp only[St.get,gi]at hx;split at hx
    ·rename_i e;subst e;simp only[Option.some.injEq]at hx;subst hx;exact⟨u,e1,hy⟩
    exact hr.slot k x hx }
 cases e2 with
 | nil ho hn=>exact h1 rfl base a g hb (key _ (.v trivial))
 | aB di ia ee gu hs f hm hr ho=>exact h2 base a g hb (key _ (.aB di ia ee gu hs f hm hr trivial))
theorem rT{P:Program}{kb:Nat}{c:Code}{Q:dP->St->Prop}{n:Nat}{bf:List (Nat×ae)}{O:List al}(k:Nat){cs:List ae}(ds:List ae)(jG:O[k]?=some (.cells cs))(hl:ds.length=cs.length)(ia:∀d∈ds,d.scalar)
  (hs:∀(j:Nat) (c d:ae),cs[j]?=some c->ds[j]?=some d->Sub O c d) (h:cu P kb c Q ⟨n,bf,O.set k (.cells ds)⟩):cu P kb c Q ⟨n,bf,O⟩ :=
 cu.weaken h fun base a g hb hr=>by
  have hO:g.objs=O:=hr.objs;have Tw:g.objs[k]?=some (.cells cs):=by rw[hO];exact jG
  obtain⟨l,arr,t,e1,e2,e3,e4,e5,e6⟩:=hr.good.cells k cs Tw;have ht:kB g k (.cells cs) (some l) (.cells ds) g.w:={
   obj:=Tw
   os:=rfl
   tape:=rfl
   output:=rfl
   size:=Nat.le_refl _
   block:=fun _ _ _=>rfl
   cell:=fun b off x hx _=>hx
   place:=fun l1 h1 _=>by
    simp only[Option.some.injEq]at h1;subst h1;exact .inr ⟨l,e1,trivial,rfl,Nat.le_refl _⟩
   spare:=fun m h=>by cases h
   plain:=fun _=>⟨by simp[al.aC],e1⟩
   gone:=by simp }
  have hle:=Le.bp hr.good ht;have c7:=Good.bp hr.good ht ⟨l,arr,t,rfl,e2,e3,by omega,fun j d u hd hu=>by
   have aZ:=I hd;have hc:cs[j]?=some cs[j]:=List.getElem?_eq_getElem (by omega);exact(hs j _ d hc hd g u hO (e5 j _ u hc hu)).mono hle,ia,e6.2⟩ (fun l1 h1 _=>by
    simp only[Option.some.injEq]at h1;subst h1;exact aW e3)
  refine⟨g.bp k (some l) (.cells ds) g.w,rfl,{ le:=hr.le.trans hle,good:=c7,objs:=by simp[G.bp,hO],size:=hr.size,defers:=hr.defers,slot:=fun s y hy=>?_ }⟩;have BW:(St.mk n bf O).get s=some y:=hy;obtain⟨u,h3,h4⟩:=hr.slot s y BW;exact⟨u,h3,h4.mono hle⟩
theorem Sub.MJ{O:List al}(sz:Nat):Sub O (.v (.slice none 0 0)) (.aB sz [] .ex):=fun g u _ h=>by
 obtain⟨e,_⟩:=h.bV;rw[e];exact .nil (fun id q=>by cases q) (by simp)
end Go.Av
