/-
  Texts bound together by a program of mine: YtjdnhamngpafmaaGreatT20, YtjdnhamngpafmaaGreatT21, YtjdnhamngpafmaaGreatT22, YtjdnhamngpafmaaGreatPu, YtjdnhamngpafmaaGreatPv, YtjdnhamngpafmaaGreatPw, YtjdnhamngpafmaaGreatPx, YtjdnhamngpafmaaGreatT23, YtjdnhamngpafmaaGreatT37, YtjdnhamngpafmaaGreatPf, YtjdnhamngpafmaaGreatT41, YtjdnhamngpafmaaGreatPj, YtjdnhamngpafmaaGreatT43, YtjdnhamngpafmaaGreatT48, YtjdnhamngpafmaaGreatPg, YtjdnhamngpafmaaGreatPk, YtjdnhamngpafmaaGreatT44, YtjdnhamngpafmaaGreatT45, YtjdnhamngpafmaaGreatT46, YtjdnhamngpafmaaGreatT54, YtjdnhamngpafmaaGreatPl, YtjdnhamngpafmaaGreatPdb, YtjdnhamngpafmaaGreatPdc, YtjdnhamngpafmaaGreatPdd, YtjdnhamngpafmaaGreatPua, YtjdnhamngpafmaaGreatPub, YtjdnhamngpafmaaGreatPuc, YtjdnhamngpafmaaGreatPug, YtjdnhamngpafmaaGreatPuh, YtjdnhamngpafmaaGreatPum.
-/
import Derived.Test.YtjdnhamngpafmaaGreatB3
import Derived.Sort.Grow
set_option linter.all false
set_option maxRecDepth 100000
set_option maxHeartbeats 4000000

namespace Go.Proofs.YtjdnhamngpafmaaGreat
open Go.Av
theorem jX{cs xs:List ae}{n:Nat}(h:xs.length=n)(hc:cs.length=n):bp cs 0 xs=xs:=by
 simp[bp];omega
theorem tj{x:ae}(h:x.flat):x.cells.map ae.bf=x.share.cells:=by
 cases x<;>rfl
theorem fR(es:List (Int×SV))(k:Int):(jU es k).cells.map ae.bf=(iI es k).enc.cells:=by
 rw[tj (jm es k),vw]
theorem IF{u:cu}{m:Mach}{O:List ai}(br:∀o∈O,o.upto O.length)(h0:O[2]?=some (.cells (aA u m)))(f:Fr)(hf:O[f.bT]?=some (.cells (aS f)))(hv:O[f.dt]?=some (.map (.int .i64) (f.vals.map gv)))
  (hu:∀e∈f.vals,SV.bk O.length e.2) (tT:f.bT≠f.dt) (t:Term) (hk:t.kind=4):bh Tryz.prog 112 O [.mp 2 0,.mp f.bT 0,t.enc] (fun r O'=>r=.cx []∧O'=O.set 2 (.cells (aA u (m.stop t.n 0)))):=by
 have gG:=I hf;have R9:=I hv;have eo:=I h0;have ef:=hf;unfold aS at ef;have nT:(Option.map SV.enc (iL f.vals t.arg)).getD (.agg [aI 0,aI 0,.aB 4 [] .ex,.v (.pointer none)])=jU f.vals t.arg:=rfl;have r9:bp [ae.v (.int .i64 0),.v (.int .i64 0),.aB 4 [] .ex,.v (.pointer none)] 0 (jU f.vals t.arg).cells=(jU f.vals t.arg).cells:=jX (fp _ _) rfl;have k9:=fR f.vals t.arg;have yN:=(je hu t.arg).aL;generalize iI f.vals t.arg=V at *;rw[SV.fG]at yN;rw[SV.aj]at k9;have jP:=kA br h0 t.n 0;have fg:=bo br h0 (ds:=aA u (m.stop t.n 0)) (fun h=>bU h rfl);have jf:=b6 (O:=O) (k:=2) (x:=.cells (aA u (m.stop t.n 0)));refine zf true O.length Tryz.func112 Tryz.ntmps112 ?_;dsimp only[Tmp,TypeId,slotsOf];refine az (ah ?_);refine aK 5 ([aI t.kind,aI t.arg,aI t.n,a7 t.cases,aH t.to]) [(0,.mp 2 0),(1,.mp f.bT 0),(5,.ip none [aI t.kind,aI t.arg,aI t.n,a7 t.cases,aH t.to])] rfl (by rfl) (by omega) (by simp[bt,bc,Go.Av.look]) ?_ ?_ ?_
 ·exact br
 ·simp[ae.upto,av,gG,eo,ax,Edge.ak]
 refine aU ?_;simp -dsimp only[simprocAttr,↓aa,zp,ef,hv,mn,nT,jm,fp,r9];refine⟨bP [f.bT,f.dt] O.length [.pure,.pure,.pure,.rd 0,.pure,.pure,.rd 1,.wr 2 [],.wr 3 [2]] (by simp[tT]) (by simp;omega) rfl rfl (by kernel_rfl),aV ?_⟩;simp -dsimp only[bF,ne_eq,Nat.reduceEqDiff,reduceCtorEq];refine aK 6 [aI V.kind,aI V.n,.aB 4 (V.list.map SV.enc) .sh,eP V.arr] [(0,.mp 2 0),(1,.mp f.bT 0),(5,.ip none [aI t.kind,aI t.arg,aI t.n,a7 t.cases,aH t.to]),(6,.ip none [aI V.kind,aI V.n,.aB 4 (V.list.map SV.enc) .sh,eP V.arr])] rfl k9 (by omega) (by simp[bt,bc,Go.Av.look]) br ?_ ?_
 ·simp only[av,ae.upto,true_and,and_true]at yN;simp[ae.upto,av,gG,eo,ax,Edge.ak,yN]
 refine az (ah ?_);refine ag ?_;refine az (ah ?_);apply aP rfl<;>intro h
 ·refine cC ?_;refine .inr (.inl ⟨_,_,jP,.inl (ao (zj ?_))⟩)
  (refine aV ?_;simp -dsimp only[bF,ne_eq,Nat.reduceEqDiff,reduceCtorEq])
  skip
  simp -dsimp only[simprocAttr,↓aa,zp,zr,Tryz.results112,jf,List.length_set];exact⟨fg,trivial⟩
 exact af h (by omega)
theorem ID{u:cu}{m:Mach}{O:List ai}(br:∀o∈O,o.upto O.length)(h0:O[2]?=some (.cells (aA u m)))(f:Fr)(hf:O[f.bT]?=some (.cells (aS f)))(hv:O[f.dt]?=some (.map (.int .i64) (f.vals.map gv)))
  (hu:∀e∈f.vals,SV.bk O.length e.2) (tT:f.bT≠f.dt) (t:Term) (hk:t.kind=1) (e:Edge) (he:t.to[0]?=some e) {O':List ai} (hC:bh Tryz.prog 129 O [.mp 2 0,.mp f.bT 0,e.enc] (fun r O1=>r=.cx []∧O1=O')) (hlen:O.length=O'.length) (mj:∀o∈O',o.upto O'.length):bh Tryz.prog 112 O [.mp 2 0,.mp f.bT 0,t.enc] (fun r O1=>r=.cx []∧O1=O'):=by
 have gG:=I hf;have R9:=I hv;have eo:=I h0;have ef:=hf;unfold aS at ef;have nT:(Option.map SV.enc (iL f.vals t.arg)).getD (.agg [aI 0,aI 0,.aB 4 [] .ex,.v (.pointer none)])=jU f.vals t.arg:=rfl;have r9:bp [ae.v (.int .i64 0),.v (.int .i64 0),.aB 4 [] .ex,.v (.pointer none)] 0 (jU f.vals t.arg).cells=(jU f.vals t.arg).cells:=jX (fp _ _) rfl;have k9:=fR f.vals t.arg;have yN:=(je hu t.arg).aL;generalize iI f.vals t.arg=V at *;rw[SV.fG]at yN;rw[SV.aj]at k9;refine zf true O.length Tryz.func112 Tryz.ntmps112 ?_;dsimp only[Tmp,TypeId,slotsOf];refine az (ah ?_);refine aK 5 ([aI t.kind,aI t.arg,aI t.n,a7 t.cases,aH t.to]) [(0,.mp 2 0),(1,.mp f.bT 0),(5,.ip none [aI t.kind,aI t.arg,aI t.n,a7 t.cases,aH t.to])] rfl (by rfl) (by omega) (by simp[bt,bc,Go.Av.look]) ?_ ?_ ?_
 ·exact br
 ·simp[ae.upto,av,gG,eo,ax,Edge.ak]
 refine aU ?_;simp -dsimp only[simprocAttr,↓aa,zp,ef,hv,mn,nT,jm,fp,r9];refine⟨bP [f.bT,f.dt] O.length [.pure,.pure,.pure,.rd 0,.pure,.pure,.rd 1,.wr 2 [],.wr 3 [2]] (by simp[tT]) (by simp;omega) rfl rfl (by kernel_rfl),aV ?_⟩;simp -dsimp only[bF,ne_eq,Nat.reduceEqDiff,reduceCtorEq];refine aK 6 [aI V.kind,aI V.n,.aB 4 (V.list.map SV.enc) .sh,eP V.arr] [(0,.mp 2 0),(1,.mp f.bT 0),(5,.ip none [aI t.kind,aI t.arg,aI t.n,a7 t.cases,aH t.to]),(6,.ip none [aI V.kind,aI V.n,.aB 4 (V.list.map SV.enc) .sh,eP V.arr])] rfl k9 (by omega) (by simp[bt,bc,Go.Av.look]) br ?_ ?_
 ·simp only[av,ae.upto,true_and,and_true]at yN;simp[ae.upto,av,gG,eo,ax,Edge.ak,yN]
 refine az (ah ?_);refine ag ?_;refine az (ah ?_);apply aP rfl<;>intro h
 ·exact ab h (by omega)
 refine az (ah ?_);apply aP rfl<;>intro h
 ·refine jD ?_;simp -dsimp only[simprocAttr,↓aa,zp,he];refine .inr (.inl ⟨_,_,hC,.inl (ao (zj ?_))⟩)
  (refine aV ?_;simp -dsimp only[bF,ne_eq,Nat.reduceEqDiff,reduceCtorEq])
  skip
  simp -dsimp only[simprocAttr,↓aa,zp,zr,Tryz.results112,hlen,List.take_length];exact⟨mj,trivial⟩
 exact af h (by omega)
theorem EF{u:cu}{m:Mach}{O:List ai}(br:∀o∈O,o.upto O.length)(h0:O[2]?=some (.cells (aA u m)))(f:Fr)(hf:O[f.bT]?=some (.cells (aS f)))(hv:O[f.dt]?=some (.map (.int .i64) (f.vals.map gv)))
  (hu:∀e∈f.vals,SV.bk O.length e.2) (tT:f.bT≠f.dt) (t:Term) (hk:t.kind=0) {O':List ai} (hC:bh Tryz.prog 130 O [.mp 2 0,.mp f.bT 0,(iI f.vals t.arg).enc] (fun r O1=>r=.cx []∧O1=O')) (hlen:O.length=O'.length) (mj:∀o∈O',o.upto O'.length):bh Tryz.prog 112 O [.mp 2 0,.mp f.bT 0,t.enc] (fun r O1=>r=.cx []∧O1=O'):=by
 have gG:=I hf;have R9:=I hv;have eo:=I h0;have ef:=hf;unfold aS at ef;have nT:(Option.map SV.enc (iL f.vals t.arg)).getD (.agg [aI 0,aI 0,.aB 4 [] .ex,.v (.pointer none)])=jU f.vals t.arg:=rfl;have r9:bp [ae.v (.int .i64 0),.v (.int .i64 0),.aB 4 [] .ex,.v (.pointer none)] 0 (jU f.vals t.arg).cells=(jU f.vals t.arg).cells:=jX (fp _ _) rfl;have k9:=fR f.vals t.arg;have yN:=(je hu t.arg).aL;generalize iI f.vals t.arg=V at *;rw[SV.fG]at yN;rw[SV.aj]at k9;refine zf true O.length Tryz.func112 Tryz.ntmps112 ?_;dsimp only[Tmp,TypeId,slotsOf];refine az (ah ?_);refine aK 5 ([aI t.kind,aI t.arg,aI t.n,a7 t.cases,aH t.to]) [(0,.mp 2 0),(1,.mp f.bT 0),(5,.ip none [aI t.kind,aI t.arg,aI t.n,a7 t.cases,aH t.to])] rfl (by rfl) (by omega) (by simp[bt,bc,Go.Av.look]) ?_ ?_ ?_
 ·exact br
 ·simp[ae.upto,av,gG,eo,ax,Edge.ak]
 refine aU ?_;simp -dsimp only[simprocAttr,↓aa,zp,ef,hv,mn,nT,jm,fp,r9];refine⟨bP [f.bT,f.dt] O.length [.pure,.pure,.pure,.rd 0,.pure,.pure,.rd 1,.wr 2 [],.wr 3 [2]] (by simp[tT]) (by simp;omega) rfl rfl (by kernel_rfl),aV ?_⟩;simp -dsimp only[bF,ne_eq,Nat.reduceEqDiff,reduceCtorEq];refine aK 6 [aI V.kind,aI V.n,.aB 4 (V.list.map SV.enc) .sh,eP V.arr] [(0,.mp 2 0),(1,.mp f.bT 0),(5,.ip none [aI t.kind,aI t.arg,aI t.n,a7 t.cases,aH t.to]),(6,.ip none [aI V.kind,aI V.n,.aB 4 (V.list.map SV.enc) .sh,eP V.arr])] rfl k9 (by omega) (by simp[bt,bc,Go.Av.look]) br ?_ ?_
 ·simp only[av,ae.upto,true_and,and_true]at yN;simp[ae.upto,av,gG,eo,ax,Edge.ak,yN]
 refine az (ah ?_);refine ag ?_;refine az (ah ?_);apply aP rfl<;>intro h
 ·exact ab h (by omega)
 refine az (ah ?_);apply aP rfl<;>intro h
 ·exact ab h (by omega)
 refine az (ah ?_);apply aP rfl<;>intro h
 ·refine cC ?_;refine .inr (.inl ⟨_,_,hC,.inl (ao (zj ?_))⟩)
  (refine aV ?_;simp -dsimp only[bF,ne_eq,Nat.reduceEqDiff,reduceCtorEq])
  skip
  simp -dsimp only[simprocAttr,↓aa,zp,zr,Tryz.results112,hlen,List.take_length];exact⟨mj,trivial⟩
 exact af h (by omega)
theorem IG{u:cu}{m:Mach}{O:List ai}(br:∀o∈O,o.upto O.length)(h0:O[2]?=some (.cells (aA u m)))(f:Fr)(hf:O[f.bT]?=some (.cells (aS f)))(hv:O[f.dt]?=some (.map (.int .i64) (f.vals.map gv)))
  (hu:∀e∈f.vals,SV.bk O.length e.2) (tT:f.bT≠f.dt) (t:Term) (hk:t.kind≠0∧t.kind≠1∧t.kind≠4) (hV:(iI f.vals t.arg).kind≠0):bh Tryz.prog 112 O [.mp 2 0,.mp f.bT 0,t.enc] (fun r O'=>r=.cx []∧O'=O.set 2 (.cells (aA u (m.stop 5 0)))):=by
 have gG:=I hf;have R9:=I hv;have eo:=I h0;have ef:=hf;unfold aS at ef;have nT:(Option.map SV.enc (iL f.vals t.arg)).getD (.agg [aI 0,aI 0,.aB 4 [] .ex,.v (.pointer none)])=jU f.vals t.arg:=rfl;have r9:bp [ae.v (.int .i64 0),.v (.int .i64 0),.aB 4 [] .ex,.v (.pointer none)] 0 (jU f.vals t.arg).cells=(jU f.vals t.arg).cells:=jX (fp _ _) rfl;have k9:=fR f.vals t.arg;have yN:=(je hu t.arg).aL;generalize iI f.vals t.arg=V at *;rw[SV.fG]at yN;rw[SV.aj]at k9;have jP:=kA br h0 5 0;have fg:=bo br h0 (ds:=aA u (m.stop 5 0)) (fun h=>bU h rfl);have jf:=b6 (O:=O) (k:=2) (x:=.cells (aA u (m.stop 5 0)));have hd:decide (V.kind=0)=false:=decide_eq_false hV;refine zf true O.length Tryz.func112 Tryz.ntmps112 ?_;dsimp only[Tmp,TypeId,slotsOf];refine az (ah ?_);refine aK 5 ([aI t.kind,aI t.arg,aI t.n,a7 t.cases,aH t.to]) [(0,.mp 2 0),(1,.mp f.bT 0),(5,.ip none [aI t.kind,aI t.arg,aI t.n,a7 t.cases,aH t.to])] rfl (by rfl) (by omega) (by simp[bt,bc,Go.Av.look]) ?_ ?_ ?_
 ·exact br
 ·simp[ae.upto,av,gG,eo,ax,Edge.ak]
 refine aU ?_;simp -dsimp only[simprocAttr,↓aa,zp,ef,hv,mn,nT,jm,fp,r9];refine⟨bP [f.bT,f.dt] O.length [.pure,.pure,.pure,.rd 0,.pure,.pure,.rd 1,.wr 2 [],.wr 3 [2]] (by simp[tT]) (by simp;omega) rfl rfl (by kernel_rfl),aV ?_⟩;simp -dsimp only[bF,ne_eq,Nat.reduceEqDiff,reduceCtorEq];refine aK 6 [aI V.kind,aI V.n,.aB 4 (V.list.map SV.enc) .sh,eP V.arr] [(0,.mp 2 0),(1,.mp f.bT 0),(5,.ip none [aI t.kind,aI t.arg,aI t.n,a7 t.cases,aH t.to]),(6,.ip none [aI V.kind,aI V.n,.aB 4 (V.list.map SV.enc) .sh,eP V.arr])] rfl k9 (by omega) (by simp[bt,bc,Go.Av.look]) br ?_ ?_
 ·simp only[av,ae.upto,true_and,and_true]at yN;simp[ae.upto,av,gG,eo,ax,Edge.ak,yN]
 refine az (ah ?_);refine ag ?_;refine az (ah ?_);apply aP rfl<;>intro h
 ·exact ab h (by omega)
 refine az (ah ?_);apply aP rfl<;>intro h
 ·exact ab h (by omega)
 refine az (ah ?_);apply aP rfl<;>intro h
 ·exact ab h (by omega)
 refine cK ?_;simp -dsimp only[simprocAttr,↓aa,zp,hd];refine ah ?_;refine cY rfl ?_;refine az ?_;refine .inr (.inl ⟨_,_,jP,.inl (ao (zj ?_))⟩);refine ah ?_;refine aq ?_;simp -dsimp only[simprocAttr,↓aa,zp,zr,Tryz.results112,jf,List.length_set];exact⟨fg,trivial⟩
theorem CZ{u:cu}{m:Mach}{O:List ai}(br:∀o∈O,o.upto O.length)(h0:O[2]?=some (.cells (aA u m)))(f:Fr)(hf:O[f.bT]?=some (.cells (aS f)))(hv:O[f.dt]?=some (.map (.int .i64) (f.vals.map gv)))
  (hu:∀e∈f.vals,SV.bk O.length e.2) (tT:f.bT≠f.dt) (t:Term) (hk:t.kind≠0∧t.kind≠1∧t.kind≠4) (hV:(iI f.vals t.arg).kind=0) (hZ:t.cases.length<=2 ^ 60) (e:Edge) (he:t.to[iD t (iI f.vals t.arg).n]?=some e) {O':List ai} (hC:bh Tryz.prog 129 O [.mp 2 0,.mp f.bT 0,e.enc] (fun r O1=>r=.cx []∧O1=O')) (hlen:O.length=O'.length) (mj:∀o∈O',o.upto O'.length):bh Tryz.prog 112 O [.mp 2 0,.mp f.bT 0,t.enc] (fun r O1=>r=.cx []∧O1=O'):=by
 have gG:=I hf;have R9:=I hv;have eo:=I h0;have ef:=hf;unfold aS at ef;have nT:(Option.map SV.enc (iL f.vals t.arg)).getD (.agg [aI 0,aI 0,.aB 4 [] .ex,.v (.pointer none)])=jU f.vals t.arg:=rfl;have r9:bp [ae.v (.int .i64 0),.v (.int .i64 0),.aB 4 [] .ex,.v (.pointer none)] 0 (jU f.vals t.arg).cells=(jU f.vals t.arg).cells:=jX (fp _ _) rfl;have k9:=fR f.vals t.arg;have yN:=(je hu t.arg).aL;generalize iI f.vals t.arg=V at *;rw[SV.fG]at yN;rw[SV.aj]at k9;have qt:=Az t V.n hZ;generalize iD t V.n=q at *;have hd:decide (V.kind=0)=true:=decide_eq_true hV;refine zf true O.length Tryz.func112 Tryz.ntmps112 ?_;dsimp only[Tmp,TypeId,slotsOf];refine az (ah ?_);refine aK 5 ([aI t.kind,aI t.arg,aI t.n,a7 t.cases,aH t.to]) [(0,.mp 2 0),(1,.mp f.bT 0),(5,.ip none [aI t.kind,aI t.arg,aI t.n,a7 t.cases,aH t.to])] rfl (by rfl) (by omega) (by simp[bt,bc,Go.Av.look]) ?_ ?_ ?_
 ·exact br
 ·simp[ae.upto,av,gG,eo,ax,Edge.ak]
 refine aU ?_;simp -dsimp only[simprocAttr,↓aa,zp,ef,hv,mn,nT,jm,fp,r9];refine⟨bP [f.bT,f.dt] O.length [.pure,.pure,.pure,.rd 0,.pure,.pure,.rd 1,.wr 2 [],.wr 3 [2]] (by simp[tT]) (by simp;omega) rfl rfl (by kernel_rfl),aV ?_⟩;simp -dsimp only[bF,ne_eq,Nat.reduceEqDiff,reduceCtorEq];refine aK 6 [aI V.kind,aI V.n,.aB 4 (V.list.map SV.enc) .sh,eP V.arr] [(0,.mp 2 0),(1,.mp f.bT 0),(5,.ip none [aI t.kind,aI t.arg,aI t.n,a7 t.cases,aH t.to]),(6,.ip none [aI V.kind,aI V.n,.aB 4 (V.list.map SV.enc) .sh,eP V.arr])] rfl k9 (by omega) (by simp[bt,bc,Go.Av.look]) br ?_ ?_
 ·simp only[av,ae.upto,true_and,and_true]at yN;simp[ae.upto,av,gG,eo,ax,Edge.ak,yN]
 refine az (ah ?_);refine ag ?_;refine az (ah ?_);apply aP rfl<;>intro h
 ·exact ab h (by omega)
 refine az (ah ?_);apply aP rfl<;>intro h
 ·exact ab h (by omega)
 refine az (ah ?_);apply aP rfl<;>intro h
 ·exact ab h (by omega)
 refine cK ?_;simp -dsimp only[simprocAttr,↓aa,zp,hd];refine ah ?_;refine cm rfl ?_;refine ct ?_;refine cC ?_;refine .inl ⟨_,qt,by simp only[av,ae.upto,zt,zu,ax],ao ?_⟩;simp -dsimp only[simprocAttr,↓aa,zp,he];refine .inr (.inl ⟨_,_,hC,.inl (ao (zj ?_))⟩);refine⟨ob (by kernel_rfl),?_⟩
 (refine aV ?_;simp -dsimp only[bF,ne_eq,Nat.reduceEqDiff,reduceCtorEq])
 skip
 simp -dsimp only[simprocAttr,↓aa,zp,zr,Tryz.results112,hlen,List.take_length];exact⟨mj,trivial⟩
theorem pN(B:Block):ae.agg [a7 B.params,bW B.ins,aI B.term.kind,aI B.term.arg,aI B.term.n,a7 B.term.cases,aH B.term.to]=B.enc:=rfl
theorem step_end{u:cu}{m:Mach}{O:List ai}(br:∀o∈O,o.upto O.length)(h0:O[2]?=some (.cells (aA u m)))(f:Fr)(r:List Fr)(dK:m.frames=f::r)(hf:O[f.bT]?=some (.cells (aS f)))(z6:f.bT≠2)
  {cs:List ae} (dG:O[m.sid]?=some (.cells cs)) (fw:cs[r.length]?=some (.mp f.bT 0)) (A9:r.length<=2 ^ 40) (F:Func) (hF:u.fns[f.fn.toNat]?=some F) (rf:0<=f.fn) (B:Block) (hB:F.blocks[f.blk.toNat]?=some B) (q8:0<=f.blk) (mi:f.pos=B.ins.length) {O':List ai} (hC:bh Tryz.prog 112 O [.mp 2 0,.mp f.bT 0,B.term.enc] (fun r O1=>r=.cx []∧O1=O')) (hlen:O.length<=O'.length) (mj:∀o∈O',o.upto O'.length) :
  bh Tryz.prog 83 O [.mp 2 0] (fun r O1=>r=.cx []∧O1=O'):=by
 have gG:=I hf;have eo:=I h0;have ef:=hf;unfold aS at ef;have mg:O[2]?=some (.cells [b8 u.fns,aI u.main,.os m.sid (r.length+1) 1,aI m.left,.v (.bool m.short),.v (.bool m.over),.aB 1 (m.out.map aI) (.tok 3),aI m.fin,aI m.val]):=by
  rw[h0];unfold aA;rw[dK];rfl
 have sQ:((r.length+1:Nat):Int)-1=(r.length:Nat):=by omega
 refine fo hT true (O'.length) Tryz.func83 rfl (by kernel_rfl) (by simp[Tryz.ntmps83]) (by assumption) ?_;show cn Tryz.prog _ _ _ ⟨137,_,_⟩;dsimp only[Tmp,TypeId,slotsOf];refine aU ?_;simp -dsimp only[simprocAttr,↓aa,zp,mg,sQ,Nat.mul_one,dG,fw]
 repeat(refine⟨by omega,?_⟩)
 refine⟨ob (by kernel_rfl),?_⟩;refine ah ?_;refine aU ?_;simp -dsimp only[simprocAttr,↓aa,zp,mg,ef,hF,hB,pN]
 repeat(refine⟨by omega,?_⟩)
 refine⟨bP [2,f.bT] O.length [.pure,.pure,.pure,.pure,.rd 0,.pure,.pure,.pure,.rd 1,.pure,.pure,.pure,.pure,.pure,.pure,.rd 1,.pure,.pure,.wr 2 [],.wr 3 [2]] (by simp;omega) (by simp;omega) rfl rfl (by kernel_rfl),aV ?_⟩;simp -dsimp only[bF,ne_eq,Nat.reduceEqDiff,reduceCtorEq];refine aK 3 ([a7 B.params,bW B.ins,aI B.term.kind,aI B.term.arg,aI B.term.n,a7 B.term.cases,aH B.term.to]) [(0,.mp 2 0),(2,.mp f.bT 0),(3,.ip none [a7 B.params,bW B.ins,aI B.term.kind,aI B.term.arg,aI B.term.n,a7 B.term.cases,aH B.term.to])] rfl (by rfl) (by omega) (by simp[bt,bc,Go.Av.look]) ?_ ?_ ?_
 ·exact br
 ·simp[ae.upto,av,gG,eo,ax,Edge.ak,Ins.ak]
 refine cK ?_;simp -dsimp only[simprocAttr,↓aa,zp,ef];refine⟨ob (by kernel_rfl),?_⟩;refine ah ?_;apply aP rfl<;>intro h
 ·refine az ?_;refine .inr (.inl ⟨_,_,hC,.inl (ao (zj ?_))⟩);refine ah ?_;refine aq ?_;simp -dsimp only[simprocAttr,↓aa,zp,zr,Tryz.results83,List.take_length];exact⟨mj,trivial⟩
 exact af h (by omega)
theorem Hn{u:cu}{m:Mach}{O:List ai}(br:∀o∈O,o.upto O.length)(h0:O[2]?=some (.cells (aA u m)))(f:Fr)(r:List Fr)(dK:m.frames=f::r)(hf:O[f.bT]?=some (.cells (aS f)))(z6:f.bT≠2)
  {cs:List ae} (dG:O[m.sid]?=some (.cells cs)) (fw:cs[r.length]?=some (.mp f.bT 0)) (A9:r.length<=2 ^ 40) (F:Func) (hF:u.fns[f.fn.toNat]?=some F) (rf:0<=f.fn) (B:Block) (hB:F.blocks[f.blk.toNat]?=some B) (q8:0<=f.blk) (hv:O[f.dt]?=some (.map (.int .i64) (f.vals.map gv))) (tT:f.bT≠f.dt) (hu:∀e∈f.vals,SV.bk O.length e.2) (i:Ins) (hi:B.ins[f.pos]?=some i) (tQ:f.pos<=2 ^ 41) (lN:i.args.length<=4096) (f':Fr) (fi:f' = { f with pos:=f.pos+1 }) (args:List SV) (fc:args=fY f.vals i.args) (O1:List ai) (dM:O1=O.set f.bT (.cells (aS f'))) (jN:i.op=13) {O':List ai} (hC:bh Tryz.prog 81 O1 [.mp 2 0,aI i.n,.aB 4 (args.map SV.enc) .sh,aI i.to] (fun r O2=>r=.cx []∧O2=O')) (hlen:O.length<=O'.length) (mj:∀o∈O',o.upto O'.length) :
  bh Tryz.prog 83 O [.mp 2 0] (fun r O1=>r=.cx []∧O1=O'):=by
 have gG:=I hf;have eo:=I h0;have ef:=hf;unfold aS at ef;have mg:O[2]?=some (.cells [b8 u.fns,aI u.main,.os m.sid (r.length+1) 1,aI m.left,.v (.bool m.short),.v (.bool m.over),.aB 1 (m.out.map aI) (.tok 3),aI m.fin,aI m.val]):=by
  rw[h0];unfold aA;rw[dK];rfl
 have sQ:((r.length+1:Nat):Int)-1=(r.length:Nat):=by omega
 have I':=I hi;have hs:=dr hf;have dU:O.length=O1.length:=by rw[dM];simp
 have q9:[aI f.fn,aI f.blk,aI ((f.pos:Int)+1),aI f.to,.mm f.dt]=aS f':=by
  rw[fi];simp[aS]
 have nD:O1[f'.bT]?=some (.cells (aS f')):=by rw[dM,fi];exact hs _
 have vW:O1[f'.dt]?=some (.map (.int .i64) (f'.vals.map gv)):=by rw[dM,fi];exact aW hv tT
 have ew:∀o∈O1,o.upto O1.length:=by
  rw[<-dU,dM];refine bo br hf fun h=>?_;simp only[aS,av,ae.upto,true_and,and_true]at h ⊢;rw[fi];exact h
 have gD:=jq ew nD vW (by rw[fi,<-dU];exact hu) i.args lN;have jM:f'.bT=f.bT:=by rw[fi]
 have nW:f'.vals=f.vals:=by rw[fi]
 rw[jM,nW,<-fc]at gD;rw[jM]at nD;refine fo hT true (O'.length) Tryz.func83 rfl (by kernel_rfl) (by simp[Tryz.ntmps83]) (by assumption) ?_;show cn Tryz.prog _ _ _ ⟨137,_,_⟩;dsimp only[Tmp,TypeId,slotsOf];refine aU ?_;simp -dsimp only[simprocAttr,↓aa,zp,mg,sQ,Nat.mul_one,dG,fw]
 repeat(refine⟨by omega,?_⟩)
 refine⟨ob (by kernel_rfl),?_⟩;refine ah ?_;refine aU ?_;simp -dsimp only[simprocAttr,↓aa,zp,mg,ef,hF,hB,pN]
 repeat(refine⟨by omega,?_⟩)
 refine⟨bP [2,f.bT] O.length [.pure,.pure,.pure,.pure,.rd 0,.pure,.pure,.pure,.rd 1,.pure,.pure,.pure,.pure,.pure,.pure,.rd 1,.pure,.pure,.wr 2 [],.wr 3 [2]] (by simp;omega) (by simp;omega) rfl rfl (by kernel_rfl),aV ?_⟩;simp -dsimp only[bF,ne_eq,Nat.reduceEqDiff,reduceCtorEq];refine aK 3 ([a7 B.params,bW B.ins,aI B.term.kind,aI B.term.arg,aI B.term.n,a7 B.term.cases,aH B.term.to]) [(0,.mp 2 0),(2,.mp f.bT 0),(3,.ip none [a7 B.params,bW B.ins,aI B.term.kind,aI B.term.arg,aI B.term.n,a7 B.term.cases,aH B.term.to])] rfl (by rfl) (by omega) (by simp[bt,bc,Go.Av.look]) ?_ ?_ ?_
 ·exact br
 ·simp[ae.upto,av,gG,eo,ax,Edge.ak,Ins.ak]
 refine cK ?_;simp -dsimp only[simprocAttr,↓aa,zp,ef];refine⟨ob (by kernel_rfl),?_⟩;refine ah ?_;apply aP rfl<;>intro h
 ·exact ab h (by omega)
 refine ct ?_;refine aU ?_;simp -dsimp only[simprocAttr,↓aa,zp,ef,hi,Int.toNat_natCast]
 repeat(refine⟨by omega,?_⟩)
 refine⟨bP [f.bT] O.length [.pure,.pure,.pure,.pure,.pure,.rd 0,.pure,.pure,.wr 1 [],.wr 2 [1]] (by simp) (by simp;omega) rfl rfl (by kernel_rfl),aV ?_⟩;simp -dsimp only[bF,ne_eq,Nat.reduceEqDiff,reduceCtorEq];refine aK 4 ([aI i.to,aI i.op,aI i.n,a7 i.args]) [(0,.mp 2 0),(2,.mp f.bT 0),(4,.ip none [aI i.to,aI i.op,aI i.n,a7 i.args])] rfl (by rfl) (by omega) (by simp[bt,bc,Go.Av.look]) ?_ ?_ ?_
 ·exact br
 ·simp[ae.upto,av,gG,eo,ax]
 refine aU ?_;simp -dsimp only[simprocAttr,↓aa,zp,ef,hs,q9,<-dM]
 repeat(refine⟨by omega,?_⟩)
 refine ah ?_;refine az ?_;refine .inr (.inr ⟨_,gD,ao (zj ?_)⟩);refine ah ?_;refine az (ah ?_);refine ag ?_;refine az (ah ?_);apply aP rfl<;>intro h
 ·refine cC ?_;refine .inr (.inl ⟨_,_,hC,.inl (ao (zj ?_))⟩)
  (refine aV ?_;simp -dsimp only[bF,ne_eq,Nat.reduceEqDiff,reduceCtorEq])
  skip
  simp -dsimp only[simprocAttr,↓aa,zp,zr,Tryz.results83,List.take_length];exact⟨mj,trivial⟩
 exact af h (by omega)
theorem Ko{u:cu}{m:Mach}{O:List ai}(br:∀o∈O,o.upto O.length)(h0:O[2]?=some (.cells (aA u m)))(f:Fr)(r:List Fr)(dK:m.frames=f::r)(hf:O[f.bT]?=some (.cells (aS f)))(z6:f.bT≠2)
  {cs:List ae} (dG:O[m.sid]?=some (.cells cs)) (fw:cs[r.length]?=some (.mp f.bT 0)) (A9:r.length<=2 ^ 40) (F:Func) (hF:u.fns[f.fn.toNat]?=some F) (rf:0<=f.fn) (B:Block) (hB:F.blocks[f.blk.toNat]?=some B) (q8:0<=f.blk) (hv:O[f.dt]?=some (.map (.int .i64) (f.vals.map gv))) (tT:f.bT≠f.dt) (hu:∀e∈f.vals,SV.bk O.length e.2) (i:Ins) (hi:B.ins[f.pos]?=some i) (tQ:f.pos<=2 ^ 41) (lN:i.args.length<=4096) (f':Fr) (fi:f' = { f with pos:=f.pos+1 }) (args:List SV) (fc:args=fY f.vals i.args) (O1:List ai) (dM:O1=O.set f.bT (.cells (aS f'))) (jN:i.op=14) (c:SV) (Ge:args[0]?=some c) (hk:c.kind=2) (Mp:0<=c.n) (G:Func) (hG:u.fns[c.n.toNat]?=some G) (D:Block) (hD:G.blocks[0]?=some D) (Gv:D.params.length=args.length) (Pf:∀v∈args,SV.bk O1.length v) {O':List ai} (hC:bh Tryz.prog 81 O1 [.mp 2 0,aI c.n,.aB 4 (args.map SV.enc) .sh,aI i.to] (fun r O2=>r=.cx []∧O2=O')) (hlen:O.length<=O'.length) (mj:∀o∈O',o.upto O'.length) (rh:O1[2]?=some (.cells (aA u m))) :
  bh Tryz.prog 83 O [.mp 2 0] (fun r O1=>r=.cx []∧O1=O'):=by
 have gG:=I hf;have eo:=I h0;have ef:=hf;unfold aS at ef;have mg:O[2]?=some (.cells [b8 u.fns,aI u.main,.os m.sid (r.length+1) 1,aI m.left,.v (.bool m.short),.v (.bool m.over),.aB 1 (m.out.map aI) (.tok 3),aI m.fin,aI m.val]):=by
  rw[h0];unfold aA;rw[dK];rfl
 have sQ:((r.length+1:Nat):Int)-1=(r.length:Nat):=by omega
 have I':=I hi;have hs:=dr hf;have dU:O.length=O1.length:=by rw[dM];simp
 have q9:[aI f.fn,aI f.blk,aI ((f.pos:Int)+1),aI f.to,.mm f.dt]=aS f':=by
  rw[fi];simp[aS]
 have nD:O1[f'.bT]?=some (.cells (aS f')):=by rw[dM,fi];exact hs _
 have vW:O1[f'.dt]?=some (.map (.int .i64) (f'.vals.map gv)):=by rw[dM,fi];exact aW hv tT
 have ew:∀o∈O1,o.upto O1.length:=by
  rw[<-dU,dM];refine bo br hf fun h=>?_;simp only[aS,av,ae.upto,true_and,and_true]at h ⊢;rw[fi];exact h
 have gD:=jq ew nD vW (by rw[fi,<-dU];exact hu) i.args lN;have jM:f'.bT=f.bT:=by rw[fi]
 have nW:f'.vals=f.vals:=by rw[fi]
 rw[jM,nW,<-fc]at gD;rw[jM]at nD;unfold aA at rh;have hd:decide (c.kind=2)=true:=decide_eq_true hk;have kW:decide ((D.params.length:Int)=args.length)=true:=decide_eq_true (by omega);refine fo hT true (O'.length) Tryz.func83 rfl (by kernel_rfl) (by simp[Tryz.ntmps83]) (by assumption) ?_;show cn Tryz.prog _ _ _ ⟨137,_,_⟩;dsimp only[Tmp,TypeId,slotsOf];refine aU ?_;simp -dsimp only[simprocAttr,↓aa,zp,mg,sQ,Nat.mul_one,dG,fw]
 repeat(refine⟨by omega,?_⟩)
 refine⟨ob (by kernel_rfl),?_⟩;refine ah ?_;refine aU ?_;simp -dsimp only[simprocAttr,↓aa,zp,mg,ef,hF,hB,pN]
 repeat(refine⟨by omega,?_⟩)
 refine⟨bP [2,f.bT] O.length [.pure,.pure,.pure,.pure,.rd 0,.pure,.pure,.pure,.rd 1,.pure,.pure,.pure,.pure,.pure,.pure,.rd 1,.pure,.pure,.wr 2 [],.wr 3 [2]] (by simp;omega) (by simp;omega) rfl rfl (by kernel_rfl),aV ?_⟩;simp -dsimp only[bF,ne_eq,Nat.reduceEqDiff,reduceCtorEq];refine aK 3 ([a7 B.params,bW B.ins,aI B.term.kind,aI B.term.arg,aI B.term.n,a7 B.term.cases,aH B.term.to]) [(0,.mp 2 0),(2,.mp f.bT 0),(3,.ip none [a7 B.params,bW B.ins,aI B.term.kind,aI B.term.arg,aI B.term.n,a7 B.term.cases,aH B.term.to])] rfl (by rfl) (by omega) (by simp[bt,bc,Go.Av.look]) ?_ ?_ ?_
 ·exact br
 ·simp[ae.upto,av,gG,eo,ax,Edge.ak,Ins.ak]
 refine cK ?_;simp -dsimp only[simprocAttr,↓aa,zp,ef];refine⟨ob (by kernel_rfl),?_⟩;refine ah ?_;apply aP rfl<;>intro h
 ·exact ab h (by omega)
 refine ct ?_;refine aU ?_;simp -dsimp only[simprocAttr,↓aa,zp,ef,hi,Int.toNat_natCast]
 repeat(refine⟨by omega,?_⟩)
 refine⟨bP [f.bT] O.length [.pure,.pure,.pure,.pure,.pure,.rd 0,.pure,.pure,.wr 1 [],.wr 2 [1]] (by simp) (by simp;omega) rfl rfl (by kernel_rfl),aV ?_⟩;simp -dsimp only[bF,ne_eq,Nat.reduceEqDiff,reduceCtorEq];refine aK 4 ([aI i.to,aI i.op,aI i.n,a7 i.args]) [(0,.mp 2 0),(2,.mp f.bT 0),(4,.ip none [aI i.to,aI i.op,aI i.n,a7 i.args])] rfl (by rfl) (by omega) (by simp[bt,bc,Go.Av.look]) ?_ ?_ ?_
 ·exact br
 ·simp[ae.upto,av,gG,eo,ax]
 refine aU ?_;simp -dsimp only[simprocAttr,↓aa,zp,ef,hs,q9,<-dM]
 repeat(refine⟨by omega,?_⟩)
 refine ah ?_;refine az ?_;refine .inr (.inr ⟨_,gD,ao (zj ?_)⟩);refine ah ?_;refine az (ah ?_);refine ag ?_;refine az (ah ?_);apply aP rfl<;>intro h
 ·exact ab h (by omega)
 refine az (ah ?_);apply aP rfl<;>intro h
 ·refine aU ?_;simp -dsimp only[simprocAttr,↓aa,zp,Ge];refine ah ?_;refine aK 6 [aI c.kind,aI c.n,.aB 4 (c.list.map SV.enc) .sh,eP c.arr] [(0,.mp 2 0),(2,.mp f.bT 0),(4,.ip none [aI i.to,aI i.op,aI i.n,a7 i.args]),(5,.aB 4 (args.map SV.enc) .sh),(6,.ip none [aI c.kind,aI c.n,.aB 4 (c.list.map SV.enc) .sh,eP c.arr])] rfl (by simp only[List.map_cons,List.map_nil,cF,b9,cg]) (by omega) (by simp[bt,bc,Go.Av.look]) ew ?_ ?_
  ·have tN:=(Pf c (List.mem_of_getElem? Ge)).aL;rw[SV.fG]at tN;simp only[av,ae.upto,true_and,and_true]at tN;have OY:=SV.ak Pf;simp[ae.upto,av,<-dU,gG,eo,ax,tN,OY];simp[dU,tN,OY]
  refine aU ?_;simp -dsimp only[simprocAttr,↓aa,zp,hd,rh,hG,hD,kW]
  repeat(refine⟨by omega,?_⟩)
  refine⟨ob (by kernel_rfl),?_⟩;refine ah ?_;refine cY rfl ?_;refine cC ?_;refine .inr (.inl ⟨_,_,hC,.inl (ao (zj ?_))⟩)
  (refine aV ?_;simp -dsimp only[bF,ne_eq,Nat.reduceEqDiff,reduceCtorEq])
  skip
  simp -dsimp only[simprocAttr,↓aa,zp,zr,Tryz.results83,List.take_length];exact⟨mj,trivial⟩
 exact af h (by omega)
theorem w5{u:cu}{m:Mach}{O:List ai}(br:∀o∈O,o.upto O.length)(h0:O[2]?=some (.cells (aA u m)))(f:Fr)(r:List Fr)(dK:m.frames=f::r)(hf:O[f.bT]?=some (.cells (aS f)))(z6:f.bT≠2)
  {cs:List ae} (dG:O[m.sid]?=some (.cells cs)) (fw:cs[r.length]?=some (.mp f.bT 0)) (A9:r.length<=2 ^ 40) (F:Func) (hF:u.fns[f.fn.toNat]?=some F) (rf:0<=f.fn) (B:Block) (hB:F.blocks[f.blk.toNat]?=some B) (q8:0<=f.blk) (hv:O[f.dt]?=some (.map (.int .i64) (f.vals.map gv))) (tT:f.bT≠f.dt) (hu:∀e∈f.vals,SV.bk O.length e.2) (i:Ins) (hi:B.ins[f.pos]?=some i) (tQ:f.pos<=2 ^ 41) (lN:i.args.length<=4096) (f':Fr) (fi:f' = { f with pos:=f.pos+1 }) (args:List SV) (fc:args=fY f.vals i.args) (O1:List ai) (dM:O1=O.set f.bT (.cells (aS f'))) (jN:i.op=14) (c:SV) (Ge:args[0]?=some c) (hk:c.kind≠2) (Pf:∀v∈args,SV.bk O1.length v) (rh:O1[2]?=some (.cells (aA u m))) :
  bh Tryz.prog 83 O [.mp 2 0] (fun r O2=>r=.cx []∧O2=O1.set 2 (.cells (aA u (m.stop 5 0)))):=by
 have gG:=I hf;have eo:=I h0;have ef:=hf;unfold aS at ef;have mg:O[2]?=some (.cells [b8 u.fns,aI u.main,.os m.sid (r.length+1) 1,aI m.left,.v (.bool m.short),.v (.bool m.over),.aB 1 (m.out.map aI) (.tok 3),aI m.fin,aI m.val]):=by
  rw[h0];unfold aA;rw[dK];rfl
 have sQ:((r.length+1:Nat):Int)-1=(r.length:Nat):=by omega
 have I':=I hi;have hs:=dr hf;have dU:O.length=O1.length:=by rw[dM];simp
 have q9:[aI f.fn,aI f.blk,aI ((f.pos:Int)+1),aI f.to,.mm f.dt]=aS f':=by
  rw[fi];simp[aS]
 have nD:O1[f'.bT]?=some (.cells (aS f')):=by rw[dM,fi];exact hs _
 have vW:O1[f'.dt]?=some (.map (.int .i64) (f'.vals.map gv)):=by rw[dM,fi];exact aW hv tT
 have ew:∀o∈O1,o.upto O1.length:=by
  rw[<-dU,dM];refine bo br hf fun h=>?_;simp only[aS,av,ae.upto,true_and,and_true]at h ⊢;rw[fi];exact h
 have gD:=jq ew nD vW (by rw[fi,<-dU];exact hu) i.args lN;have jM:f'.bT=f.bT:=by rw[fi]
 have nW:f'.vals=f.vals:=by rw[fi]
 rw[jM,nW,<-fc]at gD;rw[jM]at nD;have ik:O.length<=O.length:=Nat.le_refl _;have jP:=kA ew rh 5 0;have fg:=bo ew rh (ds:=aA u (m.stop 5 0)) (fun h=>bU h rfl);have jf:=b6 (O:=O1) (k:=2) (x:=.cells (aA u (m.stop 5 0)));unfold aA at rh;have hd:decide (c.kind=2)=false:=decide_eq_false hk;refine fo hT true (O.length) Tryz.func83 rfl (by kernel_rfl) (by simp[Tryz.ntmps83]) (by assumption) ?_;show cn Tryz.prog _ _ _ ⟨137,_,_⟩;dsimp only[Tmp,TypeId,slotsOf];refine aU ?_;simp -dsimp only[simprocAttr,↓aa,zp,mg,sQ,Nat.mul_one,dG,fw]
 repeat(refine⟨by omega,?_⟩)
 refine⟨ob (by kernel_rfl),?_⟩;refine ah ?_;refine aU ?_;simp -dsimp only[simprocAttr,↓aa,zp,mg,ef,hF,hB,pN]
 repeat(refine⟨by omega,?_⟩)
 refine⟨bP [2,f.bT] O.length [.pure,.pure,.pure,.pure,.rd 0,.pure,.pure,.pure,.rd 1,.pure,.pure,.pure,.pure,.pure,.pure,.rd 1,.pure,.pure,.wr 2 [],.wr 3 [2]] (by simp;omega) (by simp;omega) rfl rfl (by kernel_rfl),aV ?_⟩;simp -dsimp only[bF,ne_eq,Nat.reduceEqDiff,reduceCtorEq];refine aK 3 ([a7 B.params,bW B.ins,aI B.term.kind,aI B.term.arg,aI B.term.n,a7 B.term.cases,aH B.term.to]) [(0,.mp 2 0),(2,.mp f.bT 0),(3,.ip none [a7 B.params,bW B.ins,aI B.term.kind,aI B.term.arg,aI B.term.n,a7 B.term.cases,aH B.term.to])] rfl (by rfl) (by omega) (by simp[bt,bc,Go.Av.look]) ?_ ?_ ?_
 ·exact br
 ·simp[ae.upto,av,gG,eo,ax,Edge.ak,Ins.ak]
 refine cK ?_;simp -dsimp only[simprocAttr,↓aa,zp,ef];refine⟨ob (by kernel_rfl),?_⟩;refine ah ?_;apply aP rfl<;>intro h
 ·exact ab h (by omega)
 refine ct ?_;refine aU ?_;simp -dsimp only[simprocAttr,↓aa,zp,ef,hi,Int.toNat_natCast]
 repeat(refine⟨by omega,?_⟩)
 refine⟨bP [f.bT] O.length [.pure,.pure,.pure,.pure,.pure,.rd 0,.pure,.pure,.wr 1 [],.wr 2 [1]] (by simp) (by simp;omega) rfl rfl (by kernel_rfl),aV ?_⟩;simp -dsimp only[bF,ne_eq,Nat.reduceEqDiff,reduceCtorEq];refine aK 4 ([aI i.to,aI i.op,aI i.n,a7 i.args]) [(0,.mp 2 0),(2,.mp f.bT 0),(4,.ip none [aI i.to,aI i.op,aI i.n,a7 i.args])] rfl (by rfl) (by omega) (by simp[bt,bc,Go.Av.look]) ?_ ?_ ?_
 ·exact br
 ·simp[ae.upto,av,gG,eo,ax]
 refine aU ?_;simp -dsimp only[simprocAttr,↓aa,zp,ef,hs,q9,<-dM]
 repeat(refine⟨by omega,?_⟩)
 refine ah ?_;refine az ?_;refine .inr (.inr ⟨_,gD,ao (zj ?_)⟩);refine ah ?_;refine az (ah ?_);refine ag ?_;refine az (ah ?_);apply aP rfl<;>intro h
 ·exact ab h (by omega)
 refine az (ah ?_);apply aP rfl<;>intro h
 ·refine aU ?_;simp -dsimp only[simprocAttr,↓aa,zp,Ge];refine ah ?_;refine aK 6 [aI c.kind,aI c.n,.aB 4 (c.list.map SV.enc) .sh,eP c.arr] [(0,.mp 2 0),(2,.mp f.bT 0),(4,.ip none [aI i.to,aI i.op,aI i.n,a7 i.args]),(5,.aB 4 (args.map SV.enc) .sh),(6,.ip none [aI c.kind,aI c.n,.aB 4 (c.list.map SV.enc) .sh,eP c.arr])] rfl (by simp only[List.map_cons,List.map_nil,cF,b9,cg]) (by omega) (by simp[bt,bc,Go.Av.look]) ew ?_ ?_
  ·have tN:=(Pf c (List.mem_of_getElem? Ge)).aL;rw[SV.fG]at tN;simp only[av,ae.upto,true_and,and_true]at tN;have OY:=SV.ak Pf;simp[ae.upto,av,<-dU,gG,eo,ax,tN,OY];simp[dU,tN,OY]
  refine aU ?_;simp -dsimp only[simprocAttr,↓aa,zp,hd]
  repeat(refine⟨by omega,?_⟩)
  refine⟨ob (by kernel_rfl),?_⟩;refine ah ?_;refine cm rfl ?_;refine cC ?_;refine .inr (.inl ⟨_,_,jP,.inl (ao ?_)⟩);simp -dsimp only[simprocAttr,↓aa,zp,dU]
  (refine aV ?_;simp -dsimp only[bF,ne_eq,Nat.reduceEqDiff,reduceCtorEq])
  skip
  simp -dsimp only[simprocAttr,↓aa,zp,zr,Tryz.results83,jf,List.length_set,dU];exact⟨fg,trivial⟩
 exact af h (by omega)
theorem zJ{u:cu}{m:Mach}{O:List ai}(br:∀o∈O,o.upto O.length)(h0:O[2]?=some (.cells (aA u m)))(f:Fr)(r:List Fr)(dK:m.frames=f::r)(hf:O[f.bT]?=some (.cells (aS f)))(z6:f.bT≠2)
  {cs:List ae} (dG:O[m.sid]?=some (.cells cs)) (fw:cs[r.length]?=some (.mp f.bT 0)) (A9:r.length<=2 ^ 40) (F:Func) (hF:u.fns[f.fn.toNat]?=some F) (rf:0<=f.fn) (B:Block) (hB:F.blocks[f.blk.toNat]?=some B) (q8:0<=f.blk) (hv:O[f.dt]?=some (.map (.int .i64) (f.vals.map gv))) (tT:f.bT≠f.dt) (hu:∀e∈f.vals,SV.bk O.length e.2) (i:Ins) (hi:B.ins[f.pos]?=some i) (tQ:f.pos<=2 ^ 41) (lN:i.args.length<=4096) (f':Fr) (fi:f' = { f with pos:=f.pos+1 }) (args:List SV) (fc:args=fY f.vals i.args) (O1:List ai) (dM:O1=O.set f.bT (.cells (aS f'))) (jN:i.op=14) (c:SV) (Ge:args[0]?=some c) (hk:c.kind=2) (Mp:0<=c.n) (G:Func) (hG:u.fns[c.n.toNat]?=some G) (D:Block) (hD:G.blocks[0]?=some D) (Gv:D.params.length≠args.length) (Pf:∀v∈args,SV.bk O1.length v) (rh:O1[2]?=some (.cells (aA u m))) :
  bh Tryz.prog 83 O [.mp 2 0] (fun r O2=>r=.cx []∧O2=O1.set 2 (.cells (aA u (m.stop 5 0)))):=by
 have gG:=I hf;have eo:=I h0;have ef:=hf;unfold aS at ef;have mg:O[2]?=some (.cells [b8 u.fns,aI u.main,.os m.sid (r.length+1) 1,aI m.left,.v (.bool m.short),.v (.bool m.over),.aB 1 (m.out.map aI) (.tok 3),aI m.fin,aI m.val]):=by
  rw[h0];unfold aA;rw[dK];rfl
 have sQ:((r.length+1:Nat):Int)-1=(r.length:Nat):=by omega
 have I':=I hi;have hs:=dr hf;have dU:O.length=O1.length:=by rw[dM];simp
 have q9:[aI f.fn,aI f.blk,aI ((f.pos:Int)+1),aI f.to,.mm f.dt]=aS f':=by
  rw[fi];simp[aS]
 have nD:O1[f'.bT]?=some (.cells (aS f')):=by rw[dM,fi];exact hs _
 have vW:O1[f'.dt]?=some (.map (.int .i64) (f'.vals.map gv)):=by rw[dM,fi];exact aW hv tT
 have ew:∀o∈O1,o.upto O1.length:=by
  rw[<-dU,dM];refine bo br hf fun h=>?_;simp only[aS,av,ae.upto,true_and,and_true]at h ⊢;rw[fi];exact h
 have gD:=jq ew nD vW (by rw[fi,<-dU];exact hu) i.args lN;have jM:f'.bT=f.bT:=by rw[fi]
 have nW:f'.vals=f.vals:=by rw[fi]
 rw[jM,nW,<-fc]at gD;rw[jM]at nD;have ik:O.length<=O.length:=Nat.le_refl _;have jP:=kA ew rh 5 0;have fg:=bo ew rh (ds:=aA u (m.stop 5 0)) (fun h=>bU h rfl);have jf:=b6 (O:=O1) (k:=2) (x:=.cells (aA u (m.stop 5 0)));unfold aA at rh;have hd:decide (c.kind=2)=true:=decide_eq_true hk;have kW:decide ((D.params.length:Int)=args.length)=false:=decide_eq_false (by omega);refine fo hT true (O.length) Tryz.func83 rfl (by kernel_rfl) (by simp[Tryz.ntmps83]) (by assumption) ?_;show cn Tryz.prog _ _ _ ⟨137,_,_⟩;dsimp only[Tmp,TypeId,slotsOf];refine aU ?_;simp -dsimp only[simprocAttr,↓aa,zp,mg,sQ,Nat.mul_one,dG,fw]
 repeat(refine⟨by omega,?_⟩)
 refine⟨ob (by kernel_rfl),?_⟩;refine ah ?_;refine aU ?_;simp -dsimp only[simprocAttr,↓aa,zp,mg,ef,hF,hB,pN]
 repeat(refine⟨by omega,?_⟩)
 refine⟨bP [2,f.bT] O.length [.pure,.pure,.pure,.pure,.rd 0,.pure,.pure,.pure,.rd 1,.pure,.pure,.pure,.pure,.pure,.pure,.rd 1,.pure,.pure,.wr 2 [],.wr 3 [2]] (by simp;omega) (by simp;omega) rfl rfl (by kernel_rfl),aV ?_⟩;simp -dsimp only[bF,ne_eq,Nat.reduceEqDiff,reduceCtorEq];refine aK 3 ([a7 B.params,bW B.ins,aI B.term.kind,aI B.term.arg,aI B.term.n,a7 B.term.cases,aH B.term.to]) [(0,.mp 2 0),(2,.mp f.bT 0),(3,.ip none [a7 B.params,bW B.ins,aI B.term.kind,aI B.term.arg,aI B.term.n,a7 B.term.cases,aH B.term.to])] rfl (by rfl) (by omega) (by simp[bt,bc,Go.Av.look]) ?_ ?_ ?_
 ·exact br
 ·simp[ae.upto,av,gG,eo,ax,Edge.ak,Ins.ak]
 refine cK ?_;simp -dsimp only[simprocAttr,↓aa,zp,ef];refine⟨ob (by kernel_rfl),?_⟩;refine ah ?_;apply aP rfl<;>intro h
 ·exact ab h (by omega)
 refine ct ?_;refine aU ?_;simp -dsimp only[simprocAttr,↓aa,zp,ef,hi,Int.toNat_natCast]
 repeat(refine⟨by omega,?_⟩)
 refine⟨bP [f.bT] O.length [.pure,.pure,.pure,.pure,.pure,.rd 0,.pure,.pure,.wr 1 [],.wr 2 [1]] (by simp) (by simp;omega) rfl rfl (by kernel_rfl),aV ?_⟩;simp -dsimp only[bF,ne_eq,Nat.reduceEqDiff,reduceCtorEq];refine aK 4 ([aI i.to,aI i.op,aI i.n,a7 i.args]) [(0,.mp 2 0),(2,.mp f.bT 0),(4,.ip none [aI i.to,aI i.op,aI i.n,a7 i.args])] rfl (by rfl) (by omega) (by simp[bt,bc,Go.Av.look]) ?_ ?_ ?_
 ·exact br
 ·simp[ae.upto,av,gG,eo,ax]
 refine aU ?_;simp -dsimp only[simprocAttr,↓aa,zp,ef,hs,q9,<-dM]
 repeat(refine⟨by omega,?_⟩)
 refine ah ?_;refine az ?_;refine .inr (.inr ⟨_,gD,ao (zj ?_)⟩);refine ah ?_;refine az (ah ?_);refine ag ?_;refine az (ah ?_);apply aP rfl<;>intro h
 ·exact ab h (by omega)
 refine az (ah ?_);apply aP rfl<;>intro h
 ·refine aU ?_;simp -dsimp only[simprocAttr,↓aa,zp,Ge];refine ah ?_;refine aK 6 [aI c.kind,aI c.n,.aB 4 (c.list.map SV.enc) .sh,eP c.arr] [(0,.mp 2 0),(2,.mp f.bT 0),(4,.ip none [aI i.to,aI i.op,aI i.n,a7 i.args]),(5,.aB 4 (args.map SV.enc) .sh),(6,.ip none [aI c.kind,aI c.n,.aB 4 (c.list.map SV.enc) .sh,eP c.arr])] rfl (by simp only[List.map_cons,List.map_nil,cF,b9,cg]) (by omega) (by simp[bt,bc,Go.Av.look]) ew ?_ ?_
  ·have tN:=(Pf c (List.mem_of_getElem? Ge)).aL;rw[SV.fG]at tN;simp only[av,ae.upto,true_and,and_true]at tN;have OY:=SV.ak Pf;simp[ae.upto,av,<-dU,gG,eo,ax,tN,OY];simp[dU,tN,OY]
  refine aU ?_;simp -dsimp only[simprocAttr,↓aa,zp,hd,rh,hG,hD,kW]
  repeat(refine⟨by omega,?_⟩)
  refine⟨ob (by kernel_rfl),?_⟩;refine ah ?_;refine cm rfl ?_;refine cC ?_;refine .inr (.inl ⟨_,_,jP,.inl (ao ?_)⟩);simp -dsimp only[simprocAttr,↓aa,zp,dU]
  (refine aV ?_;simp -dsimp only[bF,ne_eq,Nat.reduceEqDiff,reduceCtorEq])
  skip
  simp -dsimp only[simprocAttr,↓aa,zp,zr,Tryz.results83,jf,List.length_set,dU];exact⟨fg,trivial⟩
 exact af h (by omega)
theorem Ho{u:cu}{m:Mach}{O:List ai}(br:∀o∈O,o.upto O.length)(h0:O[2]?=some (.cells (aA u m)))(f:Fr)(r:List Fr)(dK:m.frames=f::r)(hf:O[f.bT]?=some (.cells (aS f)))(z6:f.bT≠2)
  {cs:List ae} (dG:O[m.sid]?=some (.cells cs)) (fw:cs[r.length]?=some (.mp f.bT 0)) (A9:r.length<=2 ^ 40) (F:Func) (hF:u.fns[f.fn.toNat]?=some F) (rf:0<=f.fn) (B:Block) (hB:F.blocks[f.blk.toNat]?=some B) (q8:0<=f.blk) (hv:O[f.dt]?=some (.map (.int .i64) (f.vals.map gv))) (tT:f.bT≠f.dt) (hu:∀e∈f.vals,SV.bk O.length e.2) (i:Ins) (hi:B.ins[f.pos]?=some i) (tQ:f.pos<=2 ^ 41) (lN:i.args.length<=4096) (f':Fr) (fi:f' = { f with pos:=f.pos+1 }) (args:List SV) (fc:args=fY f.vals i.args) (O1:List ai) (dM:O1=O.set f.bT (.cells (aS f'))) (jN:i.op≠13∧i.op≠14) {O2:List ai} (v:SV) (t:Int) (hC:bh Tryz.prog 115 O1 [.mp 2 0,i.enc,.aB 4 (args.map SV.enc) .sh] (fun r O3=>r=.cx [v.enc,aI t]∧O3=O2)) (hlen:O.length<=O2.length) (fg:∀o∈O2,o.upto O2.length) (nw:SV.bk O2.length v) (m2:Mach) (SF:O2[2]?=some (.cells (aA u m2)))
  (I4:O2[f.bT]?=some (.cells (aS f'))) (Ph:O2[f.dt]?=some (.map (.int .i64) (f.vals.map gv))) (wL:∀e∈f.vals,SV.bk O2.length e.2) (YJ:f.dt≠2) (ht:t=0) :
  bh Tryz.prog 83 O [.mp 2 0] (fun r O3=>r=.cx []∧O3=O2.set f.dt (.map (.int .i64) ((eT f.vals i.to v).map gv))):=by
 have gG:=I hf;have eo:=I h0;have ef:=hf;unfold aS at ef;have mg:O[2]?=some (.cells [b8 u.fns,aI u.main,.os m.sid (r.length+1) 1,aI m.left,.v (.bool m.short),.v (.bool m.over),.aB 1 (m.out.map aI) (.tok 3),aI m.fin,aI m.val]):=by
  rw[h0];unfold aA;rw[dK];rfl
 have sQ:((r.length+1:Nat):Int)-1=(r.length:Nat):=by omega
 have I':=I hi;have hs:=dr hf;have dU:O.length=O1.length:=by rw[dM];simp
 have q9:[aI f.fn,aI f.blk,aI ((f.pos:Int)+1),aI f.to,.mm f.dt]=aS f':=by
  rw[fi];simp[aS]
 have nD:O1[f'.bT]?=some (.cells (aS f')):=by rw[dM,fi];exact hs _
 have vW:O1[f'.dt]?=some (.map (.int .i64) (f'.vals.map gv)):=by rw[dM,fi];exact aW hv tT
 have ew:∀o∈O1,o.upto O1.length:=by
  rw[<-dU,dM];refine bo br hf fun h=>?_;simp only[aS,av,ae.upto,true_and,and_true]at h ⊢;rw[fi];exact h
 have gD:=jq ew nD vW (by rw[fi,<-dU];exact hu) i.args lN;have jM:f'.bT=f.bT:=by rw[fi]
 have nW:f'.vals=f.vals:=by rw[fi]
 rw[jM,nW,<-fc]at gD;rw[jM]at nD;have Qf:=I I4;have Ql:=I SF;have QK:=nw.aL;rw[SV.fG]at QK;simp only[av,ae.upto,true_and,and_true]at QK;have hd:decide (t=0)=true:=decide_eq_true ht;have Tt:aS f'=[aI f.fn,aI f.blk,aI ((f.pos:Int)+1),aI f.to,.mm f.dt]:=q9.symm;have Jf:lC O2.length ((eT f.vals i.to v).map gv):=AK fun x hx=>by
  rcases jk hx with q|q
  ·exact wL x q
  rw[q];exact nw
 rw[Tt]at I4;have wM:=bg (k:=f.dt) (x:=.map (.int .i64) ((eT f.vals i.to v).map gv)) fg Jf;have jf:=b6 (O:=O2) (k:=f.dt) (x:=.map (.int .i64) ((eT f.vals i.to v).map gv));refine fo hT true (O2.length) Tryz.func83 rfl (by kernel_rfl) (by simp[Tryz.ntmps83]) (by assumption) ?_;show cn Tryz.prog _ _ _ ⟨137,_,_⟩;dsimp only[Tmp,TypeId,slotsOf];refine aU ?_;simp -dsimp only[simprocAttr,↓aa,zp,mg,sQ,Nat.mul_one,dG,fw]
 repeat(refine⟨by omega,?_⟩)
 refine⟨ob (by kernel_rfl),?_⟩;refine ah ?_;refine aU ?_;simp -dsimp only[simprocAttr,↓aa,zp,mg,ef,hF,hB,pN]
 repeat(refine⟨by omega,?_⟩)
 refine⟨bP [2,f.bT] O.length [.pure,.pure,.pure,.pure,.rd 0,.pure,.pure,.pure,.rd 1,.pure,.pure,.pure,.pure,.pure,.pure,.rd 1,.pure,.pure,.wr 2 [],.wr 3 [2]] (by simp;omega) (by simp;omega) rfl rfl (by kernel_rfl),aV ?_⟩;simp -dsimp only[bF,ne_eq,Nat.reduceEqDiff,reduceCtorEq];refine aK 3 ([a7 B.params,bW B.ins,aI B.term.kind,aI B.term.arg,aI B.term.n,a7 B.term.cases,aH B.term.to]) [(0,.mp 2 0),(2,.mp f.bT 0),(3,.ip none [a7 B.params,bW B.ins,aI B.term.kind,aI B.term.arg,aI B.term.n,a7 B.term.cases,aH B.term.to])] rfl (by rfl) (by omega) (by simp[bt,bc,Go.Av.look]) ?_ ?_ ?_
 ·exact br
 ·simp[ae.upto,av,gG,eo,ax,Edge.ak,Ins.ak]
 refine cK ?_;simp -dsimp only[simprocAttr,↓aa,zp,ef];refine⟨ob (by kernel_rfl),?_⟩;refine ah ?_;apply aP rfl<;>intro h
 ·exact ab h (by omega)
 refine ct ?_;refine aU ?_;simp -dsimp only[simprocAttr,↓aa,zp,ef,hi,Int.toNat_natCast]
 repeat(refine⟨by omega,?_⟩)
 refine⟨bP [f.bT] O.length [.pure,.pure,.pure,.pure,.pure,.rd 0,.pure,.pure,.wr 1 [],.wr 2 [1]] (by simp) (by simp;omega) rfl rfl (by kernel_rfl),aV ?_⟩;simp -dsimp only[bF,ne_eq,Nat.reduceEqDiff,reduceCtorEq];refine aK 4 ([aI i.to,aI i.op,aI i.n,a7 i.args]) [(0,.mp 2 0),(2,.mp f.bT 0),(4,.ip none [aI i.to,aI i.op,aI i.n,a7 i.args])] rfl (by rfl) (by omega) (by simp[bt,bc,Go.Av.look]) ?_ ?_ ?_
 ·exact br
 ·simp[ae.upto,av,gG,eo,ax]
 refine aU ?_;simp -dsimp only[simprocAttr,↓aa,zp,ef,hs,q9,<-dM]
 repeat(refine⟨by omega,?_⟩)
 refine ah ?_;refine az ?_;refine .inr (.inr ⟨_,gD,ao (zj ?_)⟩);refine ah ?_;refine az (ah ?_);refine ag ?_;refine az (ah ?_);apply aP rfl<;>intro h
 ·exact ab h (by omega)
 refine az (ah ?_);apply aP rfl<;>intro h
 ·exact ab h (by omega)
 refine az ?_;refine .inr (.inl ⟨_,_,hC,.inl (ao (zj ?_))⟩);refine ah ?_;refine aK 7 [aI v.kind,aI v.n,.aB 4 (v.list.map SV.enc) .sh,eP v.arr] [(0,.mp 2 0),(2,.mp f.bT 0),(4,.ip none [aI i.to,aI i.op,aI i.n,a7 i.args]),(7,.ip none [aI v.kind,aI v.n,.aB 4 (v.list.map SV.enc) .sh,eP v.arr]),(8,aI t)] rfl (by simp only[List.map_cons,List.map_nil,cF,b9,cg]) (by omega) (by simp[bt,bc,Go.Av.look]) fg ?_ ?_
 ·simp[ae.upto,av,Qf,Ql,ax,QK]
 refine cK ?_;simp -dsimp only[simprocAttr,↓aa,zp,hd];refine ah ?_;refine cm rfl ?_;refine ct ?_;refine jD ?_;simp -dsimp only[simprocAttr,↓aa,zp,I4,Ph,rm];refine⟨ob (by kernel_rfl),?_⟩
 (refine aV ?_;simp -dsimp only[bF,ne_eq,Nat.reduceEqDiff,reduceCtorEq])
 skip
 simp -dsimp only[simprocAttr,↓aa,zp,zr,Tryz.results83,jf,List.length_set];exact⟨wM,trivial⟩
theorem Hq{u:cu}{m:Mach}{O:List ai}(br:∀o∈O,o.upto O.length)(h0:O[2]?=some (.cells (aA u m)))(f:Fr)(r:List Fr)(dK:m.frames=f::r)(hf:O[f.bT]?=some (.cells (aS f)))(z6:f.bT≠2)
  {cs:List ae} (dG:O[m.sid]?=some (.cells cs)) (fw:cs[r.length]?=some (.mp f.bT 0)) (A9:r.length<=2 ^ 40) (F:Func) (hF:u.fns[f.fn.toNat]?=some F) (rf:0<=f.fn) (B:Block) (hB:F.blocks[f.blk.toNat]?=some B) (q8:0<=f.blk) (hv:O[f.dt]?=some (.map (.int .i64) (f.vals.map gv))) (tT:f.bT≠f.dt) (hu:∀e∈f.vals,SV.bk O.length e.2) (i:Ins) (hi:B.ins[f.pos]?=some i) (tQ:f.pos<=2 ^ 41) (lN:i.args.length<=4096) (f':Fr) (fi:f' = { f with pos:=f.pos+1 }) (args:List SV) (fc:args=fY f.vals i.args) (O1:List ai) (dM:O1=O.set f.bT (.cells (aS f'))) (jN:i.op≠13∧i.op≠14) {O2:List ai} (v:SV) (t:Int) (hC:bh Tryz.prog 115 O1 [.mp 2 0,i.enc,.aB 4 (args.map SV.enc) .sh] (fun r O3=>r=.cx [v.enc,aI t]∧O3=O2)) (hlen:O.length<=O2.length) (fg:∀o∈O2,o.upto O2.length) (nw:SV.bk O2.length v) (m2:Mach) (SF:O2[2]?=some (.cells (aA u m2)))
  (I4:O2[f.bT]?=some (.cells (aS f'))) (Ph:O2[f.dt]?=some (.map (.int .i64) (f.vals.map gv))) (wL:∀e∈f.vals,SV.bk O2.length e.2) (YJ:f.dt≠2) (ht:t≠0) :
  bh Tryz.prog 83 O [.mp 2 0] (fun r O3=>r=.cx []∧O3=(O2.set 2 (.cells (aA u (m2.stop t 0)))).set f.dt (.map (.int .i64) ((eT f.vals i.to v).map gv))):=by
 have gG:=I hf;have eo:=I h0;have ef:=hf;unfold aS at ef;have mg:O[2]?=some (.cells [b8 u.fns,aI u.main,.os m.sid (r.length+1) 1,aI m.left,.v (.bool m.short),.v (.bool m.over),.aB 1 (m.out.map aI) (.tok 3),aI m.fin,aI m.val]):=by
  rw[h0];unfold aA;rw[dK];rfl
 have sQ:((r.length+1:Nat):Int)-1=(r.length:Nat):=by omega
 have I':=I hi;have hs:=dr hf;have dU:O.length=O1.length:=by rw[dM];simp
 have q9:[aI f.fn,aI f.blk,aI ((f.pos:Int)+1),aI f.to,.mm f.dt]=aS f':=by
  rw[fi];simp[aS]
 have nD:O1[f'.bT]?=some (.cells (aS f')):=by rw[dM,fi];exact hs _
 have vW:O1[f'.dt]?=some (.map (.int .i64) (f'.vals.map gv)):=by rw[dM,fi];exact aW hv tT
 have ew:∀o∈O1,o.upto O1.length:=by
  rw[<-dU,dM];refine bo br hf fun h=>?_;simp only[aS,av,ae.upto,true_and,and_true]at h ⊢;rw[fi];exact h
 have gD:=jq ew nD vW (by rw[fi,<-dU];exact hu) i.args lN;have jM:f'.bT=f.bT:=by rw[fi]
 have nW:f'.vals=f.vals:=by rw[fi]
 rw[jM,nW,<-fc]at gD;rw[jM]at nD;have Qf:=I I4;have Ql:=I SF;have QK:=nw.aL;rw[SV.fG]at QK;simp only[av,ae.upto,true_and,and_true]at QK;have hd:decide (t=0)=false:=decide_eq_false ht;have Tt:aS f'=[aI f.fn,aI f.blk,aI ((f.pos:Int)+1),aI f.to,.mm f.dt]:=q9.symm;have Jf:lC O2.length ((eT f.vals i.to v).map gv):=AK fun x hx=>by
  rcases jk hx with q|q
  ·exact wL x q
  rw[q];exact nw
 have jP:=kA fg SF t 0;obtain⟨O3,SN⟩:∃O3,O3=O2.set 2 (.cells (aA u (m2.stop t 0))):=⟨_,rfl⟩
 have Jc:O2.length=O3.length:=by rw[SN];simp
 rw[<-SN]at jP ⊢;have X3:O3[f.bT]?=some (.cells (aS f')):=by rw[SN];exact aW I4 z6.symm
 have hv3:O3[f.dt]?=some (.map (.int .i64) (f.vals.map gv)):=by rw[SN];exact aW Ph YJ.symm
 rw[Tt]at X3;have wM:∀o∈O3.set f.dt (.map (.int .i64) ((eT f.vals i.to v).map gv)),o.upto O3.length:=by
  rw[<-Jc];refine bg ?_ Jf;rw[SN];exact bo fg SF (fun h=>bU h rfl)
 have jf:=b6 (O:=O3) (k:=f.dt) (x:=.map (.int .i64) ((eT f.vals i.to v).map gv));refine fo hT true (O2.length) Tryz.func83 rfl (by kernel_rfl) (by simp[Tryz.ntmps83]) (by assumption) ?_;show cn Tryz.prog _ _ _ ⟨137,_,_⟩;dsimp only[Tmp,TypeId,slotsOf];refine aU ?_;simp -dsimp only[simprocAttr,↓aa,zp,mg,sQ,Nat.mul_one,dG,fw]
 repeat(refine⟨by omega,?_⟩)
 refine⟨ob (by kernel_rfl),?_⟩;refine ah ?_;refine aU ?_;simp -dsimp only[simprocAttr,↓aa,zp,mg,ef,hF,hB,pN]
 repeat(refine⟨by omega,?_⟩)
 refine⟨bP [2,f.bT] O.length [.pure,.pure,.pure,.pure,.rd 0,.pure,.pure,.pure,.rd 1,.pure,.pure,.pure,.pure,.pure,.pure,.rd 1,.pure,.pure,.wr 2 [],.wr 3 [2]] (by simp;omega) (by simp;omega) rfl rfl (by kernel_rfl),aV ?_⟩;simp -dsimp only[bF,ne_eq,Nat.reduceEqDiff,reduceCtorEq];refine aK 3 ([a7 B.params,bW B.ins,aI B.term.kind,aI B.term.arg,aI B.term.n,a7 B.term.cases,aH B.term.to]) [(0,.mp 2 0),(2,.mp f.bT 0),(3,.ip none [a7 B.params,bW B.ins,aI B.term.kind,aI B.term.arg,aI B.term.n,a7 B.term.cases,aH B.term.to])] rfl (by rfl) (by omega) (by simp[bt,bc,Go.Av.look]) ?_ ?_ ?_
 ·exact br
 ·simp[ae.upto,av,gG,eo,ax,Edge.ak,Ins.ak]
 refine cK ?_;simp -dsimp only[simprocAttr,↓aa,zp,ef];refine⟨ob (by kernel_rfl),?_⟩;refine ah ?_;apply aP rfl<;>intro h
 ·exact ab h (by omega)
 refine ct ?_;refine aU ?_;simp -dsimp only[simprocAttr,↓aa,zp,ef,hi,Int.toNat_natCast]
 repeat(refine⟨by omega,?_⟩)
 refine⟨bP [f.bT] O.length [.pure,.pure,.pure,.pure,.pure,.rd 0,.pure,.pure,.wr 1 [],.wr 2 [1]] (by simp) (by simp;omega) rfl rfl (by kernel_rfl),aV ?_⟩;simp -dsimp only[bF,ne_eq,Nat.reduceEqDiff,reduceCtorEq];refine aK 4 ([aI i.to,aI i.op,aI i.n,a7 i.args]) [(0,.mp 2 0),(2,.mp f.bT 0),(4,.ip none [aI i.to,aI i.op,aI i.n,a7 i.args])] rfl (by rfl) (by omega) (by simp[bt,bc,Go.Av.look]) ?_ ?_ ?_
 ·exact br
 ·simp[ae.upto,av,gG,eo,ax]
 refine aU ?_;simp -dsimp only[simprocAttr,↓aa,zp,ef,hs,q9,<-dM]
 repeat(refine⟨by omega,?_⟩)
 refine ah ?_;refine az ?_;refine .inr (.inr ⟨_,gD,ao (zj ?_)⟩);refine ah ?_;refine az (ah ?_);refine ag ?_;refine az (ah ?_);apply aP rfl<;>intro h
 ·exact ab h (by omega)
 refine az (ah ?_);apply aP rfl<;>intro h
 ·exact ab h (by omega)
 refine az ?_;refine .inr (.inl ⟨_,_,hC,.inl (ao (zj ?_))⟩);refine ah ?_;refine aK 7 [aI v.kind,aI v.n,.aB 4 (v.list.map SV.enc) .sh,eP v.arr] [(0,.mp 2 0),(2,.mp f.bT 0),(4,.ip none [aI i.to,aI i.op,aI i.n,a7 i.args]),(7,.ip none [aI v.kind,aI v.n,.aB 4 (v.list.map SV.enc) .sh,eP v.arr]),(8,aI t)] rfl (by simp only[List.map_cons,List.map_nil,cF,b9,cg]) (by omega) (by simp[bt,bc,Go.Av.look]) fg ?_ ?_
 ·simp[ae.upto,av,Qf,Ql,ax,QK]
 refine cK ?_;simp -dsimp only[simprocAttr,↓aa,zp,hd];refine ah ?_;refine cY rfl ?_;refine cC ?_;refine .inr (.inl ⟨_,_,jP,.inl (ao (zj ?_))⟩);refine ah ?_;refine jD ?_;simp -dsimp only[simprocAttr,↓aa,zp,X3,hv3,rm];refine⟨ob (by kernel_rfl),?_⟩
 (refine aV ?_;simp -dsimp only[bF,ne_eq,Nat.reduceEqDiff,reduceCtorEq])
 skip
 simp -dsimp only[simprocAttr,↓aa,zp,zr,Tryz.results83,Jc,jf,List.length_set];exact⟨wM,trivial⟩
end Go.Proofs.YtjdnhamngpafmaaGreat
namespace Go.Proofs.YtjdnhamngpafmaaGreat
open Go.Av
def Holds(L:List (Nat×ai))(O:List ai):Prop:=∀p∈L,O[p.1]?=some p.2
def dV(L:List (Nat×ai)):List Nat:=L.map Prod.fst
theorem dT(A B:List (Nat×ai)):dV (A++B)=dV A++dV B:=by simp[dV]
theorem jg(p:Nat×ai)(B:List (Nat×ai)):dV (p::B)=p.1::dV B:=rfl
theorem gz{L:List (Nat×ai)}{p:Nat×ai}(h:p∈L):p.1∈dV L:=List.mem_map.2 ⟨p,h,rfl⟩
theorem gy{A B:List (Nat×ai)}{id:Nat}{y x:ai}{O:List ai}(h:Holds (A++(id,y)::B) O)(hn:(dV (A++(id,y)::B)).Nodup):Holds (A++(id,x)::B) (O.set id x):=by
 rw[dT,jg,List.nodup_append]at hn;obtain⟨_,hB,Y1⟩:=hn;rw[List.nodup_cons]at hB;intro p hp;rcases List.mem_append.1 hp with q|q
 ·have bD:id≠p.1:=fun e=>Y1 p.1 (gz q) id List.mem_cons_self e.symm;exact aW (h p (by simp[q])) bD
 rcases List.mem_cons.1 q with rfl|q
 ·exact ja (h (id,y) (by simp))
 have bD:id≠p.1:=fun e=>hB.1 (by
  show id∈dV B;rw[e];exact gz q)
 exact aW (h p (by simp[q])) bD
theorem ji(A B:List (Nat×ai))(id:Nat)(y x:ai):dV (A++(id,y)::B)=dV (A++(id,x)::B):=by simp[dV]
theorem Holds.sub{L M:List (Nat×ai)}{O:List ai}(h:Holds L O)(hs:∀p∈M,p∈L):Holds M O:=fun p hp=>h p (hs p hp)
theorem Holds.lt{L:List (Nat×ai)}{O:List ai}(h:Holds L O):∀k∈dV L,k<O.length:=fun k hk=>by
 obtain⟨p,hp,rfl⟩:=List.mem_map.1 hk;exact I (h p hp)
def mB:List Fr->List (Nat×ai)
 | []=>[]
 | f::r=>(f.bT,.cells (aS f))::(f.dt,.map (.int .i64) (f.vals.map gv))::mB r
def dE:List Cc->List (Nat×ai)
 | []=>[]
 | a::r=>(a.lD,.cells [.ms a.dF 0 a.l.length a.l.length])::(a.dF,.cells (al (a.l.map SV.enc)))::dE r
theorem pI(A B:List Cc):dE (A++B)=dE A++dE B:=by
 induction A with
 | nil=>rfl
 | cons a r ih=>simp[dE,ih]
def ca(u:cu)(m:Mach)(rest:List ae):List (Nat×ai) :=
 (1,.cells [.aB 1 [] .ex,aI 0,aI 0])::(2,.cells (aA u m))::(3,.spare m.out.length)::(m.sid,.cells (ez m.frames++rest))::(mB m.frames++dE m.heap)
structure Tl(u:cu)(m:Mach)(rest:List ae)(O:List ai):Prop where
 len:O.length=m.next
 upto:∀o∈O,o.upto O.length
 holds:Holds (ca u m rest) O
 nodup:(dV (ca u m rest)).Nodup
namespace Tl
variable {u:cu} {m:Mach} {rest:List ae} {O:List ai}
theorem gd(h:Tl u m rest O):O[2]?=some (.cells (aA u m)):=h.holds (2,_) (by simp[ca])
theorem outs(h:Tl u m rest O):O[3]?=some (.spare m.out.length):=h.holds (3,_) (by simp[ca])
theorem stack(h:Tl u m rest O):O[m.sid]?=some (.cells (ez m.frames++rest)):=h.holds (m.sid,_) (by simp[ca])
theorem oT{l:List Fr}{f:Fr}(hf:f∈l):(f.bT,ai.cells (aS f))∈mB l∧(f.dt,ai.map (.int .i64) (f.vals.map gv))∈mB l:=by
 induction l with
 | nil=>simp at hf
 | cons g r ih =>
  rcases List.mem_cons.1 hf with rfl|hf
  ·simp[mB]
  simp[mB,ih hf]
theorem yn{l:List Cc}{a:Cc}(ha:a∈l):(a.lD,ai.cells [.ms a.dF 0 a.l.length a.l.length])∈dE l∧(a.dF,ai.cells (al (a.l.map SV.enc)))∈dE l:=by
 induction l with
 | nil=>simp at ha
 | cons g r ih =>
  rcases List.mem_cons.1 ha with rfl|ha
  ·simp[dE]
  simp[dE,ih ha]
theorem frame(h:Tl u m rest O){f:Fr}(hf:f∈m.frames):O[f.bT]?=some (.cells (aS f))∧O[f.dt]?=some (.map (.int .i64) (f.vals.map gv)) :=
 ⟨h.holds (f.bT,_) (by simp[ca,oT hf]),h.holds (f.dt,_) (by simp[ca,oT hf])⟩
theorem arr(h:Tl u m rest O){a:Cc}(ha:a∈m.heap):O[a.lD]?=some (.cells [.ms a.dF 0 a.l.length a.l.length])∧O[a.dF]?=some (.cells (al (a.l.map SV.enc))) :=
 ⟨h.holds (a.lD,_) (by simp[ca,yn ha]),h.holds (a.dF,_) (by simp[ca,yn ha])⟩
theorem under(h:Tl u m rest O){v:SV}(hv:fX u m v):SV.bk O.length v :=
 SV.Wf.under (fun id ⟨a,ha,e⟩=>by
  rw[<-e];exact I (h.arr ha).1) hv
theorem pc(h:Tl u m rest O)(m':Mach)(h1:m'.sid=m.sid)(h2:m'.frames=m.frames)(h3:m'.heap=m.heap)(h4:m'.out.length=m.out.length)(h5:m'.next=m.next):Tl u m' rest (O.set 2 (.cells (aA u m'))):=by
 have e:ca u m' rest=[(1,.cells [.aB 1 [] .ex,aI 0,aI 0])]++(2,.cells (aA u m'))::((3,.spare m.out.length)::(m.sid,.cells (ez m.frames++rest))::(mB m.frames++dE m.heap)):=by
  simp[ca,h1,h2,h3,h4]
 refine⟨by simp[h.len,h5],?_,?_,?_⟩
 ·rw[List.length_set];exact bo h.upto h.gd (fun q=>bU q h1)
 ·rw[e];exact gy (A:=[_]) (y:=.cells (aA u m)) h.holds h.nodup
 rw[e,<-ji _ _ _ (.cells (aA u m))];exact h.nodup
theorem Q2(h:Tl u m rest O)(m':Mach)(h1:m'.sid=m.sid)(h2:m'.frames=m.frames)(h3:m'.heap=m.heap)(h5:m'.next=m.next):Tl u m' rest ((O.set 3 (.spare m'.out.length)).set 2 (.cells (aA u m'))):=by
 have e:ca u m' rest=[(1,.cells [.aB 1 [] .ex,aI 0,aI 0])]++(2,.cells (aA u m'))::((3,.spare m'.out.length)::(m.sid,.cells (ez m.frames++rest))::(mB m.frames++dE m.heap)):=by
  simp[ca,h1,h2,h3]
 have hs:=gy (A:=[(1,.cells [.aB 1 [] .ex,aI 0,aI 0]),(2,.cells (aA u m))]) (x:=.spare m'.out.length) (y:=.spare m.out.length) h.holds h.nodup;have hk:=ji [(1,.cells [.aB 1 [] .ex,aI 0,aI 0]),(2,.cells (aA u m))] ((m.sid,.cells (ez m.frames++rest))::(mB m.frames++dE m.heap)) 3 (.spare m.out.length) (.spare m'.out.length);have hn:(dV ([(1,.cells [.aB 1 [] .ex,aI 0,aI 0]),(2,.cells (aA u m))]++(3,.spare m'.out.length)::((m.sid,.cells (ez m.frames++rest))::(mB m.frames++dE m.heap)))).Nodup:=by
  rw[<-hk];exact h.nodup
 refine⟨by simp[h.len,h5],?_,?_,?_⟩
 ·rw[List.length_set,List.length_set];exact bo (bg h.upto trivial) (aW h.gd (by omega)) (fun q=>bU q h1)
 ·rw[e];exact gy (A:=[_]) (y:=.cells (aA u m)) hs hn
 rw[e,<-ji _ _ _ (.cells (aA u m))];exact hn
theorem bQ(h:Tl u m rest O){f f':Fr}{r:List Fr}(dK:m.frames=f::r)(h1:f'.bT=f.bT)(h2:f'.dt=f.dt)(h3:f'.vals=f.vals):Tl u (m.bQ f') rest (O.set f.bT (.cells (aS f'))):=by
 have hm:aA u (m.bQ f')=aA u m:=by simp[aA,Mach.bQ,dK]
 have hp:ez (f'::r)=ez (f::r):=by simp[ez,h1]
 have e:ca u (m.bQ f') rest=[(1,.cells [.aB 1 [] .ex,aI 0,aI 0]),(2,.cells (aA u m)),(3,.spare m.out.length),(m.sid,.cells (ez m.frames++rest))]++(f.bT,.cells (aS f'))::((f.dt,.map (.int .i64) (f.vals.map gv))::(mB r++dE m.heap)):=by
  unfold ca;rw[hm];simp[Mach.bQ,dK,mB,h1,h2,h3,hp]
 have e0:ca u m rest=[(1,.cells [.aB 1 [] .ex,aI 0,aI 0]),(2,.cells (aA u m)),(3,.spare m.out.length),(m.sid,.cells (ez m.frames++rest))]++(f.bT,.cells (aS f))::((f.dt,.map (.int .i64) (f.vals.map gv))::(mB r++dE m.heap)):=by
  simp[ca,dK,mB]
 have hh:=h.holds;have hn:=h.nodup;rw[e0]at hh hn;refine⟨by simp[h.len,Mach.bQ],?_,?_,?_⟩
 ·rw[List.length_set];refine bo h.upto (h.frame (f:=f) (by rw[dK];simp)).1 (fun q=>?_);simp only[aS,av,ae.upto,true_and,and_true,h2]at q ⊢;exact q
 ·rw[e];exact gy hh hn
 rw[e,<-ji _ _ _ (.cells (aS f))];exact hn
theorem zC(h:Tl u m rest O){f f':Fr}{r:List Fr}(dK:m.frames=f::r)(h1:f' = { f with vals:=f'.vals })(hu:∀e∈f'.vals,SV.bk O.length e.2):Tl u (m.bQ f') rest (O.set f.dt (.map (.int .i64) (f'.vals.map gv))):=by
 have hm:aA u (m.bQ f')=aA u m:=by simp[aA,Mach.bQ,dK]
 have jM:f'.bT=f.bT:=by rw[h1]
 have wG:f'.dt=f.dt:=by rw[h1]
 have I5:aS f'=aS f:=by rw[h1];rfl
 have hp:ez (f'::r)=ez (f::r):=by simp[ez,jM]
 have e:ca u (m.bQ f') rest=[(1,.cells [.aB 1 [] .ex,aI 0,aI 0]),(2,.cells (aA u m)),(3,.spare m.out.length),(m.sid,.cells (ez m.frames++rest)),(f.bT,.cells (aS f))]++(f.dt,.map (.int .i64) (f'.vals.map gv))::(mB r++dE m.heap):=by
  unfold ca;rw[hm];simp[Mach.bQ,dK,mB,jM,wG,I5,hp]
 have e0:ca u m rest=[(1,.cells [.aB 1 [] .ex,aI 0,aI 0]),(2,.cells (aA u m)),(3,.spare m.out.length),(m.sid,.cells (ez m.frames++rest)),(f.bT,.cells (aS f))]++(f.dt,.map (.int .i64) (f.vals.map gv))::(mB r++dE m.heap):=by
  simp[ca,dK,mB]
 have hh:=h.holds;have hn:=h.nodup;rw[e0]at hh hn;refine⟨by simp[h.len,Mach.bQ],?_,?_,?_⟩
 ·rw[List.length_set];exact bg h.upto (AK hu)
 ·rw[e];exact gy hh hn
 rw[e,<-ji _ _ _ (.map (.int .i64) (f.vals.map gv))];exact hn
theorem pop(h:Tl u m rest O){f g g':Fr}{r:List Fr}(dK:m.frames=f::g::r)(h1:g' = { g with vals:=g'.vals })(hu:∀e∈g'.vals,SV.bk O.length e.2)(m':Mach)(fa:m' = { m with frames:=g'::r }) :
  Tl u m' (.mp f.bT 0::rest) ((O.set 2 (.cells (aA u m'))).set g.dt (.map (.int .i64) (g'.vals.map gv))):=by
 have jM:g'.bT=g.bT:=by rw[h1]
 have wG:g'.dt=g.dt:=by rw[h1]
 have I5:aS g'=aS g:=by rw[h1];rfl
 have hp:ez (f::g::r)++rest=ez (g'::r)++.mp f.bT 0::rest:=by simp[ez,jM]
 have e0:ca u m rest=[(1,.cells [.aB 1 [] .ex,aI 0,aI 0])]++(2,.cells (aA u m))::((3,.spare m.out.length)::(m.sid,.cells (ez (g'::r)++.mp f.bT 0::rest))::(f.bT,.cells (aS f))::(f.dt,.map (.int .i64) (f.vals.map gv))::(g.bT,.cells (aS g))::(g.dt,.map (.int .i64) (g.vals.map gv))::(mB r++dE m.heap)):=by
  simp[ca,dK,mB,<-hp]
 have e1:ca u m' (.mp f.bT 0::rest)=[(1,.cells [.aB 1 [] .ex,aI 0,aI 0]),(2,.cells (aA u m')),(3,.spare m.out.length),(m.sid,.cells (ez (g'::r)++.mp f.bT 0::rest)),(g.bT,.cells (aS g))]++(g.dt,.map (.int .i64) (g'.vals.map gv))::(mB r++dE m.heap):=by
  rw[fa];simp[ca,mB,jM,wG,I5]
 have hh:=h.holds;have hn:=h.nodup;rw[e0]at hh hn;have h2:=gy (x:=.cells (aA u m')) hh hn;have Dq:∀p∈[(1,ai.cells [.aB 1 [] .ex,aI 0,aI 0]),(2,.cells (aA u m')),(3,.spare m.out.length),(m.sid,.cells (ez (g'::r)++.mp f.bT 0::rest)),(g.bT,.cells (aS g))]++(g.dt,.map (.int .i64) (g.vals.map gv))::(mB r++dE m.heap),p∈[(1,.cells [.aB 1 [] .ex,aI 0,aI 0])]++(2,.cells (aA u m'))::((3,.spare m.out.length)::(m.sid,.cells (ez (g'::r)++.mp f.bT 0::rest))::(f.bT,.cells (aS f))::(f.dt,.map (.int .i64) (f.vals.map gv))::(g.bT,.cells (aS g))::(g.dt,.map (.int .i64) (g.vals.map gv))::(mB r++dE m.heap)):=by
  intro p hp;simp only[List.cons_append,List.nil_append,List.mem_cons]at hp ⊢;rcases hp with q|q|q|q|q|q|q
  all_goals simp[q]
 have Yn:(dV ([(1,ai.cells [.aB 1 [] .ex,aI 0,aI 0]),(2,.cells (aA u m')),(3,.spare m.out.length),(m.sid,.cells (ez (g'::r)++.mp f.bT 0::rest)),(g.bT,.cells (aS g))]++(g.dt,.map (.int .i64) (g.vals.map gv))::(mB r++dE m.heap))).Nodup:=by
  refine List.Nodup.sublist ?_ hn;simp only[dV,List.map_cons,List.map_append,List.map_nil,List.cons_append,List.nil_append];exact((((List.Sublist.refl _).cons _).cons _).cons₂ _ |>.cons₂ _ |>.cons₂ _ |>.cons₂ _)
 have hg:=h2.sub Dq;refine⟨by rw[fa];simp[h.len],?_,?_,?_⟩
 ·rw[List.length_set,List.length_set];refine bg (bo h.upto h.gd (fun q=>bU q (by rw[fa]))) (AK hu)
 ·rw[e1];exact gy hg Yn
 rw[e1,<-ji _ _ _ (.map (.int .i64) (g.vals.map gv))];exact Yn
theorem last(h:Tl u m rest O){f:Fr}(dK:m.frames=[f])(m':Mach)(h1:m'.sid=m.sid)(h2:m'.frames=[])(h3:m'.heap=m.heap)(h4:m'.out.length=m.out.length)(h5:m'.next=m.next):Tl u m' (.mp f.bT 0::rest) (O.set 2 (.cells (aA u m'))):=by
 have e0:ca u m rest=[(1,.cells [.aB 1 [] .ex,aI 0,aI 0])]++(2,.cells (aA u m))::((3,.spare m.out.length)::(m.sid,.cells (.mp f.bT 0::rest))::(f.bT,.cells (aS f))::(f.dt,.map (.int .i64) (f.vals.map gv))::dE m.heap):=by
  simp[ca,dK,mB,ez]
 have e1:ca u m' (.mp f.bT 0::rest)=[(1,.cells [.aB 1 [] .ex,aI 0,aI 0]),(2,.cells (aA u m')),(3,.spare m.out.length),(m.sid,.cells (.mp f.bT 0::rest))]++dE m.heap:=by
  simp[ca,h1,h2,h3,h4,mB,ez]
 have hh:=h.holds;have hn:=h.nodup;rw[e0]at hh hn;refine⟨by simp[h.len,h5],?_,?_,?_⟩
 ·rw[List.length_set];exact bo h.upto h.gd (fun q=>bU q h1)
 ·rw[e1];refine(gy (x:=.cells (aA u m')) hh hn).sub fun p hp=>?_;simp only[List.cons_append,List.nil_append,List.mem_cons]at hp ⊢;rcases hp with q|q|q|q|q
  all_goals simp[q]
 rw[e1];refine List.Nodup.sublist ?_ hn;simp only[dV,List.map_cons,List.map_append,List.map_nil,List.cons_append,List.nil_append];exact((((List.Sublist.refl _).cons _).cons _).cons₂ _ |>.cons₂ _ |>.cons₂ _ |>.cons₂ _)
end Tl
end Go.Proofs.YtjdnhamngpafmaaGreat
namespace Go.Proofs.YtjdnhamngpafmaaGreat
open Go.Av
namespace Tl
variable {u:cu} {m:Mach} {rest:List ae} {O:List ai}
theorem keys(u:cu)(m:Mach)(rest:List ae):dV (ca u m rest)=1::2::3::m.sid::dV (mB m.frames++dE m.heap):=rfl
theorem others(h:Tl u m rest O):Holds (mB m.frames++dE m.heap) O∧(∀k∈dV (mB m.frames++dE m.heap),k≠1∧k≠2∧k≠3∧k≠m.sid∧k<O.length)∧(dV (mB m.frames++dE m.heap)).Nodup∧m.sid≠1∧m.sid≠2∧m.sid≠3∧m.sid<O.length∧3<O.length:=by
 have hn:=h.nodup;have a8:=h.holds.lt;rw[keys]at hn a8;simp only[List.nodup_cons,List.mem_cons,not_or]at hn;obtain⟨⟨a1,a2,a3,a4⟩,⟨b1,b2,b3⟩,⟨c1,c2⟩,d,e⟩:=hn;refine⟨fun p hp=>h.holds p (by simp only[ca,List.mem_cons];exact .inr (.inr (.inr (.inr hp)))),fun k hk=>⟨?_,?_,?_,?_,a8 k (by simp[hk])⟩,e,fun q=>a3 q.symm,fun q=>b2 q.symm,fun q=>c1 q.symm,a8 _ (by simp),a8 3 (by simp)⟩
 ·rintro rfl;exact a4 hk
 ·rintro rfl;exact b3 hk
 ·rintro rfl;exact c2 hk
 rintro rfl;exact d hk
theorem push(h:Tl u m rest O)(fn to:Int)(args:List SV)(m':Mach)(fa:m'=m.enter u fn args to)(hu:∀v∈args,SV.bk O.length v) :
  Tl u m' [] (((O.set m.sid .gone).set 2 (.cells (aA u m'))) ++
   [.map (.int .i64) ((gh [] (aY (cS u fn) 0).params args).map gv),.cells [aI fn,aI 0,aI 0,aI to,.mm O.length],.cells (mq (ez m.frames++rest) m.frames.length (O.length+1))]):=by
 obtain⟨ho,hk,vV,s1,s2,s3,s4,s5⟩:=h.others;have hN:=h.len;have tQ:(ez m.frames).length=m.frames.length:=by simp[ez]
 obtain⟨O2,tM⟩:∃O2,O2=(O.set m.sid .gone).set 2 (.cells (aA u m')):=⟨_,rfl⟩
 have yR:O2.length=O.length:=by rw[tM];simp
 have WC:mq (ez m.frames++rest) m.frames.length (O.length+1)=ez m'.frames++[]:=by
  rw[fa];unfold mq;rw[List.take_append_of_le_length (by omega),List.take_of_length_le (by omega)];simp[ez,Mach.enter,hN]
 rw[WC,<-tM];have e1:ca u m' []=(1,.cells [.aB 1 [] .ex,aI 0,aI 0])::(2,.cells (aA u m'))::(3,.spare m.out.length)::(O.length+2,.cells (ez m'.frames++[]))::(O.length+1,.cells [aI fn,aI 0,aI 0,aI to,.mm O.length])::(O.length,.map (.int .i64) ((gh [] (aY (cS u fn) 0).params args).map gv))::(mB m.frames++dE m.heap):=by
  rw[fa];simp[ca,Mach.enter,mB,hN,aS]
 have hold:∀k o,O[k]?=some o->k≠m.sid->k≠2->∀X,(O2++X)[k]?=some o:=fun k o hk h1 h2 X=>by
  refine bS ?_;rw[tM];exact aW (aW hk (Ne.symm h1)) (Ne.symm h2)
 refine⟨by rw[fa];simp[yR,Mach.enter,hN],?_,?_,?_⟩
 ·have hlen:(O2++[ai.map (.int .i64) ((gh [] (aY (cS u fn) 0).params args).map gv),.cells [aI fn,aI 0,aI 0,aI to,.mm O.length],.cells (ez m'.frames++[])]).length=O.length+3:=by simp[yR]
  rw[hlen];intro o iT;rcases List.mem_append.1 iT with q|q
  ·rw[tM]at q;refine bo (n:=O.length+3) (ds:=aA u m') (bg (k:=m.sid) (x:=.gone) (fun o ho=>ai.bK (by omega) (h.upto o ho)) trivial) (aW h.gd s2) (fun q=>?_) o q;simp only[aA,av,ae.upto,ax,Func.ak,true_and,and_true,fa,Mach.enter]at q ⊢;omega
  simp only[List.mem_cons,List.mem_nil_iff,or_false]at q;rcases q with rfl|rfl|rfl
  ·refine AK fun x hx=>?_;rcases ky hx with q|q
   ·simp at q
   exact(hu _ q).mono (by omega)
  ·simp[ai.upto,av,ae.upto]
  simp only[ai.upto,List.append_nil,aQ];intro x hx;simp only[ez,List.mem_map,List.mem_reverse]at hx;obtain⟨f,hf,rfl⟩:=hx;rw[fa]at hf;simp only[Mach.enter,List.mem_cons]at hf;rcases hf with rfl|hf
  ·simp[ae.upto,hN]
  have:=I (h.frame hf).1;simp only[ae.upto];omega
 ·rw[e1];intro p hp;simp only[List.mem_cons]at hp;rcases hp with rfl|rfl|rfl|rfl|rfl|rfl|hp
  ·exact hold 1 _ (h.holds (1,_) (by simp[ca])) (fun e=>s1 e.symm) (by omega) _
  ·refine bS ?_;rw[tM];exact ja (aW h.gd s2)
  ·exact hold 3 _ h.outs (fun e=>s3 e.symm) (by omega) _
  ·show(O2++_)[O.length+2]?=_;rw[<-yR,lf];rfl
  ·show(O2++_)[O.length+1]?=_;rw[<-yR,lf];rfl
  ·show(O2++_)[O.length]?=_;rw[<-yR,tI];rfl
  have:=hk p.1 (gz hp);exact hold p.1 _ (ho p hp) this.2.2.2.1 this.2.1 _
 rw[e1];simp only[jg,List.nodup_cons,List.mem_cons,not_or];refine⟨⟨by omega,by omega,by omega,by omega,by omega,fun q=>(hk 1 q).1 rfl⟩,⟨by omega,by omega,by omega,by omega,fun q=>(hk 2 q).2.1 rfl⟩,⟨by omega,by omega,by omega,fun q=>(hk 3 q).2.2.1 rfl⟩,⟨by omega,by omega,fun q=>?_⟩,⟨by omega,fun q=>?_⟩,fun q=>?_,vV⟩
 ·have:=(hk _ q).2.2.2.2;omega
 ·have:=(hk _ q).2.2.2.2;omega
 have:=(hk _ q).2.2.2.2;omega
theorem rE:∀(l:List Cc) (a:Cc) (x:List SV),a∈l->(dV (dE l)).Nodup->∃X Y,l=X++a::Y∧Mach.ke l (some a.lD) x=X++⟨a.lD,a.dF,x⟩::Y
 | [],_,_,h,_=>by simp at h
 | b::r,a,x,h,hn=>by
  unfold Mach.ke;rcases List.mem_cons.1 h with rfl|h
  ·exact⟨[],r,rfl,by simp⟩
  have bD:some a.lD≠some b.lD:=fun e=>by
   simp only[Option.some.injEq]at e;simp only[dE,jg,List.nodup_cons,List.mem_cons,not_or]at hn;exact hn.1.2 (by
    rw[<-e];exact gz (yn h).1)
  rw[if_neg bD];simp only[dE,jg,List.nodup_cons]at hn;obtain⟨X,Y,h1,h2⟩:=rE r a x h hn.2.2;exact⟨b::X,Y,by simp[h1],by simp[h2]⟩
theorem Nb(h:Tl u m rest O){a:Cc}(ha:a∈m.heap)(l:List SV)(hl:l.length=a.l.length)(hu:∀v∈l,SV.bk O.length v)(m':Mach)(fa:m' = { m with heap:=Mach.ke m.heap (some a.lD) l }):Tl u m' rest (O.set a.dF (.cells (al (l.map SV.enc)))):=by
 obtain⟨ho,hk,vV,s1,s2,s3,s4,s5⟩:=h.others;obtain⟨X,Y,e1,e2⟩:=rE m.heap a l ha (by
  rw[dT,List.nodup_append]at vV;exact vV.2.1)
 have TL:aA u m'=aA u m:=by rw[fa];rfl
 have e0:ca u m rest=((1,.cells [.aB 1 [] .ex,aI 0,aI 0])::(2,.cells (aA u m))::(3,.spare m.out.length)::(m.sid,.cells (ez m.frames++rest))::(mB m.frames++(dE X++[(a.lD,.cells [.ms a.dF 0 a.l.length a.l.length])])))++(a.dF,.cells (al (a.l.map SV.enc)))::dE Y:=by
  unfold ca;rw[e1,pI];simp[dE]
 have e3:ca u m' rest=((1,.cells [.aB 1 [] .ex,aI 0,aI 0])::(2,.cells (aA u m))::(3,.spare m.out.length)::(m.sid,.cells (ez m.frames++rest))::(mB m.frames++(dE X++[(a.lD,.cells [.ms a.dF 0 a.l.length a.l.length])])))++(a.dF,.cells (al (l.map SV.enc)))::dE Y:=by
  unfold ca;rw[TL,fa];simp only[e2,pI];simp[dE,hl]
 have hh:=h.holds;have hn:=h.nodup;rw[e0]at hh hn;refine⟨by rw[fa];simp[h.len],?_,?_,?_⟩
 ·rw[List.length_set];exact bg h.upto (SV.jc hu)
 ·rw[e3];exact gy hh hn
 rw[e3,<-ji _ _ _ (.cells (al (a.l.map SV.enc)))];exact hn
theorem LB(h:Tl u m rest O)(l:List SV)(m':Mach)(J:List ai)(hJ:J.length=7)(Zd:∀o∈J,o.upto (O.length+9))(hu:∀v∈l,SV.bk O.length v)(h1:m'.sid=m.sid)(h2:m'.frames=m.frames)(h3:m'.heap=m.heap++[⟨m.next+8,m.next+7,l⟩])(h4:m'.out=m.out)(h5:m'.next=m.next+9) :
  Tl u m' rest (O.set 2 (.cells (aA u m'))++(J++[.cells (al (l.map SV.enc)),.cells [.ms (O.length+7) 0 l.length l.length]])):=by
 obtain⟨ho,hk,vV,s1,s2,s3,s4,s5⟩:=h.others;have hN:=h.len;obtain⟨O2,tM⟩:∃O2,O2=O.set 2 (.cells (aA u m')):=⟨_,rfl⟩
 have yR:O2.length=O.length:=by rw[tM];simp
 rw[<-tM];have e1:ca u m' rest=(1,.cells [.aB 1 [] .ex,aI 0,aI 0])::(2,.cells (aA u m'))::(3,.spare m.out.length)::(m.sid,.cells (ez m.frames++rest))::((mB m.frames++dE m.heap)++[(O.length+8,.cells [.ms (O.length+7) 0 l.length l.length]),(O.length+7,.cells (al (l.map SV.enc)))]):=by
  simp[ca,h1,h2,h3,h4,pI,dE,hN]
 have hold:∀k o,O[k]?=some o->k≠2->∀X,(O2++X)[k]?=some o:=fun k o hk h2 X=>by
  refine bS ?_;rw[tM];exact aW hk (Ne.symm h2)
 refine⟨by simp[yR,h5,hN,hJ],?_,?_,?_⟩
 ·have hlen:(O2++(J++[ai.cells (al (l.map SV.enc)),.cells [.ms (O.length+7) 0 l.length l.length]])).length=O.length+9:=by simp[yR,hJ]
  rw[hlen];intro o iT;rcases List.mem_append.1 iT with q|q
  ·rw[tM]at q;exact bo (fun o ho=>ai.bK (by omega) (h.upto o ho)) h.gd (fun q=>bU q h1) o q
  rcases List.mem_append.1 q with q|q
  ·exact Zd o q
  simp only[List.mem_cons,List.mem_nil_iff,or_false]at q;rcases q with rfl|rfl
  ·exact SV.jc fun v hv=>(hu v hv).mono (by omega)
  simp[ai.upto,av,ae.upto]
 ·rw[e1];intro p hp;simp only[List.mem_cons,List.mem_append,List.mem_nil_iff,or_false]at hp;have XJ:∀k,(J++[ai.cells (al (l.map SV.enc)),.cells [.ms (O.length+7) 0 l.length l.length]])[7+k]?=[ai.cells (al (l.map SV.enc)),.cells [.ms (O.length+7) 0 l.length l.length]][k]?:=fun k=>by
   rw[<-hJ];exact lf
  rcases hp with rfl|rfl|rfl|rfl|hp|rfl|rfl
  ·exact hold 1 _ (h.holds (1,_) (by simp[ca])) (by omega) _
  ·refine bS ?_;rw[tM];exact ja h.gd
  ·exact hold 3 _ h.outs (by omega) _
  ·exact hold m.sid _ h.stack s2 _
  ·have:=hk p.1 (gz (List.mem_append.2 hp));exact hold p.1 _ (ho p (List.mem_append.2 hp)) this.2.1 _
  ·show(O2++_)[O.length+8]?=_;have hx:O.length+8=O2.length+8:=by omega
   rw[hx,lf];exact XJ 1
  show(O2++_)[O.length+7]?=_;have hx:=lf (O:=O2) (k:=7) (X:=J++[ai.cells (al (l.map SV.enc)),.cells [.ms (O.length+7) 0 l.length l.length]]);rw[yR]at hx;rw[hx];exact XJ 0
 rw[e1];simp only[jg,dT,List.nodup_cons,List.mem_cons,not_or,List.mem_append];have nF:∀k,(k∈dV (mB m.frames)∨k∈dV (dE m.heap))->k≠1∧k≠2∧k≠3∧k≠m.sid∧k<O.length:=fun k q=>hk k (by rw[dT];exact List.mem_append.2 q);refine⟨⟨by omega,by omega,by omega,⟨fun q=>(nF 1 (.inl q)).1 rfl,fun q=>(nF 1 (.inr q)).1 rfl⟩,by omega,by omega,by simp[dV]⟩,⟨by omega,by omega,⟨fun q=>(nF 2 (.inl q)).2.1 rfl,fun q=>(nF 2 (.inr q)).2.1 rfl⟩,by omega,by omega,by simp[dV]⟩,⟨by omega,⟨fun q=>(nF 3 (.inl q)).2.2.1 rfl,fun q=>(nF 3 (.inr q)).2.2.1 rfl⟩,by omega,by omega,by simp[dV]⟩,⟨⟨fun q=>(nF _ (.inl q)).2.2.2.1 rfl,fun q=>(nF _ (.inr q)).2.2.2.1 rfl⟩,by omega,by omega,by simp[dV]⟩,?_⟩;rw[List.nodup_append];rw[dT]at vV;refine⟨vV,by simp[dV],?_⟩;intro x hx y hy e;have:=(nF x (List.mem_append.1 hx)).2.2.2.2;simp only[dV,List.map_nil,List.mem_cons,List.mem_nil_iff,or_false]at hy;omega
end Tl
end Go.Proofs.YtjdnhamngpafmaaGreat
namespace Go.Proofs.YtjdnhamngpafmaaGreat
open Go.Av
theorem kD{l:List SV}{n:Nat}(h:l.length=n){k:Nat}(hk:k<n):∃x,l[k]?=some x:=⟨l[k]'(by omega),List.getElem?_eq_getElem _⟩
theorem Eg{l:List SV}(h:l.length=2):∃x y,l=[x,y]:=by
 match l,h with
 | [x,y],_=>exact⟨x,y,rfl⟩
theorem Co{O:List ai}{u:cu}{m:Mach}{rest:List ae}(ht:Tl u m rest O)(hm:cd u m){v:SV}(hv:fX u m v)(id:Option Nat)(h:id=v.arr):∀x∈Mach.jG m.heap id,SV.bk O.length x:=fun x hx=>by
 subst h;cases EW:v.arr with
 | none =>
  rw[EW]at hx;have:∀l:List Cc,Mach.jG l none=[]:=fun l=>by
   induction l with
   | nil=>rfl
   | cons a r ih=>simp[Mach.jG,ih]
  rw[this]at hx;simp at hx
 | some id =>
  obtain⟨a,ha,h1,h2⟩:=oJ m.heap id (SV.Wf.ref hv id EW);rw[EW,h2]at hx;exact ht.under ((hm.gL a ha).2 x hx)
theorem C3{u:cu}{m:Mach}{rest:List ae}{O:List ai}(ht:Tl u m rest O)(hm:cd u m)(k9:m.short=false){i:Ins}(hi:HK u i)(Lg:i.op≠13)(HB:i.op≠14){args:List SV}(lN:args.length=i.args.length)(ha:∀v∈args,fX u m v) :
  ∃O2,bh Tryz.prog 115 O [.mp 2 0,i.enc,.aB 4 (args.map SV.enc) .sh] (fun r O3=>r=.cx [(m.exec i args).2.1.enc,aI (m.exec i args).2.2]∧O3=O2)∧Tl u (m.exec i args).1 rest O2∧O.length<=O2.length:=by
 have br:=ht.upto;have hl:∀v∈args,SV.bk O.length v:=fun v hv=>ht.under (ha v hv);have Pl:∀v∈args,v.kind=0->fA v.n:=fun v hv hk=>SV.Wf.num (ha v hv) (.inl hk);have kW:m.left<=2 ^ 40:=by have:=hm.depth;omega
 have jN:=hi.op;have stay:∀{v:SV} {t:Int},m.exec i args=(m,v,t)->bh Tryz.prog 115 O [.mp 2 0,i.enc,.aB 4 (args.map SV.enc) .sh] (fun r O3=>r=.cx [(m.exec i args).2.1.enc,aI (m.exec i args).2.2]∧O3=O) ->
   ∃O2,bh Tryz.prog 115 O [.mp 2 0,i.enc,.aB 4 (args.map SV.enc) .sh] (fun r O3=>r=.cx [(m.exec i args).2.1.enc,aI (m.exec i args).2.2]∧O3=O2)∧Tl u (m.exec i args).1 rest O2∧O.length<=O2.length:=fun e hC =>
  ⟨O,hC,by rw[e];exact ht,Nat.le_refl _⟩
 by_cases h0:i.op=0
 ·exact stay (v:=.word i.n) (t:=0) (by simp[Mach.exec,h0]) (IK (u:=u) br i args hl h0)
 by_cases h1:1<=i.op∧i.op<=7
 ·have yR:=hi.c2 (.inl h1);obtain⟨x,hx⟩:=kD (lN.trans yR) (k:=0) (by omega);obtain⟨y,hy⟩:=kD (lN.trans yR) (k:=1) (by omega);have hC:=C2 (u:=u) (m:=m) br i args hl h1 x y hx hy (Pl x (List.mem_of_getElem? hx)) (Pl y (List.mem_of_getElem? hy));refine⟨O,hC,?_,Nat.le_refl _⟩;have e:(m.exec i args).1=m:=by
   unfold Mach.exec;rw[if_neg h0,if_pos h1];split<;>rfl
  rw[e];exact ht
 by_cases h8:i.op=8
 ·exact stay (v:=.mk 1 i.n args none) (t:=0) (by simp[Mach.exec,h8]) (IJ (u:=u) br i args hl h8)
 by_cases h9:i.op=9
 ·exact stay (v:=.mk 2 i.n args none) (t:=0) (by simp[Mach.exec,h9]) (F6 (u:=u) br i args hl h9)
 by_cases Mc:i.op=10∨i.op=11∨i.op=12∨i.op=21
 ·have hlen:0<args.length∧(i.op=21->args.length=2):=by
   rcases Mc with q|q|q|q
   ·have:=hi.c1 (by omega);omega
   ·have:=hi.c1 (by omega);omega
   ·have:=hi.c1 (by omega);omega
   have:=hi.c2 (by omega);omega
  obtain⟨x,hx⟩:=kD rfl hlen.1;obtain⟨q1,q2⟩:=vg (i:=i) ha;have hC:=Bq br i args hl x hx (fun a b c=>kD (hlen.2 (by omega)) (by omega)) (fun e=>hi.Vd (.inl e));refine stay (v:=(cO i args).1) (t:=(cO i args).2) ?_ (IL (u:=u) (m:=m) br i args hl Mc hC (ht.under q1));unfold Mach.exec;rw[if_neg h0,if_neg h1,if_neg h8,if_neg h9,if_pos Mc]
 by_cases UM:i.op=22∨i.op=23∨i.op=24
 ·have h2:i.op≠22->i.op≠24->∃x y,args=[x,y]:=fun a b=>Eg (lN.trans (hi.c2 (by omega)));obtain⟨q1,q2⟩:=vP (i:=i) ha (fun e=>by have:=hi.pack e;omega) h2;have hC:=BY br i args hl (fun e=>kD (lN.trans (hi.c1 (by omega))) (by omega)) h2 (fun e=>hi.Vd (.inr e)) (fun v hv hk=>sx (ha v hv) hk);refine stay (v:=(dc i args).1) (t:=(dc i args).2) ?_ (IM (u:=u) (m:=m) br i args hl UM hC (ht.under q1));unfold Mach.exec;rw[if_neg h0,if_neg h1,if_neg h8,if_neg h9,if_neg Mc,if_pos UM]
 by_cases uT:i.op=100
 ·obtain⟨x,hx⟩:=kD (lN.trans (hi.c1 (by omega))) (k:=0) (by omega);refine stay (v:=cw args 0) (t:=0) (by simp[Mach.exec,uT]) (F7 (u:=u) (m:=m) br i args hl uT x hx)
 have Gq:i.op≠10∧i.op≠11∧i.op≠12∧i.op≠21:=by omega
 have Gr:i.op≠22∧i.op≠23∧i.op≠24:=by omega
 have mg:2<O.length:=I ht.gd;have Mw:=AN m i args h0 h1 h8 h9 Gq Gr uT;have ka:=xn hm (i:=i) ha;by_cases Me:i.op=16
 ·obtain⟨x,y,e⟩:=Eg (lN.trans (hi.c2 (by omega)));subst e;have E1:=hl x (by simp);have Up:=hl y (by simp);have he:m.exec i [x,y]=m.bL x y:=by
   rw[Mw];simp[Mach.effect,Me,cw]
  rw[he];by_cases zX:x.kind=0∧0<=x.n∧x.n<=1024∧x.n<=m.left
  ·obtain⟨g1,g2,g3,g4⟩:=zX;have mO:(m.fI x.n).short=false:=by simp[Mach.fI,show ¬m.left<x.n by omega,k9]
   have dZ:m.bL x y=({ m.fI x.n with heap:=m.heap++[⟨m.next+8,m.next+7,List.replicate x.n.toNat y⟩],next:=m.next+9 },.mk 3 0 [] (some (m.next+8)),0):=by
    unfold Mach.bL;rw[if_neg (by omega),if_neg (by omega),if_neg (by simp[mO])]
   have hC:=L0 br ht.gd i x y E1 Up Me hm.left kW k9 g1 g2 g3 g4;rw[dZ];obtain⟨p1,p2,p3,p4,p5,p6,p7⟩:=gl m x.n;have TL:aA u ({ m.fI x.n with heap:=m.heap++[⟨m.next+8,m.next+7,List.replicate x.n.toNat y⟩],next:=m.next+9 }:Mach)=aA u (m.fI x.n):=rfl;have lx:=ht.LB (List.replicate x.n.toNat y) ({ m.fI x.n with heap:=m.heap++[⟨m.next+8,m.next+7,List.replicate x.n.toNat y⟩],next:=m.next+9 }:Mach)
    [.gone,.cells [aI 3,aI 0,.aB 4 [] .sh,.mp (O.length+8) 0],.gone,.cells [aI 3,aI 0,.aB 4 [] .sh,.mp (O.length+8) 0],.gone,.gone,.cells [aI 3,aI 0,.aB 4 [] .ex,.mp (O.length+8) 0]] rfl (fun o ho=>by
     simp only[List.mem_cons,List.mem_nil_iff,or_false]at ho;rcases ho with rfl|rfl|rfl|rfl|rfl|rfl|rfl
     all_goals simp[ai.upto,av,ae.upto]) (fun v hv=>by
     rw[(List.mem_replicate.1 hv).2];exact Up) p6 p1 rfl p3 rfl
   rw[TL]at lx;simp only[List.length_replicate]at lx;have V3:(SV.mk 3 0 [] (some (m.next+8))).enc=.agg [aI 3,aI 0,.aB 4 [] .sh,.mp (O.length+8) 0]:=by
    rw[SV.jd,ht.len];rfl
   refine⟨_,?_,lx,by simp⟩;simp only[V3];exact hC
  have eE:(m.bL x y).2.1=.zero∧(m.bL x y).1.sid=m.sid∧(m.bL x y).1.frames=m.frames∧(m.bL x y).1.heap=m.heap∧(m.bL x y).1.out=m.out∧(m.bL x y).1.next=m.next:=by
   obtain⟨p1,p2,p3,p4,p5,p6,p7⟩:=gl m x.n;unfold Mach.bL;split
   ·simp
   split
   ·simp
   split
   ·exact⟨rfl,p6,p1,p2,p3,p7⟩
   rename_i a1 a2 a3;exfalso;refine zX ⟨by omega,by omega,by omega,?_⟩;by_cases q:m.left<x.n
   ·exact absurd (show(m.fI x.n).short=true by simp[Mach.fI,q]) a3
   omega
  obtain⟨b0,b1,b2,b3,b4,b5⟩:=eE;have hC:=AI br ht.gd i x y E1 Up Me hm.left kW k9 (fun z=>by rw[b0];simp[SV.zero,SV.arr]);have lx:=ht.pc (m.bL x y).1 b1 b2 b3 (by rw[b4]) b5;exact⟨_,nN br i [x,y] hl h0 h1 h8 h9 Gq Gr uT mg _ _ (by rw[b0];exact qo _) hC (by simp) lx.upto,lx,by simp⟩
 rw[Mw];by_cases OB:i.op=15
 ·obtain⟨x,hx⟩:=kD (lN.trans (hi.c1 (by omega))) (k:=0) (by omega);have hC:=yG br ht.gd ht.outs i args hl OB x hx hm.out;have eE:(m.effect i args).1.sid=m.sid∧(m.effect i args).1.frames=m.frames∧(m.effect i args).1.heap=m.heap∧(m.effect i args).1.next=m.next:=by
   unfold Mach.effect;rw[if_pos OB];split
   ·simp
   split<;>simp
  obtain⟨b1,b2,b3,b4⟩:=eE;have lx:=ht.Q2 (m.effect i args).1 b1 b2 b3 b4;have hv:SV.bk O.length (m.effect i args).2.1:=ht.under (ka.val.of_heap (by rw[b3]));exact⟨_,nN br i args hl h0 h1 h8 h9 Gq Gr uT mg _ _ hv hC (by simp) lx.upto,lx,by simp⟩
 by_cases OC:i.op=18
 ·obtain⟨x,y,e⟩:=Eg (lN.trans (hi.c2 (by omega)));subst e;have hC:=yF (u:=u) (m:=m) br i x y (hl x (by simp)) (hl y (by simp)) mg OC;have eE:(m.effect i [x,y]).1=m:=by
   unfold Mach.effect;rw[if_neg (by omega),if_neg (by omega),if_pos OC];split
   ·rfl
   split<;>rfl
  have hv:SV.bk O.length (m.effect i [x,y]).2.1:=ht.under (ka.val.of_heap (by rw[eE]));exact⟨O,nN br i [x,y] hl h0 h1 h8 h9 Gq Gr uT mg _ _ hv hC rfl br,by rw[eE];exact ht,Nat.le_refl _⟩
 have hlen:0<args.length∧(i.op≠17->2<=args.length)∧(i.op≠17->i.op≠19->3<=args.length):=by
  rcases(show i.op=17∨i.op=19∨i.op=20 by omega)with q|q|q
  ·have:=hi.c1 (by omega);omega
  ·have:=hi.c2 (by omega);omega
  have:=hi.c3 (by omega);omega
 obtain⟨x,hx⟩:=kD rfl hlen.1;have Pm:=List.mem_of_getElem? hx;obtain⟨O',hC,dG⟩:=CY (m:=m) br i args hl x hx OB Me OC (fun a=>kD rfl (hlen.2.1 a)) (fun a b=>kD rfl (hlen.2.2 a b)) (Co ht hm (ha x Pm) _ rfl) (fun hk=>by
  obtain⟨a,EM,e1,e2⟩:=HU hm (ha x Pm) hk;obtain⟨r1,r2⟩:=ht.arr EM;refine⟨a.lD,a.dF,e1,?_,?_⟩
  ·rw[e2];exact r1
  rw[e2];exact r2)
 rcases dG with⟨e1,e2⟩|⟨lD,dF,k,z,l,e1,e2,e3,e4,e5,e6,e7,e8⟩
 ·have hv:SV.bk O.length (m.effect i args).2.1:=ht.under (ka.val.of_heap (by rw[e2]));subst e1;exact⟨O',nN br i args hl h0 h1 h8 h9 Gq Gr uT mg _ _ hv hC rfl br,by rw[e2];exact ht,Nat.le_refl _⟩
 obtain⟨a,EM,f1,f2⟩:=oJ m.heap lD (SV.Wf.ref (ha x Pm) lD e1);have Yf:l=a.l:=by rw[e5,e1,f2]
 obtain⟨r1,r2⟩:=ht.arr EM;have hb:dF=a.dF:=by
  rw[f1,e2]at r1;simp only[Option.some.injEq,ai.cells.injEq,List.cons.injEq,ae.ms.injEq]at r1;exact r1.1.1
 have lx:=ht.Nb EM (l.set k z) (by rw[List.length_set,Yf]) (fun v hv=>by
  rcases List.mem_or_eq_of_mem_set hv with q|q
  ·rw[Yf]at q;exact ht.under ((hm.gL a EM).2 v q)
  rw[q];exact e6) (m.effect i args).1 (by rw[e8,e1,f1])
 rw[<-hb,<-e7]at lx;have Wm:O.length=O'.length:=by rw[e7];simp
 have hv:SV.bk O.length (m.effect i args).2.1:=by
  have:=lx.under ka.val;rw[<-Wm]at this;exact this
 exact⟨O',nN br i args hl h0 h1 h8 h9 Gq Gr uT mg _ _ hv hC Wm lx.upto,lx,by omega⟩
theorem Tl.of_eq{u:cu}{m m':Mach}{rest:List ae}{O O':List ai}(h:Tl u m rest O)(e:m'=m)(e':O'=O):Tl u m' rest O':=by
 subst e;subst e';exact h
theorem jY{f:Fr}{r:List Fr}{rest:List ae}:(ez (f::r)++rest)[r.length]?=some (.mp f.bT 0):=by
 have h:ez (f::r)=r.reverse.map (fun f=>ae.mp f.bT 0)++[.mp f.bT 0]:=by simp[ez]
 rw[h,List.append_assoc];have hl:(r.reverse.map (fun f=>ae.mp f.bT 0)).length=r.length:=by simp
 rw[List.getElem?_append_right (by omega),hl,Nat.sub_self];rfl
theorem Hm{f g:Fr}{r:List Fr}{rest:List ae}:(ez (f::g::r)++rest)[r.length]?=some (.mp g.bT 0):=by
 have h:ez (f::g::r)++rest=ez (g::r)++(.mp f.bT 0::rest):=by simp[ez]
 rw[h];exact jY
theorem Tl.apart{u:cu}{m:Mach}{rest:List ae}{O:List ai}(ht:Tl u m rest O){f:Fr}{r:List Fr}(dK:m.frames=f::r):f.bT≠2∧f.dt≠2∧f.bT≠f.dt:=by
 obtain⟨_,hk,vV,_⟩:=ht.others;rw[dK]at hk vV;refine⟨(hk f.bT ?_).2.1,(hk f.dt ?_).2.1,?_⟩
 ·rw[dT];exact List.mem_append.2 (.inl (gz (Tl.oT (f:=f) (by simp)).1))
 ·rw[dT];exact List.mem_append.2 (.inl (gz (Tl.oT (f:=f) (by simp)).2))
 simp only[mB,List.cons_append,jg,List.nodup_cons,List.mem_cons,not_or]at vV;exact vV.1.1
theorem Tl.PC{u:cu}{m:Mach}{rest:List ae}{O:List ai}(ht:Tl u m rest O){g:Fr}(hg:g∈m.frames):g.bT≠2∧g.dt≠2:=by
 obtain⟨_,hk,vV,_⟩:=ht.others;refine⟨(hk g.bT ?_).2.1,(hk g.dt ?_).2.1⟩
 ·rw[dT];exact List.mem_append.2 (.inl (gz (Tl.oT hg).1))
 rw[dT];exact List.mem_append.2 (.inl (gz (Tl.oT hg).2))
theorem wY(m:Mach)(f g:Fr):(m.bQ f).bQ g=m.bQ g:=rfl
theorem qU{u:cu}{m:Mach}{rest:List ae}{O:List ai}(ht:Tl u m rest O)(hm:cd u m){f:Fr}{r:List Fr}(dK:m.frames=f::r){e:Edge}(he:yh (cS u f.fn) e) :
  ∃O',bh Tryz.prog 129 O [.mp 2 0,.mp f.bT 0,e.enc] (fun r O1=>r=.cx []∧O1=O')∧Tl u (m.follow u f e) rest O'∧O.length=O'.length:=by
 have ef:=hm.frames f (by rw[dK];simp);obtain⟨t1,t2⟩:=ht.frame (f:=f) (by rw[dK];simp);obtain⟨n1,n2,n3⟩:=ht.apart dK;have hu:∀e∈f.vals,SV.bk O.length e.2:=fun e he=>ht.under (ef.vals e he);obtain⟨f',fi⟩:∃f',f' = { f with blk:=e.block,pos:=0,vals:=gh f.vals (aY (cS u f.fn) e.block).params (fY f.vals e.args) }:=⟨_,rfl⟩
 have hC:=AQ ht.upto ht.gd f t1 t2 hu n1.symm n2.symm n3 ef.fn e he f' fi;have h1:=ht.bQ (f':={ f' with vals:=f.vals }) dK (by rw[fi]) (by rw[fi]) rfl;have I5:aS { f' with vals:=f.vals }=aS f':=rfl;rw[I5]at h1;have h2:=h1.zC (f:={ f' with vals:=f.vals }) (f':=f') (r:=r) (by simp[Mach.bQ,dK]) rfl (by
  rw[List.length_set,fi];intro x hx;rcases ky hx with q|q
  ·exact hu x q
  exact oy hu e.args _ q)
 rw[wY]at h2;have wG:f'.dt=f.dt:=by rw[fi]
 have dZ:m.follow u f e=m.bQ f':=by rw[fi];rfl
 rw[dZ];refine⟨_,hC,?_,by simp⟩;exact h2.of_eq rfl (by rw[<-wG])
theorem yJ{u:cu}{m:Mach}{rest:List ae}{O:List ai}(ht:Tl u m rest O)(hm:cd u m){f:Fr}{r:List Fr}(dK:m.frames=f::r){t:Term}(xE:yi (cS u f.fn) t) :
  ∃O' BF,bh Tryz.prog 112 O [.mp 2 0,.mp f.bT 0,t.enc] (fun r O1=>r=.cx []∧O1=O')∧Tl u (m.finish u f t) BF O'∧O.length=O'.length:=by
 have ef:=hm.frames f (by rw[dK];simp);obtain⟨t1,t2⟩:=ht.frame (f:=f) (by rw[dK];simp);obtain⟨n1,n2,n3⟩:=ht.apart dK;obtain⟨_,_,_,s1,s2,s3,s4,s5⟩:=ht.others;have hu:∀e∈f.vals,SV.bk O.length e.2:=fun e he=>ht.under (ef.vals e he);have hk:=xE.kind;unfold Mach.finish;by_cases h4:t.kind=4
 ·rw[if_pos h4];exact⟨_,rest,IF ht.upto ht.gd f t1 t2 hu n3 t h4,ht.pc (m.stop t.n 0) rfl rfl rfl rfl rfl,by simp⟩
 rw[if_neg h4];by_cases h1:t.kind=1
 ·rw[if_pos h1];have hl:=xE.jump h1;have he:t.to[0]?=some (t.to[0]'(by omega)):=List.getElem?_eq_getElem _;obtain⟨O',q1,q2,q3⟩:=qU ht hm dK (xE.ee _ (List.mem_of_getElem? he));refine⟨O',rest,ID ht.upto ht.gd f t1 t2 hu n3 t h1 _ he q1 q3 q2.upto,?_,q3⟩;rw[he];exact q2
 rw[if_neg h1];by_cases h0:t.kind=0
 ·rw[if_pos h0];have hv:=yM ef.vals t.arg;have nw:=ht.under hv;cases hr:r with
  | nil =>
   subst hr;have hC:=DA ht.upto ht.gd f dK (I t1) _ nw;have lx:=ht.last dK (m.leave f (iI f.vals t.arg)) (by simp[Mach.leave,dK,Mach.stop]) (by simp[Mach.leave,dK,Mach.stop]) (by simp[Mach.leave,dK,Mach.stop]) (by simp[Mach.leave,dK,Mach.stop]) (by simp[Mach.leave,dK,Mach.stop]);exact⟨_,_,EF ht.upto ht.gd f t1 t2 hu n3 t h0 hC (by simp) lx.upto,lx,by simp⟩
  | cons g r' =>
   subst hr;have hg:g∈m.frames:=by rw[dK];simp
   obtain⟨g1,g2⟩:=ht.frame hg;obtain⟨k1,k2⟩:=ht.PC hg;have UZ:∀e∈g.vals,SV.bk O.length e.2:=fun e he=>ht.under ((hm.frames g hg).vals e he);have mN:r'.length<=2 ^ 40:=by
    have h1:=hm.depth;have h2:=hm.left;rw[dK]at h1;simp only[List.length_cons]at h1;omega
   have dG:=ht.stack;rw[dK]at dG;have hC:=DB ht.upto ht.gd f g r' dK t1 g1 g2 UZ dG Hm s2 mN n1 k1 k2 _ nw;have dZ:m.leave f (iI f.vals t.arg) = { m with frames:={ g with vals:=eT g.vals f.to (iI f.vals t.arg) }::r' }:=by
    unfold Mach.leave;rw[dK];rfl
   have lx:=ht.pop (g':={ g with vals:=eT g.vals f.to (iI f.vals t.arg) }) dK rfl (fun x hx=>by
    rcases jk hx with q|q
    ·exact UZ x q
    rw[q];exact nw) _ dZ
   exact⟨_,_,EF ht.upto ht.gd f t1 t2 hu n3 t h0 hC (by simp) lx.upto,lx,by simp⟩
 rw[if_neg h0];by_cases hV:(iI f.vals t.arg).kind=0
 ·rw[if_neg (by simp[hV])];obtain⟨e,he⟩:=xi xE h0 h1 h4 (iI f.vals t.arg).n;obtain⟨O',q1,q2,q3⟩:=qU ht hm dK (xE.ee _ (List.mem_of_getElem? he));refine⟨O',rest,CZ ht.upto ht.gd f t1 t2 hu n3 t ⟨h0,h1,h4⟩ hV (by have:=xE.cl;omega) e he q1 q3 q2.upto,?_,q3⟩;rw[he];exact q2
 rw[if_pos hV];exact⟨_,rest,IG ht.upto ht.gd f t1 t2 hu n3 t ⟨h0,h1,h4⟩ hV,ht.pc (m.stop 5 0) rfl rfl rfl rfl rfl,by simp⟩
theorem Ec{u:cu}{m:Mach}{rest:List ae}{O:List ai}(hu:mC u)(ht:Tl u m rest O)(hm:cd u m)(ho:m.over=false)(hd:m.frames.length+m.left+1<=2 ^ 40) :
  ∃O' BF,bh Tryz.prog 83 O [.mp 2 0] (fun r O1=>r=.cx []∧O1=O')∧Tl u (m.step u) BF O'∧O.length<=O'.length:=by
 obtain⟨bD,k9⟩:=hm.over ho;unfold Mach.step;cases dK:m.frames with
 | nil=>exact absurd dK bD
 | cons f r =>
  have ef:=hm.frames f (by rw[dK];simp);obtain⟨t1,t2⟩:=ht.frame (f:=f) (by rw[dK];simp);obtain⟨n1,n2,n3⟩:=ht.apart dK;obtain⟨_,_,_,s1,s2,s3,s4,s5⟩:=ht.others;have QJ:∀e∈f.vals,SV.bk O.length e.2:=fun e he=>ht.under (ef.vals e he);have dG:=ht.stack;rw[dK]at dG;have mN:r.length<=2 ^ 40:=by
   have h2:=hm.left;rw[dK]at hd;simp only[List.length_cons]at hd;omega
  have hF:=lr ef.fn.1 ef.fn.2;have hB:=eK ef.blk.1 ef.blk.2;have P5:=hu.blocks _ (ma ef.fn.1 ef.fn.2) _ (dY ef.blk.1 ef.blk.2);simp only;cases hi:(aY (cS u f.fn) f.blk).ins[f.pos]? with
  | none =>
   have mi:f.pos=(aY (cS u f.fn) f.blk).ins.length:=by
    have:=List.getElem?_eq_none_iff.1 hi;have:=ef.pos;omega
   obtain⟨O',BF,q1,q2,q3⟩:=yJ ht hm dK P5.term;exact⟨O',BF,step_end ht.upto ht.gd f r dK t1 n1 dG jY mN _ hF ef.fn.1 _ hB ef.blk.1 mi q1 (by omega) q2.upto,q2,by omega⟩
  | some i =>
   simp only;have Dh:=P5.ins i (List.mem_of_getElem? hi);have a8:=I hi;have q8:=P5.len;obtain⟨f',fi⟩:∃f',f' = { f with pos:=f.pos+1 }:=⟨_,rfl⟩
   rw[<-fi];have Pg:f'.vals=f.vals:=by rw[fi]
   have jM:f'.bT=f.bT:=by rw[fi]
   have wG:f'.dt=f.dt:=by rw[fi]
   obtain⟨O1,dM⟩:∃O1,O1=O.set f.bT (.cells (aS f')):=⟨_,rfl⟩
   have h1:=ht.bQ (f':=f') dK jM wG Pg;rw[<-dM]at h1;have dU:O.length=O1.length:=by rw[dM];simp
   have nD:nG u m f':=by
    rw[fi];exact⟨ef.fn,ef.blk,a8,ef.vals⟩
   have rh:cd u (m.bQ f'):=hm.bQ bD nD;have Ts:(m.bQ f').frames=f'::r:=by simp[Mach.bQ,dK]
   have TL:aA u (m.bQ f')=aA u m:=by simp[aA,Mach.bQ,dK]
   have tB:O1[2]?=some (.cells (aA u m)):=by rw[<-TL];exact h1.gd
   obtain⟨args,fc⟩:∃args,args=fY f.vals i.args:=⟨_,rfl⟩
   rw[<-fc];have lN:args.length=i.args.length:=by rw[fc];exact su _ _
   have UQ:∀v∈args,fX u (m.bQ f') v:=by
    rw[fc];exact fun v hv=>(rG ef.vals i.args v hv).of_heap (by rfl)
   have P1:∀v∈args,SV.bk O1.length v:=fun v hv=>h1.under (UQ v hv);have QH:=h1.stack;have V0:(m.bQ f').frames.length<=2 ^ 41:=by
    rw[Ts];simp only[List.length_cons];omega
   have O9:∀fn:Int,0<=fn∧fn<u.fns.length->(aY (cS u fn) 0).params.length=args.length ->
     ∃O',bh Tryz.prog 81 O1 [.mp 2 0,aI fn,.aB 4 (args.map SV.enc) .sh,aI i.to] (fun r O2=>r=.cx []∧O2=O')∧Tl u ((m.bQ f').enter u fn args i.to) [] O'∧O.length<=O'.length:=fun fn rf hp=>by
    have hC:=C1 h1.upto h1.gd QH (by simp[ez]) s2 h1.len V0 fn rf (hu.ne _ (ma rf.1 rf.2)).1 args P1 hp i.to;have lx:=h1.push fn i.to args _ rfl P1;exact⟨_,hC,lx,by simp;omega⟩
   unfold Mach.act;by_cases Lg:i.op=13
   ·rw[if_pos Lg];obtain⟨c1,c2,c3⟩:=Dh.call Lg;obtain⟨O',q1,q2,q3⟩:=O9 i.n ⟨c1,c2⟩ (by rw[lN];exact c3);exact⟨O',[],Hn ht.upto ht.gd f r dK t1 n1 dG jY mN _ hF ef.fn.1 _ hB ef.blk.1 t2 n3 QJ i hi (by omega) Dh.len f' fi args fc O1 dM Lg q1 q3 q2.upto,q2,q3⟩
   rw[if_neg Lg];by_cases HB:i.op=14
   ·rw[if_pos HB];obtain⟨c,hc⟩:=kD (lN.trans rfl) (k:=0) (by have:=Dh.app HB;omega);have SQ:=fD hc;rw[SQ];have Ge:=UQ c (List.mem_of_getElem? hc);have lx:=h1.pc ((m.bQ f').stop 5 0) rfl rfl rfl rfl rfl;have jP:aA u ((m.bQ f').stop 5 0)=aA u (m.stop 5 0):=by simp[aA,Mach.bQ,Mach.stop,dK]
    by_cases hk:c.kind=2
    ·obtain⟨k1,k2⟩:=SV.Wf.fn Ge hk;have hG:=lr k1 k2;have hD:(cS u c.n).blocks[0]?=some (aY (cS u c.n) 0):=by
      obtain⟨z1,z2⟩:=Sz hu k1 k2;exact eK z1 z2
     by_cases hp:(aY (cS u c.n) 0).params.length=args.length
     ·rw[if_pos ⟨hk,hp⟩];obtain⟨O',q1,q2,q3⟩:=O9 c.n ⟨k1,k2⟩ hp;exact⟨O',[],Ko ht.upto ht.gd f r dK t1 n1 dG jY mN _ hF ef.fn.1 _ hB ef.blk.1 t2 n3 QJ i hi (by omega) Dh.len f' fi args fc O1 dM HB c hc hk k1 _ hG _ hD hp P1 q1 q3 q2.upto tB,q2,q3⟩
     rw[if_neg (fun q=>hp q.2)];refine⟨_,rest,zJ ht.upto ht.gd f r dK t1 n1 dG jY mN _ hF ef.fn.1 _ hB ef.blk.1 t2 n3 QJ i hi (by omega) Dh.len f' fi args fc O1 dM HB c hc hk k1 _ hG _ hD hp P1 tB,?_,by simp;omega⟩;rw[<-jP];exact lx
    rw[if_neg (fun q=>hk q.1)];refine⟨_,rest,w5 ht.upto ht.gd f r dK t1 n1 dG jY mN _ hF ef.fn.1 _ hB ef.blk.1 t2 n3 QJ i hi (by omega) Dh.len f' fi args fc O1 dM HB c hc hk P1 tB,?_,by simp;omega⟩;rw[<-jP];exact lx
   rw[if_neg HB];have WT:(m.bQ f').short=false:=k9;obtain⟨O2,q1,q2,q3⟩:=C3 h1 rh WT Dh Lg HB lN UQ;have ka:=yH rh Dh lN UQ;generalize (m.bQ f').exec i args=R at *;have Qg:R.1.frames=f'::r:=by rw[ka.frames,Ts]
   obtain⟨w1,w2⟩:=q2.frame (f:=f') (by rw[Qg];simp);rw[jM]at w1;rw[wG,Pg]at w2;have nw:=q2.under ka.val;have wL:∀e∈f.vals,SV.bk O2.length e.2:=fun e he=>(QJ e he).mono (by omega);have YC:∀e∈eT f.vals i.to R.2.1,SV.bk O2.length e.2:=fun x hx=>by
    rcases jk hx with q|q
    ·exact wL x q
    rw[q];exact nw
   unfold Mach.settle;rw[Pg];by_cases Lq:R.2.2=0
   ·rw[if_neg (by simp[Lq])];have hC:=Ho ht.upto ht.gd f r dK t1 n1 dG jY mN _ hF ef.fn.1 _ hB ef.blk.1 t2 n3 QJ i hi (by omega) Dh.len f' fi args fc O1 dM ⟨Lg,HB⟩ R.2.1 R.2.2 q1 (by omega) q2.upto nw R.1 q2.gd w1 w2 wL n2 Lq;have lx:=q2.zC (f':={ f' with vals:=eT f.vals i.to R.2.1 }) Qg rfl YC;exact⟨_,rest,hC,lx.of_eq rfl (by rw[wG]),by simp;omega⟩
   rw[if_pos Lq];have hC:=Hq ht.upto ht.gd f r dK t1 n1 dG jY mN _ hF ef.fn.1 _ hB ef.blk.1 t2 n3 QJ i hi (by omega) Dh.len f' fi args fc O1 dM ⟨Lg,HB⟩ R.2.1 R.2.2 q1 (by omega) q2.upto nw R.1 q2.gd w1 w2 wL n2 Lq;have q4:=q2.pc (R.1.stop R.2.2 0) rfl rfl rfl rfl rfl;have lx:=q4.zC (f':={ f' with vals:=eT f.vals i.to R.2.1 }) Qg rfl (by
    rw[List.length_set];exact YC)
   exact⟨_,rest,hC,lx.of_eq rfl (by rw[wG]),by simp;omega⟩
def RC.enc(a:RC):ae:=.cx [.agg [.aB 1 (a.out.map aI) .sh,aI a.fin,aI a.val],aI a.n,aI a.e]
theorem CW{f:FuncId}{O:List ai}{a b d:ae}{sz:Nat}{R:ae->List ai->Prop}(h:bh Tryz.prog f O [a,b,.aB sz [] .sh,d] R):bh Tryz.prog f O [a,b,.v (.slice none 0 0),d] R :=
 ⟨h.1,fun g vs hg ho ha=>h.2 g vs hg ho ⟨ha.1,fun i c u hc hu=>by
  match i,hc,hu with
  | 0,hc,hu=>exact ha.2 0 c u hc hu
  | 1,hc,hu=>exact ha.2 1 c u hc hu
  | 2,hc,hu =>
   simp only[List.getElem?_cons_succ,List.getElem?_cons_zero,Option.some.injEq]at hc;subst hc;have:=(ha.2 2 _ u rfl hu).bX.1;subst this;exact .nil (fun id e=>by cases e) (by simp)
  | 3,hc,hu=>exact ha.2 3 c u hc hu
  | i+4,hc,_=>simp at hc⟩⟩
theorem Kn{u:cu}(hu:mC u){fuel:Int}(h0:0<=fuel)(h1:fuel<=1000000):cd u ((Mach.start fuel).enter u u.main [] 0):=by
 have hs:cd u { Mach.start fuel with over:=true } :=
  ⟨by simp[Mach.start],by simp[Mach.start],h0,by simp[Mach.start];omega,by simp[Mach.start],by simp[Mach.start],by simp[Mach.start],by simp[Mach.start,fA],by simp[Mach.start],by simp⟩
 have h:=hs.enter hu (by simp) (by simp[Mach.start];omega) hu.main (args:=[]) (by simp) 0;exact⟨fun f hf=>(h.frames f hf).of_heap (by rfl),fun a ha=>by simp[Mach.start,Mach.enter]at ha,h.left,h.depth,h.out,h.words,h.fin,h.val,h.done,fun _=>⟨by simp[Mach.enter],rfl⟩⟩
theorem BR{u:cu}(hu:mC u){fuel:Int}(hp:(aY (cS u u.main) 0).params=[]):Tl u ((Mach.start fuel).enter u u.main [] 0) [] [.gone,.cells [.aB 1 [] .ex,aI 0,aI 0],.cells (aA u ((Mach.start fuel).enter u u.main [] 0)),.spare 0,.map (.int .i64) [],.cells [aI u.main,aI 0,aI 0,aI 0,.mm 4],.cells [.mp 5 0]] where
 len:=rfl
 upto:=by simp[ai.upto,av,lC,ae.upto,aA,Func.ak,Mach.enter,Mach.start]
 holds:=by
  intro p MH;simp only[ca,Mach.enter,Mach.start,mB,dE,hp,gh,List.append_nil,List.mem_cons,List.mem_nil_iff,or_false,List.mem_append]at MH;rcases MH with rfl|rfl|rfl|rfl|rfl|rfl
  all_goals rfl
 nodup:=by
  simp[dV,ca,Mach.enter,Mach.start,mB,dE]
theorem Ka{u:cu}{m:Mach}(h:m.over=true)(k:Nat):Mach.run u k m=m:=by
 cases k with
 | zero=>rfl
 | succ k=>simp[Mach.run,h]
theorem za{u:cu}(hu:mC u){fuel:Int}(Tm:0<=fuel)(nD:fuel<=1000000):bq Tryz.prog 54 [u.enc,aI fuel] (vp u fuel).enc:=by
 have hp:=hu.none;have Gg:=CW (AL (fuel:=fuel) hu.main (hu.ne _ (ma hu.main.1 hu.main.2)).1 hp 4 .sh);have dG:=BR hu (fuel:=fuel) hp;have WV:=Kn hu Tm nD;obtain⟨K,hK⟩:∃K,K=fuel.toNat+2:=⟨_,rfl⟩
 obtain⟨E,hE⟩:∃E,E=Mach.run u K ((Mach.start fuel).enter u u.main [] 0):=⟨_,rfl⟩
 have dZ:vp u fuel=if E.short then⟨[],0,0,0,13⟩else⟨E.out,E.fin,E.val,fuel-E.left,0⟩:=by
  rw[hE,hK];rfl
 rw[dZ];have OT:((Mach.start fuel).enter u u.main [] 0).left=fuel:=rfl;unfold y2 at Gg;generalize mg:(Mach.start fuel).enter u u.main [] 0=m0 at *;refine zf true 0 Tryz.func54 Tryz.ntmps54 ?_;dsimp only[Tmp,TypeId,slotsOf];refine az (ah ?_);refine aC 2 0 (.ip none [b8 u.fns,aI u.main]) rfl (by simp[ai.aD]) trivial rfl ?_ ?_;rotate_left;simp -dsimp only[simprocAttr,↓aa,zp]
 ·refine az (ah ?_);refine jH 2 6 rfl rfl ?_;simp -dsimp only[simprocAttr,↓aa,zp];refine az ?_;refine .inr (.inl ⟨_,_,Gg,.inl (ao (zj ?_))⟩);refine ah ?_;refine aG (ag (aM (ι:={p:Mach×List ae×List ai // cd u p.1∧Tl u p.1 p.2.1 p.2.2∧p.1.left<=fuel∧∃k,p.1.left.toNat+2<=k∧Mach.run u k p.1=E}) (fun p=>⟨45,[(1,aI fuel),(4,.mp 1 0),(5,aI 0),(6,aI 0),(7,.mp 2 0)],p.1.2.2⟩) (fun p=>p.1.1.left.toNat) ⟨(m0,[],_),WV,dG,by simp only[OT];omega,K,by simp only[OT];omega,hE.symm⟩ ?_ ?_))
  ·refine zq rfl ?_ ?_;simp -dsimp only[simprocAttr,↓aa,zp,zc];rfl
  rintro⟨⟨m,rest,O⟩,hm,ht,Z6,k,hk,bI⟩;simp only at hm ht Z6 hk bI;have Ji:=ht.gd;unfold aA at Ji;have ZN:=hm.depth;have Di:=hm.left;have sQ:O[1]?=some (.cells [.aB 1 [] .ex,aI 0,aI 0]):=ht.holds (1,_) (by simp[ca]);have xD:=dr sQ;have Jh:=I ht.gd;have wH:=vo ht.upto ht.gd 1 Di (by omega) (by omega);cases jx:m.over with
  | true =>
   rw[Ka jx]at bI;subst bI;rw[jx]at Ji;refine cK ?_;simp -dsimp only[simprocAttr,↓aa,zp,Ji];refine ah ?_;refine cm rfl ?_;refine aF ?_;simp -dsimp only[bF,ne_eq,Nat.reduceEqDiff,reduceCtorEq];cases k9:m.short with
   | true =>
    rw[k9]at Ji;refine cK ?_;simp -dsimp only[simprocAttr,↓aa,zp,Ji];refine ah ?_;refine cY rfl ?_;refine aU ?_;simp -dsimp only[simprocAttr,↓aa,zp,sQ];refine ah ?_;refine aq ?_;simp -dsimp only[simprocAttr,↓aa,zp,zr,Tryz.results54,xD];exact⟨by simp[av,ae.upto],rfl⟩
   | false =>
    rw[k9]at Ji;refine cK ?_;simp -dsimp only[simprocAttr,↓aa,zp,Ji];refine ah ?_;refine cm rfl ?_;refine ct ?_;refine aU ?_;simp -dsimp only[simprocAttr,↓aa,zp,Ji,sQ]
    repeat(refine⟨by omega,?_⟩)
    refine⟨bP [1,2] O.length [.pure,.pure,.pure,.rd 1,.pure,.pure,.pure,.pure,.rd 1,.pure,.wr 2 [0],.pure,.pure] (by simp) (by simp;omega) rfl rfl (by kernel_rfl),aV ?_⟩;simp -dsimp only[bF,ne_eq,Nat.reduceEqDiff,reduceCtorEq];refine aq ?_;simp -dsimp only[simprocAttr,↓aa,zp,zr,Tryz.results54,xD];exact⟨by simp[av,ae.upto,ax],rfl⟩
  | false =>
   obtain⟨k,rfl⟩:∃j,k=j+1:=⟨k-1,by omega⟩
   have EV:(if(m.fI 1).short then m.fI 1 else Mach.run u k (Mach.step u (m.fI 1)))=E:=by
    rw[<-bI];simp[Mach.run,jx]
   have Ui:=ht.pc (m.fI 1) (gl m 1).2.2.2.2.2.1 (gl m 1).1 (gl m 1).2.1 (by rw[(gl m 1).2.2.1]) (gl m 1).2.2.2.2.2.2;have tB:=Ui.gd;have A8:(O.set 2 (.cells (aA u (m.fI 1))))[1]?=some (.cells [.aB 1 [] .ex,aI 0,aI 0]):=Ui.holds (1,_) (by simp[ca]);have T':=dr A8;rw[jx]at Ji;by_cases Qs:m.left<1
   ·have mO:(m.fI 1).short=true:=by simp[Mach.fI,Qs]
    rw[mO,if_pos rfl]at EV;have Y8:E.short=true:=by
     rw[<-EV];exact mO
    obtain⟨O1,dM⟩:∃O1,O1=O.set 2 (.cells (aA u (m.fI 1))):=⟨_,rfl⟩
    rw[<-dM]at wH tB A8;simp only[<-dM]at T';unfold aA at tB;rw[mO]at tB;refine cK ?_;simp -dsimp only[simprocAttr,↓aa,zp,Ji];refine ah ?_;refine cY rfl ?_;refine ct ?_;refine ag ?_;refine az ?_;refine .inr (.inl ⟨_,_,wH,.inl (ao (zj ?_))⟩);refine ah ?_;refine cK ?_;simp -dsimp only[simprocAttr,↓aa,zp,tB];refine ah ?_;refine cY rfl ?_;refine aU ?_;simp -dsimp only[simprocAttr,↓aa,zp,A8];refine ah ?_;refine aq ?_;simp -dsimp only[simprocAttr,↓aa,zp,zr,Tryz.results54,T',Y8];exact⟨by simp[av,ae.upto],rfl⟩
   have Je:m.fI 1 = { m with left:=m.left-1 }:=by simp[Mach.fI,Qs]
   have mO:(m.fI 1).short=false:=by
    rw[Je];exact(hm.over jx).2
   have Qr:(m.fI 1).over=false:=by
    rw[Je];exact jx
   have rh:cd u (m.fI 1):=by
    rw[Je];exact⟨fun f hf=>(hm.frames f hf).of_heap (by rfl),fun a ha=>⟨(hm.gL a ha).1,fun v hv=>((hm.gL a ha).2 v hv).of_heap (by rfl)⟩,by simp;omega,by simp;omega,hm.out,hm.words,hm.fin,hm.val,hm.done,fun h=>hm.over h⟩
   have ni:(m.fI 1).frames.length+(m.fI 1).left+1<=2 ^ 40:=by
    rw[Je];simp;omega
   obtain⟨O2,Uy,q1,q2,q3⟩:=Ec hu Ui rh Qr ni;have Pc:=rh.step hu Qr ni;have iY:(Mach.step u (m.fI 1)).left<=m.left-1:=by
    have:=Hp u (m.fI 1) rh hu Qr;rw[Je]at this ⊢;exact this
   have aab:=Pc.left;rw[mO,if_neg (by simp)]at EV;obtain⟨O1,dM⟩:∃O1,O1=O.set 2 (.cells (aA u (m.fI 1))):=⟨_,rfl⟩
   rw[<-dM]at wH tB q1;unfold aA at tB;rw[mO]at tB;refine cK ?_;simp -dsimp only[simprocAttr,↓aa,zp,Ji];refine ah ?_;refine cY rfl ?_;refine ct ?_;refine ag ?_;refine az ?_;refine .inr (.inl ⟨_,_,wH,.inl (ao (zj ?_))⟩);refine ah ?_;refine cK ?_;simp -dsimp only[simprocAttr,↓aa,zp,tB];refine ah ?_;refine cm rfl ?_;refine ct ?_;refine cC ?_;refine .inr (.inl ⟨_,_,q1,.inl (ao (zj ?_))⟩);refine RA ?_;refine⟨⟨(Mach.step u (m.fI 1),Uy,O2),Pc,q2,by simp only;omega,k,by simp only;omega,EV⟩,by simp only;omega,?_⟩;refine zq rfl ?_ ?_;simp -dsimp only[simprocAttr,↓aa,zp,zc];rfl
 exact bY.mp rfl rfl
theorem uv{u:cu}:∀{l:List Ins},uu u l=0->∀i∈l,kG u i=0
 | [],_,f,h=>by simp at h
 | g::r,h,f,hf=>by
  have:=vh h;rcases List.mem_cons.1 hf with q|q
  ·subst q;exact this.1
  exact uv this.2 f q
theorem uq{u:cu}:∀{l:List Block},rR u l=0->∀b∈l,∀i∈b.ins,kG u i=0
 | [],_,f,h=>by simp at h
 | g::r,h,f,hf=>by
  have:=vh h;rcases List.mem_cons.1 hf with q|q
  ·subst q;exact uv this.1
  exact uq this.2 f q
theorem ur{u:cu}:∀{l:List Func},pM u l=0->∀f∈l,∀b∈f.blocks,∀i∈b.ins,kG u i=0
 | [],_,f,h=>by simp at h
 | g::r,h,f,hf=>by
  have:=vh h;rcases List.mem_cons.1 hf with q|q
  ·subst q;exact uq this.1
  exact ur this.2 f q
theorem HZ{u:cu}{i:Ins}(h:kG u i=0):(i.op=13∨i.op=9->i.n<u.fns.length)∧(i.op=13->(aY (cS u i.n) 0).params.length=i.args.length)∧(i.op=9->(aY (cS u i.n) 0).params.length≠0):=by
 unfold kG at h;split at h
 ·exact⟨by omega,by omega,by omega⟩
 split at h
 ·simp at h
 split at h
 ·simp at h
 exact⟨by omega,by omega,by omega⟩
structure Sq(u:cu):Prop where
 few:u.fns.length<=256
 main:0<=u.main∧u.main<u.fns.length
 none:(aY (cS u u.main) 0).params=[]
 fns:∀f∈u.fns,Oq f
 calls:∀f∈u.fns,∀b∈f.blocks,∀i∈b.ins,kG u i=0
theorem Ii{u:cu}(bJ:u.fit)(h:gF u=0):Sq u:=by
 unfold gF at h;split at h
 ·simp at h
 split at h
 ·simp at h
 split at h
 ·simp at h
 rename_i h3;have h4:=vh h;have h5:=h4.2;split at h5
 ·simp at h5
 rename_i h6;have hw:0<=u.main∧u.main<=(u.fns.length:Int)-1:=by simpa[within]using h3
 refine⟨by omega,by omega,List.length_eq_zero_iff.1 (by omega),fun f hf=>cA (bJ.2.2 f hf) (pW h4.1 f hf),ur h5⟩
theorem Ol{u:cu}(bJ:u.fit)(h:gF u=0):mC u:=by
 have hw:=Ii bJ h;refine⟨hw.main,hw.few,hw.none,fun f hf=>⟨(hw.fns f hf).ne,by have:=(hw.fns f hf).few;omega⟩,fun f hf b hb=>?_⟩;have hF:=hw.fns f hf;have hB:=hF.blk b hb;have hE:=pT hB.fin;refine⟨fun i hi=>?_,⟨hE.kind,?_,hE.jump,hE.cond,hE.switch,fun e he=>?_,by have:=hE.cases;omega⟩,by have:=hF.ins b hb;omega⟩
 ·have ia:=yK (hB.EI i hi);have hc:=HZ (hw.calls f hf b hb i hi);have X':=((bJ.2.2 f hf).2.2 b hb).2.2.2.1 i hi;have hlen:=ia.len;refine⟨.inl ia.op,by omega,⟨X'.1,X'.2.2.1⟩,fun q=>(ia.c0 q).1,ia.c2,fun q=>ia.c1 (by have:=ia.op;omega),ia.c3,fun q=>⟨?_,hlen⟩,fun q=>?_,fun q=>?_,ia.app,ia.Vd,fun _=>hlen,ia.vec⟩
  ·have:=ia.UK q;unfold fA;omega
  ·have:=ia.call (.inl q);have:=hc.1 (.inr q);exact⟨by omega,by omega,hlen⟩
  have:=ia.call (.inr q);exact⟨by omega,hc.1 (.inl q),hc.2.1 q⟩
 ·by_cases h4:b.term.kind=4
  ·have:=hE.Oh h4;omega
  have:=hE.n h4;omega
 have Gf:=hE.ee e he;have hm:=dY (f:=f) (k:=e.block) (by omega) (by omega);have:=(hF.blk _ hm).few;exact⟨by omega,by omega,Gf.2,by omega⟩
def runM(u:cu)(fuel:Int):RC :=
 if gF u≠0 then⟨[],0,0,0,gF u⟩
 else if within fuel 1 1000000=false then⟨[],0,0,0,4⟩
 else vp u fuel
theorem Kb(u:cu)(bJ:u.fit)(fuel:Int):bq Tryz.prog 26 [u.enc,aI fuel] (runM u fuel).enc:=by
 have zW:=CJ u bJ;have hw:=dJ fuel 1 1000000;obtain⟨R,hR⟩:∃R,R=runM u fuel:=⟨_,rfl⟩
 rw[<-hR];unfold runM at hR;by_cases hc:gF u=0
 ·rw[if_neg (by simp[hc])]at hR;have hu:=Ol bJ hc;rw[hc]at zW;cases HE:within fuel 1 1000000 with
  | false =>
   rw[if_pos HE]at hR;rw[HE]at hw;refine zf true 0 Tryz.func26 Tryz.ntmps26 ?_;dsimp only[Tmp,TypeId,slotsOf];refine az (ah ?_);refine aC 2 0 (.ip none [b8 u.fns,aI u.main]) rfl (by simp[ai.aD]) trivial rfl ?_ ?_;rotate_left;simp -dsimp only[simprocAttr,↓aa,zp]
   ·refine ck ?_;refine zi zW ?_;refine ah ?_;refine az (ah ?_);refine cm rfl ?_;refine ct ?_;refine ck ?_;refine zi hw ?_;refine ah ?_;refine cY rfl ?_;refine az (ah ?_);refine aq ?_;simp -dsimp only[simprocAttr,↓aa,zp,zr,Tryz.results26];rw[hR];exact⟨by simp[av,ae.upto],rfl⟩
   exact bY.mp rfl rfl
  | true =>
   rw[if_neg (by simp[HE])]at hR;have hwr:=within_iff.1 HE;have Qx:=za hu (fuel:=fuel) (by omega) hwr.2;rw[<-hR]at Qx;unfold RC.enc at Qx;rw[HE]at hw;refine zf true 0 Tryz.func26 Tryz.ntmps26 ?_;dsimp only[Tmp,TypeId,slotsOf];refine az (ah ?_);refine aC 2 0 (.ip none [b8 u.fns,aI u.main]) rfl (by simp[ai.aD]) trivial rfl ?_ ?_;rotate_left;simp -dsimp only[simprocAttr,↓aa,zp]
   ·refine ck ?_;refine zi zW ?_;refine ah ?_;refine az (ah ?_);refine cm rfl ?_;refine ct ?_;refine ck ?_;refine zi hw ?_;refine ah ?_;refine cm rfl ?_;refine ct ?_;refine az ?_;refine zi Qx ?_;refine ah ?_;refine aq ?_;simp -dsimp only[simprocAttr,↓aa,zp,zr,Tryz.results26];exact⟨by simp[av,ae.upto,ax],rfl⟩
   exact bY.mp rfl rfl
 rw[if_pos hc]at hR;obtain⟨e,he⟩:∃e,e=gF u:=⟨_,rfl⟩
 rw[<-he]at hc zW hR;have oW:decide (e=0)=false:=decide_eq_false hc;refine zf true 0 Tryz.func26 Tryz.ntmps26 ?_;dsimp only[Tmp,TypeId,slotsOf];refine az (ah ?_);refine aC 2 0 (.ip none [b8 u.fns,aI u.main]) rfl (by simp[ai.aD]) trivial rfl ?_ ?_;rotate_left;simp -dsimp only[simprocAttr,↓aa,zp]
 ·refine ck ?_;refine zi zW ?_;refine ah ?_;refine aU ?_;simp -dsimp only[simprocAttr,↓aa,zp,oW];refine ah ?_;refine cY rfl ?_;refine az (ah ?_);refine aq ?_;simp -dsimp only[simprocAttr,↓aa,zp,zr,Tryz.results26];rw[hR];exact⟨by simp[av,ae.upto],rfl⟩
 exact bY.mp rfl rfl
theorem wW(l m:List Int):bq Tryz.prog 42 [a7 l,a7 m] (.v (.bool (decide (l=m)))):=by
 by_cases hlen:l.length=m.length
 ·have mN:decide ((l.length:Int)=m.length)=true:=decide_eq_true (by omega);obtain⟨R,hR⟩:∃R,R=decide (l=m):=⟨_,rfl⟩
  rw[<-hR];refine zf true 0 Tryz.func42 Tryz.ntmps42 ?_;dsimp only[Tmp,TypeId,slotsOf];refine az (ah ?_);refine fh 0 rfl (fun yS=>?_);simp only[List.length_map]at yS;refine cK ?_;simp -dsimp only[simprocAttr,↓aa,zp,mN];refine ah ?_;apply aP rfl<;>intro h
  ·cases h
  refine ct ?_;refine ck (ah ?_);refine ag (aM (ι:={k:Nat // k<=l.length∧R=decide (l.drop k=m.drop k)}) (fun k=>⟨26,[(0,a7 l),(1,a7 m),(4,.v (.bool false)),(12,a7 l),(13,aI l.length),(14,aI k.1)],[]⟩) (fun k=>l.length-k.1) ⟨0,by omega,hR⟩ ?_ ?_)
  ·refine zq rfl ?_ ?_;simp -dsimp only[simprocAttr,↓aa,zp,zc];rfl
  rintro⟨k,hk,de⟩;refine az (ah ?_);apply ic rfl<;>intro h
  ·refine ct ?_;have a8:k<l.length:=by simpa using h
   obtain⟨a,ha⟩:∃a,l[k]?=some a:=⟨l[k],by simp[a8]⟩
   obtain⟨b,hb⟩:∃b,m[k]?=some b:=⟨m[k]'(by omega),List.getElem?_eq_getElem _⟩
   rw[bA ha,bA hb]at de;simp only[List.cons.injEq,Bool.decide_and]at de;refine aG (ag ?_);refine aU ?_;simp -dsimp only[simprocAttr,↓aa,zp,ha];refine ah ?_;by_cases xw:b=a
   ·have Qb:decide (b=a)=true:=decide_eq_true xw;rw[decide_eq_true xw.symm,Bool.true_and]at de;refine aU ?_;simp -dsimp only[simprocAttr,↓aa,zp,hb,Qb]
    repeat(refine⟨by omega,?_⟩)
    refine ah ?_;refine cm rfl ?_;refine lX ?_;refine cC ?_
    repeat(refine⟨by omega,?_⟩)
    refine eX ?_;refine⟨⟨k+1,a8,de⟩,by simp;omega,?_⟩;refine zq rfl ?_ ?_;simp -dsimp only[simprocAttr,↓aa,zp,zc]
    ·exact Sub.int (by simp)
    rfl
   have Qb:decide (b=a)=false:=decide_eq_false xw;rw[decide_eq_false (fun e=>xw e.symm),Bool.false_and]at de;refine aU ?_;simp -dsimp only[simprocAttr,↓aa,zp,hb,Qb]
   repeat(refine⟨by omega,?_⟩)
   refine ah ?_;refine cY rfl ?_;refine az (ah ?_);refine aq ?_;simp -dsimp only[simprocAttr,↓aa,zp,zr,Tryz.results42];rw[de]
  refine aF ?_;simp -dsimp only[bF,ne_eq,Nat.reduceEqDiff,reduceCtorEq];have ik:k=l.length:=by simp at h;omega
  subst ik;rw[List.drop_length,hlen,List.drop_length]at de;refine az (ah ?_);refine aq ?_;simp -dsimp only[simprocAttr,↓aa,zp,zr,Tryz.results42];rw[de];rfl
 have mN:decide ((l.length:Int)=m.length)=false:=decide_eq_false (by omega);rw[decide_eq_false (fun e=>hlen (by rw[e]))];refine zf true 0 Tryz.func42 Tryz.ntmps42 ?_;dsimp only[Tmp,TypeId,slotsOf];refine az (ah ?_);refine cK ?_;simp -dsimp only[simprocAttr,↓aa,zp,mN];refine ah ?_;refine cY rfl ?_;refine az (ah ?_);refine aq ?_;simp -dsimp only[simprocAttr,↓aa,zp,zr,Tryz.results42]
abbrev PR(out:List Int)(fin val:Int):ae:=.agg [.aB 1 (out.map aI) .sh,aI fin,aI val]
theorem tH(l m:List Int)(e f v w:Int):bq Tryz.prog 27 [PR l e v,PR m f w] (.v (.bool ((decide (e=f)&&decide (v=w))&&decide (l=m)))):=by
 have hs:=wW l m;cases h1:decide (e=f)
 ·refine zf true 0 Tryz.func27 Tryz.ntmps27 ?_;dsimp only[Tmp,TypeId,slotsOf];refine az (ah ?_);refine aU ?_;simp -dsimp only[simprocAttr,↓aa,zp,h1];refine ah ?_;refine aq ?_;simp -dsimp only[simprocAttr,↓aa,zp,zr,Tryz.results27]
 cases h2:decide (v=w)
 ·refine zf true 0 Tryz.func27 Tryz.ntmps27 ?_;dsimp only[Tmp,TypeId,slotsOf];refine az (ah ?_);refine aU ?_;simp -dsimp only[simprocAttr,↓aa,zp,h1,h2];refine ah ?_;refine aq ?_;simp -dsimp only[simprocAttr,↓aa,zp,zr,Tryz.results27]
 refine zf true 0 Tryz.func27 Tryz.ntmps27 ?_;dsimp only[Tmp,TypeId,slotsOf];refine az (ah ?_);refine aU ?_;simp -dsimp only[simprocAttr,↓aa,zp,h1,h2];refine .inl ⟨_,hs,by simp only[av,ae.upto,zt,zu,ax],ao ?_⟩;simp -dsimp only[simprocAttr,↓aa,zp,h1,h2];refine ah ?_;refine aq ?_;simp -dsimp only[simprocAttr,↓aa,zp,zr,Tryz.results27]
end Go.Proofs.YtjdnhamngpafmaaGreat
namespace Go.Av
theorem Cs{P:Program}{kb:Nat}{c:Code}{Q:dR->St->Prop}{n:Nat}{bn:List (Nat×ae)}{O:List ai}(k m:Nat)(hk:k<O.length)
  (h:cn P kb c Q ⟨n,bn,(O++List.replicate m (ai.spare 0)).set k (.cells ((List.range m).map fun j=>.aB 1 [] (.tok (O.length+j))))⟩):cn P kb c Q ⟨n,bn,O.set k (.cells (List.replicate m (.aB 1 [] .ex)))⟩:=by
 obtain⟨conv,xy⟩:∃conv:Nat->List ae,conv=fun q=>((List.range q).map fun j=>ae.aB 1 [] (.tok (O.length+j)))++List.replicate (m-q) (.aB 1 [] .ex):=⟨_,rfl⟩
 have key:∀q,q<=m->cn P kb c Q ⟨n,bn,(O++List.replicate q (ai.spare 0)).set k (.cells (conv q))⟩->cn P kb c Q ⟨n,bn,O.set k (.cells (List.replicate m (.aB 1 [] .ex)))⟩:=fun q=>by
  induction q with
  | zero =>
   intro _ h;simpa[xy]using h
  | succ q ih =>
   intro hq h;refine ih (by omega) (jH k q (sz:=1) (cs:=conv q) (xs:=[]) ?_ ?_ ?_)
   ·rw[List.getElem?_set_self (by simp;omega)]
   ·rw[xy];simp only;rw[List.getElem?_append_right (by simp)];simp only[List.length_map,List.length_range,Nat.sub_self];rw[show m-q=(m-(q+1))+1 by omega,List.replicate_succ];rfl
   have e1:(O++List.replicate q (ai.spare 0)).set k (.cells (conv q))++[ai.spare ([]:List ae).length]=(O++List.replicate (q+1) (ai.spare 0)).set k (.cells (conv q)):=by
    rw[List.set_append_left _ _ hk,List.set_append_left _ _ hk,List.append_assoc];congr 1;rw[List.replicate_succ'];rfl
   have e2:(conv q).set q (.aB 1 [] (.tok ((O++List.replicate q (ai.spare 0)).set k (.cells (conv q))).length))=conv (q+1):=by
    rw[xy];simp only[List.length_set,List.length_append,List.length_replicate];rw[List.set_append_right _ _ (by simp)];simp only[List.length_map,List.length_range,Nat.sub_self];rw[show m-q=(m-(q+1))+1 by omega,List.replicate_succ,List.set_cons_zero,List.range_succ,List.map_append,List.append_assoc];rfl
   rw[e1,e2,List.set_set];exact h
 refine key m (Nat.le_refl _) ?_;simpa[xy]using h
end Go.Av
namespace Go.Proofs.YtjdnhamngpafmaaGreat
open Go.Av
def la(b:Nat)(ls:List (List Int)):List ae:=ls.mapIdx fun j l=>.aB 1 (l.map aI) (.tok (b+j))
theorem JV{b:Nat}{ls:List (List Int)}{j:Nat}{l:List Int}(h:ls[j]?=some l):(la b ls)[j]?=some (.aB 1 (l.map aI) (.tok (b+j))):=by
 simp[la,h]
theorem JW{b:Nat}{ls:List (List Int)}{j:Nat}(l:List Int):(la b ls).set j (.aB 1 (l.map aI) (.tok (b+j)))=la b (ls.set j l):=by
 apply List.ext_getElem?;intro i;simp only[la,List.getElem?_set,List.getElem?_mapIdx,List.length_mapIdx];by_cases e:j=i
 ·subst e;by_cases hl:j<ls.length
  ·simp[hl]
  simp[hl]
 simp[e]
theorem vk(b:Nat)(ls:List (List Int)):(la b ls).length=ls.length:=by simp[la]
theorem Bu(b n:Nat):la b (List.replicate n [])=(List.range n).map fun j=>.aB 1 [] (.tok (b+j)):=by
 apply List.ext_getElem?;intro i;simp only[la,List.getElem?_mapIdx,List.getElem?_map];by_cases h:i<n
 ·simp[h]
 simp[h]
theorem DR(b:Nat)(ls:List (List Int)):(la b ls).map ae.bf=al (ls.map a7):=by
 have h1:al (ls.map a7)=ls.map a7:=by
  induction ls with
  | nil=>rfl
  | cons l r ih =>
   simp only[List.map_cons,al,List.flatMap_cons]at ih ⊢;rw[ih];rfl
 rw[h1];apply List.ext_getElem?;intro i;simp only[la,List.getElem?_map,List.getElem?_mapIdx];cases ls[i]? with
 | none=>rfl
 | some l =>
  simp only[Option.map_some,Option.some.injEq];rw[b9]
theorem xR{b n:Nat}{ls:List (List Int)}(h:b+ls.length<=n):av n (la b ls):=by
 rw[aQ];intro x hx;obtain⟨j,hj⟩:=List.mem_iff_getElem?.1 hx;simp only[la,List.getElem?_mapIdx]at hj;cases hl:ls[j]? with
 | none=>rw[hl]at hj;cases hj
 | some l =>
  rw[hl]at hj;simp only[Option.map_some,Option.some.injEq]at hj;subst hj;have:=I hl;exact⟨ax _ _,show _<_ by omega⟩
theorem fK{cs:List ae}{j:Nat}(x:ae)(h:j<cs.length):bp cs j [x]=cs.set j x:=by
 apply List.ext_getElem?;intro i;rw[jo (by simp;omega),List.getElem?_set];simp only[List.length_cons,List.length_nil,Nat.zero_add];by_cases e:j=i
 ·subst e;simp[h]
 rw[if_neg (by omega),if_neg e]
structure PO(ls:List (List Int))(O:List ai):Prop where
 len:O.length=ls.length+2
 arr:O[1]?=some (.cells (la 2 ls))
 sp:∀j l,ls[j]?=some l->O[2+j]?=some (.spare l.length)
 up:∀o∈O,o.upto O.length
theorem PO.push{ls:List (List Int)}{O:List ai}(h:PO ls O){j:Nat}{l:List Int}(hj:ls[j]?=some l)(k:Int):PO (ls.set j (l++[k])) ((O.set (2+j) (.spare (l.length+1))).set 1 (.cells (la 2 (ls.set j (l++[k]))))):=by
 have a8:=I hj;have hl:=h.len;refine⟨by simp[hl],?_,fun i m hi=>?_,?_⟩
 ·rw[List.getElem?_set_self (by simp;omega)]
 ·rw[List.getElem?_set_ne (by omega)];by_cases e:j=i
  ·subst e;rw[List.getElem?_set_self a8]at hi;simp only[Option.some.injEq]at hi;subst hi;rw[List.getElem?_set_self (by omega)];simp
  rw[List.getElem?_set_ne e]at hi;rw[List.getElem?_set_ne (by omega)];exact h.sp i m hi
 have h1:∀o∈O.set (2+j) (.spare (l.length+1)),o.upto O.length:=bg h.up trivial;have h2:=bg (k:=1) (x:=.cells (la 2 (ls.set j (l++[k])))) h1 (by
  show av _ _;exact xR (by simp[hl];omega))
 simpa using h2
def jT(k:Nat)(ls:List (List Int))(e:Edge):List (List Int):=ls.set e.block.toNat ((ls[e.block.toNat]?.getD [])++[(k:Int)])
def iZ(k:Nat)(ls:List (List Int))(es:List Edge):List (List Int):=es.foldl (jT k) ls
def lA:Nat->List (List Int)->List Block->List (List Int)
 | _,ls,[]=>ls
 | k,ls,b::r=>lA (k+1) (iZ k ls b.term.to) r
def eI(f:Func):List (List Int):=lA 0 (List.replicate f.blocks.length []) f.blocks
theorem xX(k:Nat)(ls:List (List Int))(e:Edge):(jT k ls e).length=ls.length:=by simp[jT]
theorem sn(k:Nat):∀(es:List Edge) (ls:List (List Int)),(iZ k ls es).length=ls.length
 | [],_=>rfl
 | e::r,ls=>by
  show(iZ k (jT k ls e) r).length=_;rw[sn k r,xX]
theorem so:∀(l:List Block) (k:Nat) (ls:List (List Int)),(lA k ls l).length=ls.length
 | [],_,_=>rfl
 | b::r,k,ls=>by
  simp only[lA];rw[so r,sn]
theorem Rs{f:Func}{t:Term}(lO:Sk f t):t.to.length<=257:=by
 rcases(show(t.kind=0∨t.kind=4)∨t.kind=1∨t.kind=2∨t.kind=3 by have:=lO.kind;omega)with q|q|q|q
 ·rw[lO.to q];simp
 ·rw[lO.jump q];omega
 ·rw[lO.cond q];omega
 rw[lO.switch q];have:=lO.cases;omega
theorem x8(f:Func):(eI f).length=f.blocks.length:=by simp[eI,so]
theorem GY(n:Nat):(List.replicate n [ae.aB 1 [] .ex]).flatten=List.replicate n (.aB 1 [] .ex):=by
 induction n with
 | zero=>rfl
 | succ n ih=>rw[List.replicate_succ,List.flatten_cons,ih,List.replicate_succ];rfl
def zk(f:Func):ae:=if aN f=0 then .cx [.aB 1 ((eI f).map a7) .sh,aI 0]else .cx [.aB 1 [] .sh,aI (aN f)]
def Om(c:Nat)(ls:List (List Int)):Prop:=∀l∈ls,l.length<=c
theorem Om.push{c:Nat}{ls:List (List Int)}(h:Om c ls){j:Nat}{l:List Int}(hj:ls[j]?=some l)(k:Int):Om (c+1) (ls.set j (l++[k])):=fun m hm=>by
 rcases List.mem_or_eq_of_mem_set hm with q|q
 ·have:=h m q;omega
 subst q;have:=h l (List.mem_of_getElem? hj);simp;omega
theorem Om.mono{c d:Nat}{ls:List (List Int)}(h:Om c ls)(hd:c<=d):Om d ls:=fun l hl=>Nat.le_trans (h l hl) hd
theorem vu(f:Func)(bJ:f.fit):bq Tryz.prog 14 [f.enc] (zk f):=by
 have zW:=iC f bJ;unfold zk;by_cases hc:aN f=0
 ·rw[if_pos hc];rw[hc]at zW;have hw:=cA bJ hc;have hn:f.blocks.length<=128:=hw.few;obtain⟨N,hN⟩:∃N,N=f.blocks.length:=⟨_,rfl⟩
  obtain⟨R,hR⟩:∃R,R=eI f:=⟨_,rfl⟩
  have IW:R.length=N:=by rw[hR,hN,eI,so];simp
  rw[<-hR];unfold eI at hR;refine zf true 0 Tryz.func14 Tryz.ntmps14 ?_;dsimp only[Tmp,TypeId,slotsOf];refine az (ah ?_);refine aC 1 0 (.ip none [aI f.name,aw f.blocks]) rfl (by simp[ai.aD]) trivial rfl ?_ ?_;rotate_left;simp -dsimp only[simprocAttr,↓aa,zp]
  ·refine ck ?_;refine zi zW ?_;refine ah ?_;refine az (ah ?_);apply aP rfl<;>intro h
   ·cases h
   refine ct ?_;refine aU ?_;simp -dsimp only[simprocAttr,↓aa,zp,GY,<-hN];refine⟨by omega,by omega,?_⟩;refine ah ?_;have Qy:PO (List.replicate N []) (([ai.gone,ai.cells []]++List.replicate N (ai.spare 0)).set 1 (.cells ((List.range N).map fun j=>.aB 1 [] (.tok ([ai.gone,ai.cells []].length+j))))):=by
    refine⟨by simp,?_,fun j l hj=>?_,?_⟩
    ·rw[List.getElem?_set_self (by simp),Bu];rfl
    ·have gV:=I hj;rw[List.length_replicate]at gV;rw[List.getElem?_set_ne (by omega),List.getElem?_append_right (by simp)];simp only[List.length_cons,List.length_nil,Nat.zero_add,Nat.add_sub_cancel_left];simp[gV]at hj ⊢;rw[hj];rfl
    rw[<-Bu];have:=bg (k:=1) (n:=N+2) (x:=.cells (la 2 (List.replicate N []))) (O:=[ai.gone,ai.cells []]++List.replicate N (ai.spare 0)) (fun o ho=>by
     rcases List.mem_append.1 ho with q|q
     ·simp at q;rcases q with rfl|rfl<;>trivial
     rw[(List.mem_replicate.1 q).2];trivial) (xR (by simp;omega))
    simpa using this
   show cn Tryz.prog _ _ _ ⟨_,_,List.set [ai.gone,ai.cells []] 1 (.cells (List.replicate N (ae.aB 1 [] .ex)))⟩;refine Cs 1 N (by simp) ?_;generalize ([ai.gone,ai.cells []]++List.replicate N (ai.spare 0)).set 1 (.cells ((List.range N).map fun j=>.aB 1 [] (.tok ([ai.gone,ai.cells []].length+j))))=O0 at *;rw[<-hN]at hR;refine cK ?_;simp -dsimp only[simprocAttr,↓aa,zp,<-hN];refine ah ?_;refine ag (aM (ι:={p:Nat×List (List Int)×List ai // p.1<=N∧PO p.2.1 p.2.2∧p.2.1.length=N∧Om (p.1*257) p.2.1∧R=lA p.1 p.2.1 (f.blocks.drop p.1)}) (fun p=>⟨50,[(1,.ip none [aI f.name,aw f.blocks]),(5,.ms 1 0 N N),(20,aw f.blocks),(21,aI N),(22,aI p.1.1)],p.1.2.2⟩) (fun p=>N-p.1.1) ⟨(0,_,O0),by simp,Qy,by simp,by intro l hl;simp[(List.mem_replicate.1 hl).2],hR⟩ ?_ ?_)
   ·refine zq rfl ?_ ?_;simp -dsimp only[simprocAttr,↓aa,zp,zc]
    all_goals rfl
   rintro⟨⟨k,ls,O⟩,hk,hp,OV,vT,de⟩;simp only at hk hp OV vT de;have VG:=hp.len;have br:=hp.up;refine az (ah ?_);apply ic rfl<;>intro h
   ·refine ct ?_;have a8:k<N:=by simpa using h
    obtain⟨b,hb⟩:∃b,f.blocks[k]?=some b:=⟨f.blocks[k]'(by omega),List.getElem?_eq_getElem _⟩
    have AX:=List.mem_of_getElem? hb;have lO:=pT (hw.blk b AX).fin;have xE:b.term.to.length<=257:=by
     rcases(show(b.term.kind=0∨b.term.kind=4)∨b.term.kind=1∨b.term.kind=2∨b.term.kind=3 by have:=lO.kind;omega)with q|q|q|q
     ·rw[lO.to q];simp
     ·rw[lO.jump q];omega
     ·rw[lO.cond q];omega
     rw[lO.switch q];have:=lO.cases;omega
    rw[bA hb]at de;simp only[lA]at de;obtain⟨L1,SL⟩:∃L1,L1=iZ k ls b.term.to:=⟨_,rfl⟩
    rw[<-SL]at de;refine aG (ag ?_);refine aU ?_;simp -dsimp only[simprocAttr,↓aa,zp,hb];refine ah ?_;refine aK 7 ([a7 b.params,bW b.ins,aI b.term.kind,aI b.term.arg,aI b.term.n,a7 b.term.cases,aH b.term.to]) [(1,.ip none [aI f.name,aw f.blocks]),(5,.ms 1 0 N N),(20,aw f.blocks),(21,aI N),(22,aI k),(6,aI k),(7,.ip none [a7 b.params,bW b.ins,aI b.term.kind,aI b.term.arg,aI b.term.n,a7 b.term.cases,aH b.term.to])] (by simp[bt,bc,Go.Av.look]) (by rfl) (by omega) (by simp[bt,bc,Go.Av.look]) ?_ ?_ ?_
    ·exact br
    ·simp[ae.upto,av,ax,Edge.ak,Ins.ak,Block.ak,VG]
    refine az (ah ?_);refine ag (aM (ι:={p:Nat×List (List Int)×List ai // p.1<=b.term.to.length∧PO p.2.1 p.2.2∧p.2.1.length=N∧Om (k*257+p.1) p.2.1∧L1=iZ k p.2.1 (b.term.to.drop p.1)}) (fun p=>⟨50,[(1,.ip none [aI f.name,aw f.blocks]),(5,.ms 1 0 N N),(20,aw f.blocks),(21,aI N),(22,aI k),(6,aI k),(29,aH b.term.to),(30,aI b.term.to.length),(31,aI p.1.1)],p.1.2.2⟩) (fun p=>b.term.to.length-p.1.1) ⟨(0,ls,O),by simp,hp,OV,vT,SL⟩ ?_ ?_)
    ·refine zq rfl ?_ ?_;simp -dsimp only[simprocAttr,↓aa,zp,zc]
     all_goals rfl
    rintro⟨⟨z,ls,O⟩,hz,hp,OV,vT,qx⟩;simp only at hz hp OV vT qx;have VG:=hp.len;have br:=hp.up;refine az (ah ?_);apply ic rfl<;>intro h
    ·refine ct ?_;have mf:z<b.term.to.length:=by simpa using h
     obtain⟨e,he⟩:∃e,b.term.to[z]?=some e:=⟨b.term.to[z],by simp[mf]⟩
     have Lj:=(lO.ee e (List.mem_of_getElem? he)).1;rw[bA he]at qx;simp only[iZ,List.foldl_cons]at qx;obtain⟨j,hj⟩:∃j:Nat,e.block=(j:Int):=⟨e.block.toNat,by omega⟩
     have Tv:j<N:=by omega
     obtain⟨l,hl⟩:∃l,ls[j]?=some l:=⟨ls[j]'(by omega),List.getElem?_eq_getElem _⟩
     have Jo:jT k ls e=ls.set j (l++[(k:Int)]):=by simp[jT,hj,hl]
     rw[Jo]at qx;have e9:=JV (b:=2) hl;have nv:=hp.sp j l hl;have Gv:=hp.push hl k;have lP:=JW (b:=2) (ls:=ls) (j:=j) (l++[(k:Int)]);rw[List.map_append]at lP;have Yg:=vT l (List.mem_of_getElem? hl);have gi:=hp.arr;have SX:=aW (k:=1) (j:=2+j) (y:=.spare (l.length+1)) gi (by omega);refine aG (ag ?_);refine aU ?_;simp -dsimp only[simprocAttr,↓aa,zp,he];refine ah ?_;refine aK 9 ([aI e.block,a7 e.args]) [(1,.ip none [aI f.name,aw f.blocks]),(5,.ms 1 0 N N),(20,aw f.blocks),(21,aI N),(22,aI k),(6,aI k),(29,aH b.term.to),(30,aI b.term.to.length),(31,aI z),(9,.ip none [aI e.block,a7 e.args])] (by simp[bt,bc,Go.Av.look]) (by rfl) (by omega) (by simp[bt,bc,Go.Av.look]) ?_ ?_ ?_
     ·exact br
     ·simp[ae.upto,av,ax,Edge.ak,Ins.ak,Block.ak,VG]
     refine jD ?_;simp -dsimp only[simprocAttr,↓aa,zp,hj,gi,e9,nv,SX,lP,Int.toNat_natCast,Nat.mul_one,List.length_map,List.length_set];refine⟨by omega,by omega,by omega,by omega,by rw[vk];omega,?_⟩;refine⟨bP [1,2+j] O.length [.pure,.pure,.pure,.pure,.pure,.pure,.pure,.rd 0,.pure,.pure,.wr 2 [1],.pure,.wr 2 [0]] (by simp;omega) (by simp;omega) rfl rfl (by kernel_rfl),aV ?_⟩;simp -dsimp only[bF,ne_eq,Nat.reduceEqDiff,reduceCtorEq];have T4:(la 2 ls).set j (.aB 1 (l.map aI++[.v (.int .i64 k)]) (.tok (2+j)))=la 2 (ls.set j (l++[(k:Int)])):=lP;rw[fK _ (by rw[vk];omega),T4];refine cC ?_
     repeat(refine⟨by omega,?_⟩)
     refine eX ?_;refine⟨⟨(z+1,_,_),by simp only;omega,Gv,by simp[OV],vT.push hl k,qx⟩,by simp;omega,?_⟩;refine zq rfl ?_ ?_;simp -dsimp only[simprocAttr,↓aa,zp,zc]
     ·exact Sub.int (by simp)
     rfl
    refine aF ?_;simp -dsimp only[bF,ne_eq,Nat.reduceEqDiff,reduceCtorEq];have Jw:z=b.term.to.length:=by simp at h;omega
    subst Jw;rw[List.drop_length]at qx;simp only[iZ,List.foldl_nil]at qx;subst qx;refine cC ?_
    repeat(refine⟨by omega,?_⟩)
    refine eX ?_;refine⟨⟨(k+1,_,O),by simp only;omega,hp,OV,vT.mono (by omega),de⟩,by simp;omega,?_⟩;refine zq rfl ?_ ?_;simp -dsimp only[simprocAttr,↓aa,zp,zc]
    ·exact Sub.int (by simp)
    rfl
   refine aF ?_;simp -dsimp only[bF,ne_eq,Nat.reduceEqDiff,reduceCtorEq];have ik:k=N:=by simp at h;omega
   subst ik;rw[hN,List.drop_length]at de;simp only[lA]at de;subst de;have QE:=DR 2 R;have hZ:(la 2 R).length=k:=by rw[vk,OV]
   refine aC 5 1 (o:=.cells (la 2 R)) (.aB 1 (R.map a7) .sh) hp.arr (by simp[ai.aD]) trivial rfl (bY.ms (cs:=la 2 R) hp.arr (by intro x hx;obtain⟨l,_,rfl⟩:=List.mem_map.1 hx;rfl) (by rw[List.length_map,OV]) (by rw[List.drop_zero,Nat.mul_one,<-hZ,List.take_length,QE])) ?_;simp -dsimp only[simprocAttr,↓aa,zp];refine az (ah ?_);refine aq ?_;simp -dsimp only[simprocAttr,↓aa,zp,zr,Tryz.results14];simp only[av,ae.upto,and_true];rw[aQ];intro x hx;obtain⟨l,_,rfl⟩:=List.mem_map.1 hx;exact⟨ax _ _,trivial⟩
  exact bY.mp rfl rfl
 rw[if_neg hc];obtain⟨e,he⟩:∃e,e=aN f:=⟨_,rfl⟩
 rw[<-he]at hc zW ⊢;have oW:decide (e=0)=false:=decide_eq_false hc;refine zf true 0 Tryz.func14 Tryz.ntmps14 ?_;dsimp only[Tmp,TypeId,slotsOf];refine az (ah ?_);refine aC 1 0 (.ip none [aI f.name,aw f.blocks]) rfl (by simp[ai.aD]) trivial rfl ?_ ?_;rotate_left;simp -dsimp only[simprocAttr,↓aa,zp]
 ·refine ck ?_;refine zi zW ?_;refine ah ?_;refine aU ?_;simp -dsimp only[simprocAttr,↓aa,zp,oW];refine ah ?_;refine cY rfl ?_;refine az (ah ?_);refine aq ?_;simp -dsimp only[simprocAttr,↓aa,zp,zr,Tryz.results14];simp[av,ae.upto]
 exact bY.mp rfl rfl
end Go.Proofs.YtjdnhamngpafmaaGreat
namespace Go.Av
theorem pO{P:Program}{aT:eh}(hT:b7 P aT){o:Oper}{σ:St}{t e:TypeId}{len:Nat}{parts:Array (Nat×Operand)}{ti te:cc}{ps:List (Nat×ae)}{xs:List ae}
  (ho:o.op=.buildSlice t len parts) (hd:∀d,o.dst=some d->d<σ.n) (ht:aT t=some ti) (aR:ti.desc=.slice e) (he:aT e=some te) (mi:0<te.size) (xB:σ.eL parts.toList=some ps) (gG:∀p∈ps,p.2.flat)
  (Jp:gp 0 ps=some xs) (hlen:xs.length=len) (cM:∀x∈xs,x.cells.length=te.size) (Ub:len*te.size<=2 ^ 24) (hz:len≠0):Cert P o σ (.os σ.objs.length len te.size) (.write (σ.objs++[.cells (al xs)])) :=
 Cert.iN hd fun base fN a g bH h iT=>by
  have hO:g.objs=σ.objs:=iT.resolve_left (by simp);have hg:=bH.good;have kc:=jK (a:=a) (g:=g) (fun x hx y hy=>h x (by simpa[ho,Op.operands]using hx) y hy) xB gG;have hu:=bR hT ht aR;obtain⟨⟨i,z,h1,h2,h3,h4,h5,h6,h7,h8,h9⟩,_⟩:=hT e te he;have mO:=ox Jp;have dk:∀x∈xs,∀c∈x.cells,c.scalar:=by
   have aux:∀{ps:List (Nat×ae)} {vs:List (Nat×Value)},Cg g ps vs->∀p∈ps,∀c∈p.2.cells,c.scalar:=by
    intro ps vs hr;induction hr with
    | nil=>intro p hp;cases hp
    | cons hx hf r ih =>
     intro p hp;rcases List.mem_cons.1 hp with hp|hp
     ·subst hp;exact hx.iB hf
     exact ih p hp
   intro x hx c hc;have iw:∃k,(k,x)∈ps:=by
    obtain⟨k,hk⟩:=List.getElem?_of_mem hx;refine⟨0+k,?_⟩;rw[mO,List.mem_map];refine⟨(x,0+k),?_,rfl⟩;rw[List.mem_iff_getElem?];exact⟨k,by simp[hk]⟩
   obtain⟨k,hk⟩:=iw;exact aux kc _ hk c hc
  have bD:¬len*i.size=0:=by
   rw[h2];intro e0;rcases Nat.mul_eq_zero.1 e0 with q|q<;>omega
  obtain⟨zs,yW⟩:∃zs:Array Value,zs=(Array.range (len*i.size)).map (z.cells[· % z.cells.size]!):=⟨_,rfl⟩
  have Dt:zs.size=len*te.size:=by rw[yW];simp[h2]
  obtain⟨zc,Xc,xH,rM⟩:∃zc:List ae,(∀c∈zc,c.scalar)∧iW g zc zs∧zc.length=len*te.size:=by
   refine⟨(List.range (len*te.size)).map fun j=>te.zero.getD (j % te.size) (.v (.bool false)),fun c hc=>?_,⟨by simp[Dt],fun j c u hj MB=>?_⟩,by simp⟩
   ·rw[List.mem_map]at hc;obtain⟨j,_,e⟩:=hc;subst e;have a8:j % te.size<te.zero.length:=by rw[h6];exact Nat.mod_lt _ mi
    rw[List.getD_eq_getElem?_getD,List.getElem?_eq_getElem a8];exact h9 _ (List.getElem_mem a8)
   have gV:=I hj;simp only[List.length_map,List.length_range]at gV;rw[List.getElem?_map,List.getElem?_range gV]at hj;simp only[Option.map_some,Option.some.injEq]at hj;subst hj;have a8:j % te.size<te.zero.length:=by rw[h6];exact Nat.mod_lt _ mi
   have j':j % te.size<z.cells.size:=by rw[h5];exact a8
   rw[yW]at MB;simp only[Array.getElem?_map,h2,Array.getElem?_range,if_pos gV,Option.map_some,Option.some.injEq]at MB;subst MB;rw[List.getD_eq_getElem?_getD,List.getElem?_eq_getElem a8];refine h8 g (j % te.size) _ _ (List.getElem?_eq_getElem a8) ?_;rw[h5,h6];simp[j']
  have I6:∃cs',iH (fun i=>some (i*te.size,te.size)) zc ps=some cs':=by
   have aux:∀(ys:List ae) (k:Nat) (cs:List ae),(∀y∈ys,y.cells.length=te.size)->(k+ys.length)*te.size<=cs.length->∃cs',iH (fun i=>some (i*te.size,te.size)) cs ((ys.zipIdx k).map fun p=>(p.2,p.1))=some cs':=by
    intro ys;induction ys with
    | nil=>intro k cs _ _;exact⟨cs,rfl⟩
    | cons y ys ih =>
     intro k cs hy hl;simp only[List.zipIdx_cons,List.map_cons,iH];simp only[List.length_cons]at hl;have Ll:(k+1)*te.size=k*te.size+te.size:=Nat.succ_mul k te.size;have ES:(k+1)*te.size<=(k+(ys.length+1))*te.size:=Nat.mul_le_mul_right _ (by omega);have hc:y.cells.length=te.size∧k*te.size+te.size<=cs.length:=⟨hy y (by simp),by omega⟩
     rw[if_pos hc];refine ih (k+1) _ (fun z hz=>hy z (List.mem_cons_of_mem _ hz)) ?_;rw[gS (by omega),show k+1+ys.length=k+(ys.length+1) by omega];exact hl
   rw[mO];exact aux xs 0 zc cM (by rw[rM,hlen,Nat.zero_add];exact Nat.le_refl _)
  obtain⟨cs',De⟩:=I6;obtain⟨cf,q1,q2,_⟩:=oQ (fun i=>some (i*te.size,te.size)) kc xH De;obtain⟨e1,_⟩:=r5 xs 0 zc cs' (by rw[<-mO];exact De) (by rw[rM,hlen,Nat.zero_add];exact Nat.le_refl _);have e2:cs'=al xs:=by
   rw[e1];simp only[Nat.zero_mul,List.take_zero,List.nil_append,Nat.zero_add];rw[List.drop_of_length_le (by rw[rM,hlen];omega),List.append_nil]
  subst e2;have bI:(Instr.buildSlice t len (parts.map fun(i,x)=>(i,a.eval x))).run P g.w=.ok (.slice (some ⟨g.w.heap.size,0,none⟩) len len) (g.w.alloc (.cells cf e)):=by
   have AW:¬len*i.size > 2 ^ 24:=by rw[h2];omega
   rw[yW,<-h2]at q1;have Pr:Instr.fill (fun Xd=>some (Xd*i.size,i.size)) ((Array.range (len*i.size)).map (z.cells[· % z.cells.size]!)) (parts.map fun(i,x)=>(i,a.eval x)).toList=some cf:=by
    rw[Array.toList_map];exact q1
   simp only[Instr.buildSlice,run_underlying hu,Go.sizeOf,typeInfo,Go.zeroValue,Sem.run_bind,run_program,Result.andThen_ok,h1,Sem.run_pure,Go.newRow];rw[if_neg AW,if_neg bD];simp only[Sem.run_bind,Sem.run_pure,Result.andThen_ok,run_program,h1,h4,Pr,run_newObj];rfl
  have hle:=Le.alloc hg (.cells cf e) 0 (.cells (al xs));have kM:cf.size=len*te.size:=by
   rw[q2.1,<-hlen];have:∀ys:List ae,(∀y∈ys,y.cells.length=te.size)->(al ys).length=ys.length*te.size:=fun ys=>by
    induction ys with
    | nil=>intro _;simp[al]
    | cons y ys ih =>
     intro hy;have h1:=ih fun z hz=>hy z (by simp[hz]);have h2:=hy y (by simp);simp only[al,List.flatMap_cons,List.length_append,List.length_cons]at h1 ⊢;rw[h1,h2,Nat.succ_mul];omega
   exact this xs cM
  have WQ:∀c∈al xs,c.scalar:=fun c hc=>by
   simp only[al,List.mem_flatMap]at hc;obtain⟨x,hx,hc⟩:=hc;exact dk x hx c hc
  refine⟨.slice (some ⟨g.w.heap.size,0,none⟩) len len,g.alloc (.cells cf e) 0 (.cells (al xs)),.inl (by simp[execOp,ho,bI,G.alloc]),hle,Good.alloc hg _ 0 _ (.inr rfl) ⟨_,e,rfl,by rw[q2.1];exact Nat.le_refl _,(q2.mono hle).2,WQ⟩,by simp[G.alloc,hO,Mode.post],?_⟩;rw[<-hO];exact .os (l:=⟨g.w.heap.size,0,cf.size⟩) (iG hg) eS (by simp[ai.aD]) (Nat.le_refl _) (by rw[kM];exact Nat.le_refl _) (by
   have:len<=len*te.size:=Nat.le_mul_of_pos_right _ mi;omega)
theorem bY.os{O:List ai}{id len sz:Nat}{cs xs:List ae}(gC:O[id]?=some (.cells cs))(cM:∀x∈xs,x.cells.length=sz)(hlen:xs.length=len)(hd:((cs.drop 0).take (len*sz)).map ae.bf=al xs):bY O id (.os id len sz) (.aB sz xs .sh):=fun g u l' hg hO he hle h=>by
 obtain⟨l,o1,gx,h1,h2,_,Jb,_,cv,eu⟩:=h.qd;subst eu;rw[he]at h1;simp only[Option.some.injEq]at h1;subst h1;have fZ:g.objs[id]?=some (.cells cs):=by rw[hO];exact gC
 obtain⟨arr,t',iJ,dq,lN,fw,nt,_⟩:=hg.row fZ he;subst hlen;have key:∀(j:Nat) (c:ae),(al xs)[j]?=some c->∃c',cs[0+j]?=some c'∧c'.bf=c:=fun j c hj=>by
  rw[<-hd,List.getElem?_map,Option.map_eq_some_iff]at hj;obtain⟨c',hj,e⟩:=hj;have:=my hj;rw[List.getElem?_drop]at this;exact⟨c',this,e⟩
 refine .aB cM (fun x hx c hc=>?_) Jb cv (fun _=>rfl) (fun j=>arr.getD (0+j) undef) (fun j c hj=>?_) (fun j c hj=>?_) trivial
 ·have iw:c∈al xs:=by
   simp only[al,List.mem_flatMap];exact⟨x,hx,hc⟩
  obtain⟨j,hj⟩:=List.getElem?_of_mem iw;obtain⟨c',gV,e⟩:=key j c hj;subst e;exact ae.ec (nt c' (List.mem_of_getElem? gV))
 ·obtain⟨c',gV,e⟩:=key j c hj;have a8:=I gV;refine⟨?_,mM hg he fZ trivial _⟩;show g.w.cell? _=_;simp only;rw[cell_of_row dq];simp[Array.getD_eq_getD_getElem?,show j<arr.size by omega]
 obtain⟨c',gV,e⟩:=key j c hj;have a8:=I gV;subst e;exact((fw _ c' _ gV (by simp[Array.getD_eq_getD_getElem?,show j<arr.size by omega])).mono hle).bf
theorem u9{P:Program}{aT:eh}{md:Md}(hT:b7 P aT){o:Oper}{l2:List Oper}{Q:dR->St->Prop}{σ:St}{t e:TypeId}{len d:Nat}{parts:Array (Nat×Operand)}{ti te:cc}{ps:List (Nat×ae)}{xs:List ae}
  (ho:o.op=.buildSlice t len parts) (jL:o.dst=some d) (hd:d<σ.n) (ht:aT t=some ti) (aR:ti.desc=.slice e) (he:aT e=some te) (mi:0<te.size) (xB:σ.eL parts.toList=some ps) (gG:∀p∈ps,p.2.flat)
  (Jp:gp 0 ps=some xs) (hlen:xs.length=len) (cM:∀x∈xs,x.cells.length=te.size) (Ub:len*te.size<=2 ^ 24) (hz:len≠0)
  (h:fq P aT md l2 0 [] ⟨σ.n,pq o.dst (.os σ.objs.length len te.size) σ.bn,σ.objs++[.cells (al xs)]⟩ [] fun ρ _=>At ρ (Q .norm)):HL P aT md o l2 Q σ :=
 ⟨_,_,pO hT ho (fun d' e=>by rw[jL]at e;cases e;exact hd) ht aR he mi xB gG Jp hlen cM Ub hz,h⟩
end Go.Av
namespace Go.Proofs.YtjdnhamngpafmaaGreat
open Go.Av
def kq(oid:Nat)(l:List Int):ae:=if l=[]then .aB 1 [] .ex else .os oid l.length 1
theorem c4(x:Value):al [ae.v x]=[ae.v x]:=rfl
theorem c8(id len sz:Nat):(ae.os id len sz).cells=[ae.os id len sz]:=rfl
theorem GK{O:List ai}(br:∀o∈O,o.upto O.length)(h1:O[1]?=some (.cells [.aB 1 [] .ex]))(k:Int) :
  bh Tryz.prog 76 O [aI k,.mp 1 0] (fun r O'=>r=.cx []∧O'=(O++[ai.cells [aI k]]).set 1 (.cells [.os O.length 1 1])):=by
 have hl:=I h1;have C8:∀X,(O++X)[1]?=some (.cells [.aB 1 [] .ex]):=fun X=>bS h1;have ik:O.length<=O.length+1:=by omega
 refine fo hT true (O.length+1) Tryz.func76 rfl (by kernel_rfl) (by simp[Tryz.ntmps76]) (by assumption) ?_;show cn Tryz.prog _ _ _ ⟨7,_,_⟩;dsimp only[Tmp,TypeId,slotsOf];have jf:((O++[ai.cells [ae.v (.int .i64 k)]]).set 1 (.cells [.os O.length 1 1])).take (O.length+1)=(O++[ai.cells [ae.v (.int .i64 k)]]).set 1 (.cells [.os O.length 1 1]):=List.take_of_length_le (by simp);refine Lt ?_;simp -dsimp only[simprocAttr,↓aa,zp,h1,C8,c4,c8];refine⟨trivial,?_⟩;refine aV ?_;simp -dsimp only[simprocAttr,↓aa,zp,zr,Tryz.results76,jf,List.length_set,List.length_append];exact⟨bg (fL (fun o ho=>ai.bK (by omega) (br o ho)) ⟨trivial,trivial⟩) ⟨show _<_ by omega,trivial⟩,trivial⟩
theorem JD{O:List ai}(br:∀o∈O,o.upto O.length){oid:Nat}{l:List Int}(h1:O[1]?=some (.cells [.os oid l.length 1]))(h2:O[oid]?=some (.cells (l.map aI)))(ho:oid≠1)(yS:l.length<=1000)(k:Int) :
  bh Tryz.prog 76 O [aI k,.mp 1 0] (fun r O'=>r=.cx []∧O'=(O.set oid .gone++[ai.cells ((l++[k]).map aI)]).set 1 (.cells [.os O.length (l.length+1) 1])):=by
 have hl:=I h1;have C8:∀X,(O.set oid .gone++X)[1]?=some (.cells [.os oid l.length 1]):=fun X=>bS (aW h1 ho);have ik:O.length<=O.length+1:=by omega
 refine fo hT true (O.length+1) Tryz.func76 rfl (by kernel_rfl) (by simp[Tryz.ntmps76]) (by assumption) ?_;show cn Tryz.prog _ _ _ ⟨7,_,_⟩;dsimp only[Tmp,TypeId,slotsOf];refine Lt ?_;simp -dsimp only[simprocAttr,↓aa,zp,h1,C8,h2,c4,c8];refine⟨by simp,by omega,by omega,?_⟩;have zV:(l.map aI).take (l.length*1)=l.map aI:=List.take_of_length_le (by simp);have jf:((O.set oid .gone++[ai.cells (l.map aI++[ae.v (.int .i64 k)])]).set 1 (.cells [.os O.length (l.length+1) 1])).take (O.length+1)=(O.set oid .gone++[ai.cells (l.map aI++[ae.v (.int .i64 k)])]).set 1 (.cells [.os O.length (l.length+1) 1]):=List.take_of_length_le (by simp);refine⟨trivial,?_⟩;refine aV ?_;simp -dsimp only[simprocAttr,↓aa,zp,zr,Tryz.results76,zV,jf,List.length_set,List.length_append];refine⟨bg (fL (bg (fun o ho=>ai.bK (by omega) (br o ho)) trivial) ?_) ⟨show _<_ by omega,trivial⟩,trivial,by simp⟩;show av _ _;have:=ax (O.length+1) (l++[k]);simpa using this
def eR(x v:Int):Int:=max x (v+1)
def dL(b:Block):List Int:=b.params++b.ins.map Ins.to
def iu(f:Func):List Int:=f.blocks.flatMap dL
def c5(f:Func):Int:=(iu f).foldl eR 0
theorem sM{O:List ai}(br:∀o∈O,o.upto O.length){A:Nat}{x:Int}(hA:O[A]?=some (.cells [aI x]))(v:Int)(hv:0<=v∧v<=2 ^ 60) :
  bh Tryz.prog 61 O [aI v,.mp A 0] (fun r O'=>r=.cx []∧O'=O.set A (.cells [aI (eR x v)])):=by
 have C9:=I hA;have jf:(O.set A (.cells [aI (eR x v)])).take O.length=O.set A (.cells [aI (eR x v)]):=b6;have wL:∀o∈O.set A (.cells [aI (eR x v)]),o.upto O.length:=bg br ⟨trivial,trivial⟩;unfold eR at *;refine zf true O.length Tryz.func61 Tryz.ntmps61 ?_;dsimp only[Tmp,TypeId,slotsOf];refine jD ?_;simp -dsimp only[simprocAttr,↓aa,zp,hA]
 repeat(refine⟨by omega,?_⟩)
 refine aV ?_;simp -dsimp only[simprocAttr,↓aa,zp,zr,Tryz.results61,jf,List.length_set];exact⟨wL,trivial⟩
def HN(f:Func):Prop:=∀v∈iu f,0<=v∧v<=4095
theorem vf{x v:Int}(hx:x<=4096)(hv:v<=4095):eR x v<=4096:=by
 unfold eR;omega
theorem sL:∀(l:List Int) (x:Int),x<=4096->(∀v∈l,v<=4095)->l.foldl eR x<=4096
 | [],_,hx,_=>hx
 | v::r,x,hx,h=>sL r _ (vf hx (h v (by simp))) (fun w hw=>h w (by simp[hw]))
theorem sK:∀(l:List Int) (x:Int),x<=l.foldl eR x∧∀v∈l,v<l.foldl eR x
 | [],_=>⟨Int.le_refl _,by simp⟩
 | v::r,x=>by
  have ih:=sK r (eR x v);have:x<=eR x v∧v<eR x v:=by unfold eR;omega
  simp only[List.foldl_cons];refine⟨by omega,fun w hw=>?_⟩;rcases List.mem_cons.1 hw with q|q
  ·subst q;omega
  exact ih.2 w q
theorem BV{O:List ai}(br:∀o∈O,o.upto O.length){A:Nat}(f:Func)(hf:HN f)(q8:f.blocks.length<=2 ^ 47)(S3:∀b∈f.blocks,b.params.length<=2 ^ 47∧b.ins.length<=2 ^ 47)(hA:O[A]?=some (.cells [aI 0])) :
  bh Tryz.prog 60 O [f.enc,.fn (.func 61) [] [.mp A 0]] (fun r O'=>r=.cx []∧O'=O.set A (.cells [aI (c5 f)])):=by
 have C9:=I hA;obtain⟨R,hR⟩:∃R,R=c5 f:=⟨_,rfl⟩
 rw[<-hR];unfold c5 iu at hR;have B5:∀x,(O.set A x)[A]?=some x:=fun x=>List.getElem?_set_self C9;have fg:∀x:Int,∀o∈O.set A (.cells [aI x]),o.upto (O.set A (.cells [aI x])).length:=fun x=>by
  rw[List.length_set];exact bg br ⟨trivial,trivial⟩
 have hlen:∀x,(O.set A x).length=O.length:=fun x=>List.length_set;have eE:O.set A (.cells [aI 0])=O:=jW hA;have jf:∀x:Int,(O.set A (.cells [aI x])).take O.length=O.set A (.cells [aI x]):=fun x=>b6;have dG:∀x y,(O.set A x).set A y=O.set A y:=fun x y=>List.set_set ..;refine zf true O.length Tryz.func60 Tryz.ntmps60 ?_;dsimp only[Tmp,TypeId,slotsOf];refine az (ah ?_);refine aK 2 ([aI f.name,aw f.blocks]) [(1,.fn (.func 61) [] [.mp A 0]),(2,.ip none [aI f.name,aw f.blocks])] rfl (by rfl) (by omega) (by simp[bt,bc,Go.Av.look]) ?_ ?_ ?_
 ·exact br
 ·simp[ae.upto,av,ax,Block.ak,C9]
 refine az (ah ?_);refine ag (aM (ι:={x:Nat×Int // x.1<=f.blocks.length∧R=((f.blocks.drop x.1).flatMap dL).foldl eR x.2∧x.2<=4096}) (fun x=>⟨41,[(1,.fn (.func 61) [] [.mp A 0]),(11,aw f.blocks),(12,aI f.blocks.length),(13,aI x.1.1)],O.set A (.cells [aI x.1.2])⟩) (fun x=>f.blocks.length-x.1.1) ⟨(0,0),by simp,hR,by simp⟩ ?_ ?_)
 ·refine zq rfl ?_ ?_;simp -dsimp only[simprocAttr,↓aa,zp,zc];exact eE.symm
 rintro⟨⟨k,x⟩,hk,de,hx⟩;simp only at hk de hx;refine az (ah ?_);apply ic rfl<;>intro h
 ·refine ct ?_;have a8:k<f.blocks.length:=by simpa using h
  obtain⟨b,hb⟩:∃b,f.blocks[k]?=some b:=⟨f.blocks[k],by simp[a8]⟩
  have AX:=List.mem_of_getElem? hb;have UT:∀v∈dL b,0<=v∧v<=4095:=fun v hv=>hf v (List.mem_flatMap.2 ⟨b,AX,hv⟩);rw[bA hb]at de;rw[List.flatMap_cons,List.foldl_append,dL,List.foldl_append]at de;have S3:=S3 b AX;have Z9:=hlen (.cells [aI x]);refine aG (ag ?_);refine aU ?_;simp -dsimp only[simprocAttr,↓aa,zp,hb];refine ah ?_;refine aK 5 ([a7 b.params,bW b.ins,aI b.term.kind,aI b.term.arg,aI b.term.n,a7 b.term.cases,aH b.term.to]) [(1,.fn (.func 61) [] [.mp A 0]),(5,.ip none [a7 b.params,bW b.ins,aI b.term.kind,aI b.term.arg,aI b.term.n,a7 b.term.cases,aH b.term.to]),(11,aw f.blocks),(12,aI f.blocks.length),(13,aI k)] rfl (by rfl) (by omega) (by simp[bt,bc,Go.Av.look]) ?_ ?_ ?_
  ·exact fg x
  ·simp[ae.upto,av,ax,Block.ak,Edge.ak,Ins.ak,C9]
  refine ck (ah ?_);refine ag (aM (ι:={y:Nat×Int // y.1<=b.params.length∧R=((f.blocks.drop (k+1)).flatMap dL).foldl eR ((b.ins.map Ins.to).foldl eR ((b.params.drop y.1).foldl eR y.2))∧y.2<=4096}) (fun y=>⟨41,[(1,.fn (.func 61) [] [.mp A 0]),(5,.ip none [a7 b.params,bW b.ins,aI b.term.kind,aI b.term.arg,aI b.term.n,a7 b.term.cases,aH b.term.to]),(11,aw f.blocks),(12,aI f.blocks.length),(13,aI k),(18,a7 b.params),(19,aI b.params.length),(20,aI y.1.1)],O.set A (.cells [aI y.1.2])⟩) (fun y=>b.params.length-y.1.1) ⟨(0,x),by simp,de,hx⟩ ?_ ?_)
  ·refine zq rfl ?_ ?_;simp -dsimp only[simprocAttr,↓aa,zp,zc];rfl
  rintro⟨⟨j,y⟩,hj,jw,hy⟩;simp only at hj jw hy;refine az (ah ?_);apply ic rfl<;>intro h
  ·refine ct ?_;have TH:j<b.params.length:=by simpa using h
   obtain⟨v,hv⟩:∃v,b.params[j]?=some v:=⟨b.params[j],by simp[TH]⟩
   rw[bA hv,List.foldl_cons]at jw;have Uo:=UT v (by simp[dL,List.mem_of_getElem? hv]);have dK:=sM (fg y) (B5 _) v ⟨Uo.1,by omega⟩;rw[dG]at dK;refine aG (ag ?_);refine aU ?_;simp -dsimp only[simprocAttr,↓aa,zp,hv];refine ah ?_;refine cC ?_;refine .inr (.inl ⟨_,_,dK,.inl (ao (zj ?_))⟩);refine ah ?_;refine cC ?_
   repeat(refine⟨by omega,?_⟩)
   refine eX ?_;refine⟨⟨(j+1,eR y v),TH,jw,vf hy Uo.2⟩,by simp;omega,?_⟩;refine zq rfl ?_ ?_;simp -dsimp only[simprocAttr,↓aa,zp,zc]
   ·exact Sub.int (by simp)
   rfl
  refine aF ?_;simp -dsimp only[bF,ne_eq,Nat.reduceEqDiff,reduceCtorEq];have tA:j=b.params.length:=by simp at h;omega
  subst tA;rw[List.drop_length,List.foldl_nil]at jw;refine az (ah ?_);refine ag (aM (ι:={z:Nat×Int // z.1<=b.ins.length∧R=((f.blocks.drop (k+1)).flatMap dL).foldl eR (((b.ins.drop z.1).map Ins.to).foldl eR z.2)∧z.2<=4096}) (fun z=>⟨41,[(1,.fn (.func 61) [] [.mp A 0]),(11,aw f.blocks),(12,aI f.blocks.length),(13,aI k),(29,bW b.ins),(30,aI b.ins.length),(31,aI z.1.1)],O.set A (.cells [aI z.1.2])⟩) (fun z=>b.ins.length-z.1.1) ⟨(0,y),by simp,jw,hy⟩ ?_ ?_)
  ·refine zq rfl ?_ ?_;simp -dsimp only[simprocAttr,↓aa,zp,zc];rfl
  rintro⟨⟨q,z⟩,hq,T5,hz⟩;simp only at hq T5 hz;refine az (ah ?_);apply ic rfl<;>intro h
  ·refine ct ?_;have TI:q<b.ins.length:=by simpa using h
   obtain⟨i,hi⟩:∃i,b.ins[q]?=some i:=⟨b.ins[q],by simp[TI]⟩
   rw[bA hi,List.map_cons,List.foldl_cons]at T5;have Uo:=UT i.to (by simp only[dL,List.mem_append,List.mem_map];exact .inr ⟨i,List.mem_of_getElem? hi,rfl⟩);have dK:=sM (fg z) (B5 _) i.to ⟨Uo.1,by omega⟩;rw[dG]at dK;have Z9:=hlen (.cells [aI z]);refine aG (ag ?_);refine aU ?_;simp -dsimp only[simprocAttr,↓aa,zp,hi];refine ah ?_;refine aK 9 ([aI i.to,aI i.op,aI i.n,a7 i.args]) [(1,.fn (.func 61) [] [.mp A 0]),(9,.ip none [aI i.to,aI i.op,aI i.n,a7 i.args]),(11,aw f.blocks),(12,aI f.blocks.length),(13,aI k),(29,bW b.ins),(30,aI b.ins.length),(31,aI q)] rfl (by rfl) (by omega) (by simp[bt,bc,Go.Av.look]) ?_ ?_ ?_
   ·exact fg z
   ·simp[ae.upto,av,ax,Block.ak,Edge.ak,Ins.ak,C9]
   refine cC ?_;refine .inr (.inl ⟨_,_,dK,.inl (ao (zj ?_))⟩);refine ah ?_;refine cC ?_
   repeat(refine⟨by omega,?_⟩)
   refine eX ?_;refine⟨⟨(q+1,eR z i.to),TI,T5,vf hz Uo.2⟩,by simp;omega,?_⟩;refine zq rfl ?_ ?_;simp -dsimp only[simprocAttr,↓aa,zp,zc]
   ·exact Sub.int (by simp)
   rfl
  refine aF ?_;simp -dsimp only[bF,ne_eq,Nat.reduceEqDiff,reduceCtorEq];have hqq:q=b.ins.length:=by simp at h;omega
  subst hqq;rw[List.drop_length,List.map_nil,List.foldl_nil]at T5;refine cC ?_
  repeat(refine⟨by omega,?_⟩)
  refine eX ?_;refine⟨⟨(k+1,z),a8,T5,hz⟩,by simp;omega,?_⟩;refine zq rfl ?_ ?_;simp -dsimp only[simprocAttr,↓aa,zp,zc]
  ·exact Sub.int (by simp)
  rfl
 refine aF ?_;simp -dsimp only[bF,ne_eq,Nat.reduceEqDiff,reduceCtorEq];have ik:k=f.blocks.length:=by simp at h;omega
 subst ik;rw[List.drop_length,List.flatMap_nil,List.foldl_nil]at de;subst de
 skip
 simp -dsimp only[simprocAttr,↓aa,zp,zr,Tryz.results60,jf,List.length_set];have:=fg R;rw[hlen]at this;exact⟨this,trivial⟩
theorem C5(f:Func)(hf:HN f)(q8:f.blocks.length<=2 ^ 47)(S3:∀b∈f.blocks,b.params.length<=2 ^ 47∧b.ins.length<=2 ^ 47):bq Tryz.prog 34 [f.enc] (aI (c5 f)):=by
 have Gz:=BV (O:=[.gone,.cells [aI 0]]) (A:=1) (by simp[ai.upto,av,ae.upto]) f hf q8 S3 rfl;refine zf true 0 Tryz.func34 Tryz.ntmps34 ?_;dsimp only[Tmp,TypeId,slotsOf];refine az (ah ?_);refine aC 1 0 (.ip none [aI f.name,aw f.blocks]) rfl (by simp[ai.aD]) trivial rfl ?_ ?_;rotate_left;simp -dsimp only[simprocAttr,↓aa,zp]
 ·refine az (ah ?_);refine az ?_;refine .inr (.inl ⟨_,_,Gz,.inl (ao (zj ?_))⟩);refine ah ?_;refine az (ah ?_);refine aq ?_;simp -dsimp only[simprocAttr,↓aa,zp,zr,Tryz.results34]
 exact bY.mp rfl rfl
end Go.Proofs.YtjdnhamngpafmaaGreat
namespace Go.Av
theorem RV.UG{g:G}{sz:Nat}{xs:List ae}{a:Addr}{len cap:Nat}(h:RV g (.aB sz xs .sh) (.slice (some a) len cap)):RV g (.aB sz xs .nn) (.slice (some a) len cap):=by
 cases h with
 | aB cM dk cL cv hs f hm hr ho=>exact .aB cM dk cL cv hs f hm hr trivial
theorem bY.Us{O:List ai}{id off len cap sz:Nat}{cs xs:List ae}(gC:O[id]?=some (.cells cs))(cM:∀x∈xs,x.cells.length=sz)(hlen:xs.length=len)(hd:((cs.drop off).take (len*sz)).map ae.bf=al xs):bY O id (.ms id off len cap) (.aB sz xs .nn):=fun g u l' hg hO he hle h=>by
 have k:=bY.ms gC cM hlen hd g u l' hg hO he hle h;obtain⟨l,o1,h1,h2,_,Jb,cv,gx,cL,eu⟩:=h.oe;subst eu;exact k.UG
end Go.Av
namespace Go.Proofs.YtjdnhamngpafmaaGreat
open Go.Av
theorem dS(n:Nat)(l:List Bool):av n (l.map eB):=by
 rw[aQ];intro x hx;obtain⟨b,_,rfl⟩:=List.mem_map.1 hx;trivial
theorem nO(n:Nat):(List.replicate n [ae.v (.bool false)]).flatten=(List.replicate n false).map eB:=by
 induction n with
 | zero=>rfl
 | succ n ih=>rw[List.replicate_succ,List.flatten_cons,ih,List.replicate_succ];rfl
theorem Iy(l:List Bool):al (l.map eB)=l.map eB:=by
 induction l with
 | nil=>rfl
 | cons a r ih =>
  simp only[List.map_cons,al,List.flatMap_cons]at ih ⊢;rw[ih];rfl
theorem Iz(l:List Bool):(l.map eB).map ae.bf=l.map eB:=by
 rw[List.map_map];rfl
theorem SD(l:List Bool):∀x∈l.map eB,x.cells.length=1:=fun x hx=>by
 obtain⟨b,_,rfl⟩:=List.mem_map.1 hx;rfl
theorem FZ{O:List ai}{id:Nat}{l:List Bool}{len cap:Nat}(h:O[id]?=some (.cells (l.map eB)))(hl:l.length=len):bY O id (.ms id 0 len cap) (.aB 1 (l.map eB) .nn) :=
 bY.Us h (SD l) (by simpa using hl) (by rw[List.drop_zero,List.take_of_length_le (by simp;omega),Iz,Iy])
theorem yD{l:List Bool}{j:Nat}(h:j<l.length)(b:Bool):bp (l.map eB) j [.v (.bool b)]=(l.set j b).map eB:=by
 rw[fK _ (by simpa using h),List.map_set];rfl
def Ux(l:List Bool)(v:Int)(b:Bool):List Bool:=l.set v.toNat b
def Q0(l:List Bool)(vs:List Int):List Bool:=vs.foldl (fun s v=>Ux s v true) l
def Ew(i:Ins)(now:List Bool):List Bool:=Q0 (Ux now i.to false) i.args
def Ov(l:List Ins)(now:List Bool):List Bool:=l.foldr Ew now
structure Sr where
 seen:List Bool
 st:List (Int×Int)
 out:List Int
def eA(f:Func)(b:Int):List Edge:=(aY f b).term.to
def dv(f:Func)(b e:Int):Int:=((eA f b)[e.toNat]?.getD default).block
def fb(f:Func)(S:Sr):Sr :=
 match S.st with
 | []=>S
 | (b,e)::r =>
  if e=(eA f b).length then⟨S.seen,r,S.out++[b]⟩
  else if S.seen[(dv f b e).toNat]?.getD false=true then⟨S.seen,(b,e+1)::r,S.out⟩
  else⟨S.seen.set (dv f b e).toNat true,(dv f b e,0)::(b,e+1)::r,S.out⟩
def iS(f:Func):Nat->Sr->Sr
 | 0,S=>S
 | n+1,S=>if S.st.isEmpty then S else iS f n (fb f S)
def cQ(f:Func):Sr:=⟨(List.replicate f.blocks.length false).set 0 true,[(0,0)],[]⟩
def gX(f:Func):List Int:=(iS f 100000 (cQ f)).out
structure vX(f:Func)(S:Sr):Prop where
 len:S.seen.length=f.blocks.length
 blk:∀p∈S.st,0<=p.1∧p.1<f.blocks.length∧0<=p.2∧p.2<=(eA f p.1).length
 few:S.out.length+S.st.length<=S.seen.countP id
 outs:∀b∈S.out,0<=b∧b<f.blocks.length
def Sg:List (Int×Int)->Nat
 | []=>0
 | p::r=>(258-p.2.toNat)+Sg r
def Ls(S:Sr):Nat:=300*(S.seen.length-S.seen.countP id)+Sg S.st
structure fv(f:Func):Prop where
 ne:f.blocks≠[]
 few:f.blocks.length<=128
 to:∀b∈f.blocks,b.term.to.length<=257
 ee:∀b∈f.blocks,∀e∈b.term.to,1<=e.block∧e.block<f.blocks.length
theorem Oq.gr{f:Func}(h:Oq f):fv f :=
 ⟨h.ne,h.few,fun b hb=>Rs (pT (h.blk b hb).fin),fun b hb e he=>by
  have:=((pT (h.blk b hb).fin).ee e he).1;omega⟩
theorem fv.next{f:Func}(h:fv f){b e:Int}(hb:0<=b∧b<f.blocks.length)(h0:0<=e)(h1:e<(eA f b).length):∃x,(eA f b)[e.toNat]?=some x∧x.block=dv f b e∧1<=dv f b e∧dv f b e<f.blocks.length:=by
 have a8:e.toNat<(eA f b).length:=by omega
 have hx:(eA f b)[e.toNat]?=some (eA f b)[e.toNat]:=List.getElem?_eq_getElem a8;refine⟨_,hx,by rw[dv,hx];rfl,?_⟩;have:=h.ee _ (dY hb.1 hb.2) (eA f b)[e.toNat] (List.getElem_mem a8);rw[dv,hx];exact this
theorem nf{l:List Bool}{k:Nat}(hk:k<l.length)(h:l[k]?.getD false=false):(l.set k true).countP id=l.countP id+1:=by
 induction l generalizing k with
 | nil=>simp at hk
 | cons a r ih =>
  cases k with
  | zero =>
   simp only[List.getElem?_cons_zero,Option.getD_some]at h;subst h;simp
  | succ k =>
   simp only[List.getElem?_cons_succ]at h;have:=ih (by simpa using hk) h;simp only[List.set_cons_succ,List.countP_cons,this];omega
theorem pd{f:Func}(hg:fv f){S:Sr}(h:vX f S)(bD:S.st≠[]):vX f (fb f S)∧Ls (fb f S)<Ls S:=by
 obtain⟨seen,st,out⟩:=S;cases st with
 | nil=>exact absurd rfl bD
 | cons p r =>
  obtain⟨b,e⟩:=p;obtain⟨h1,h2,h3,h4⟩:=h;simp only at h1 h2 h3 h4;have hp:=h2 (b,e) (by simp);simp only at hp;have xE:(eA f b).length<=257:=hg.to _ (dY hp.1 hp.2.1);have hc:seen.countP id<=seen.length:=List.countP_le_length;simp only[List.length_cons]at h3;simp only[fb];by_cases he:e=(eA f b).length
  ·rw[if_pos he];refine⟨⟨h1,fun p hp=>h2 p (by simp[hp]),by simp only[List.length_append,List.length_cons,List.length_nil];omega,fun x hx=>?_⟩,?_⟩
   ·rcases List.mem_append.1 hx with q|q
    ·exact h4 x q
    simp only[List.mem_singleton]at q;subst q;exact⟨hp.1,hp.2.1⟩
   simp only[Ls,Sg];omega
  rw[if_neg he];obtain⟨x,hx,Ca,z7,ET⟩:=hg.next ⟨hp.1,hp.2.1⟩ hp.2.2.1 (by omega)
  by_cases hs:seen[(dv f b e).toNat]?.getD false=true
  ·rw[if_pos hs];refine⟨⟨h1,fun p WG=>?_,by simpa using h3,h4⟩,?_⟩
   ·rcases List.mem_cons.1 WG with q|q
    ·subst q;exact⟨hp.1,hp.2.1,by simp only;omega,by simp only;omega⟩
    exact h2 p (by simp[q])
   simp only[Ls,Sg];omega
  rw[if_neg hs];have Pa:seen[(dv f b e).toNat]?.getD false=false:=by simpa using hs
  have hk:(dv f b e).toNat<seen.length:=by omega
  have fw:=nf hk Pa;have hZ:(seen.set (dv f b e).toNat true).countP id<=(seen.set (dv f b e).toNat true).length:=List.countP_le_length;rw[List.length_set]at hZ;refine⟨⟨by simpa using h1,fun p WG=>?_,by simp only[List.length_cons,fw];omega,h4⟩,?_⟩
  ·rcases List.mem_cons.1 WG with q|q
   ·subst q;exact⟨by simp only;omega,ET,by simp,by simp⟩
   rcases List.mem_cons.1 q with q|q
   ·subst q;exact⟨hp.1,hp.2.1,by simp only;omega,by simp only;omega⟩
   exact h2 p (by simp[q])
  simp only[Ls,Sg,List.length_set,fw];omega
theorem rF{f:Func}(hg:fv f):∀(n:Nat) (S:Sr),vX f S->Ls S<n->vX f (iS f n S)∧(iS f n S).st=[]
 | 0,S,_,h=>by omega
 | n+1,S,h,hw=>by
  simp only[iS];cases dG:S.st with
  | nil=>simpa[dG]using h
  | cons p r =>
   simp only[List.isEmpty_cons,Bool.false_eq_true,if_false];have:=pd hg h (by rw[dG];simp);exact rF hg n _ this.1 (by omega)
theorem m7{f:Func}(hg:fv f):vX f (cQ f)∧Ls (cQ f)<100000:=by
 have hl:0<f.blocks.length:=by
  cases hb:f.blocks with
  | nil=>exact absurd hb hg.ne
  | cons=>simp
 have Gj:=hg.few;have hc:((List.replicate f.blocks.length false).set 0 true).countP id=1:=by
  rw[nf (by simpa using hl) (by simp[hl])];simp[List.countP_replicate]
 refine⟨⟨by simp[cQ],fun p hp=>?_,by simp only[cQ,hc];simp,by simp[cQ]⟩,?_⟩
 ·simp only[cQ,List.mem_singleton]at hp;subst hp;exact⟨by simp,by simp;omega,by simp,by simp⟩
 simp only[Ls,cQ,hc,List.length_set,List.length_replicate,Sg];simp;omega
def lU:List (Int×Int)->List ae
 | []=>[]
 | p::r=>lU r++[aI p.1,aI p.2]
theorem gT:∀l:List (Int×Int),(lU l).length=l.length*2
 | []=>rfl
 | p::r=>by
  simp only[lU,List.length_append,gT r,List.length_cons,List.length_nil];omega
theorem sr(n:Nat):∀l:List (Int×Int),av n (lU l)
 | []=>trivial
 | p::r=>by
  rw[aQ];intro x hx;rcases List.mem_append.1 hx with q|q
  ·exact aQ.1 (sr n r) x q
  simp only[List.mem_cons,List.not_mem_nil,or_false]at q;rcases q with rfl|rfl<;>trivial
structure So where
 S:Sr
 sid:Nat
 oid:Nat
 O:List ai
def qG(O:List ai)(id:Nat):List ae :=
 match O[id]? with
 | some (.cells cs)=>cs
 | _=>[]
def o5(O:List ai)(oid:Nat)(out:List Int)(b:Int):List ai :=
 if out=[]then(O++[ai.cells [aI b]]).set 1 (.cells [.os O.length 1 1])
 else(O.set oid .gone++[ai.cells ((out++[b]).map aI)]).set 1 (.cells [.os O.length (out.length+1) 1])
def kf(f:Func)(X:So):So :=
 match X.S.st with
 | []=>X
 | (b,e)::r =>
  if e=(eA f b).length then⟨fb f X.S,X.sid,X.O.length,o5 X.O X.oid X.S.out b⟩
  else
   let cs:=(qG X.O X.sid).set (r.length*2+1) (aI (e+1));let O1:=X.O.set X.sid (.cells cs)
   if X.S.seen[(dv f b e).toNat]?.getD false=true then⟨fb f X.S,X.sid,X.oid,O1⟩
   else
    let O2:=O1.set 2 (.cells ((X.S.seen.set (dv f b e).toNat true).map eB))
    ⟨fb f X.S,O2.length,X.oid,O2.set X.sid .gone++[ai.cells (cs.take ((r.length+1)*2)++[aI (dv f b e),aI 0])]⟩
def kU(f:Func):Nat->So->So
 | 0,X=>X
 | n+1,X=>if X.S.st.isEmpty then X else kU f n (kf f X)
theorem BN(f:Func)(X:So):(kf f X).S=fb f X.S:=by
 unfold kf;cases dG:X.S.st with
 | nil=>simp[fb,dG]
 | cons p r =>
  simp only;split
  ·rfl
  split<;>rfl
theorem zE(f:Func):∀(n:Nat) (X:So),(kU f n X).S=iS f n X.S
 | 0,X=>rfl
 | n+1,X=>by
  simp only[kU,iS];split
  ·rfl
  rw[zE f n,BN]
structure SO(X:So):Prop where
 up:∀o∈X.O,o.upto X.O.length
 out:X.O[1]?=some (.cells [kq X.oid X.S.out])
 outs:X.S.out≠[]->X.O[X.oid]?=some (.cells (X.S.out.map aI))∧X.oid≠X.sid∧2<X.oid
 seen:X.O[2]?=some (.cells (X.S.seen.map eB))
 stk:∃gb,X.O[X.sid]?=some (.cells (lU X.S.st++gb))
 sne:2<X.sid
theorem SO.step{f:Func}{X:So}(h:SO X):SO (kf f X):=by
 obtain⟨⟨seen,st,out⟩,sid,oid,O⟩:=X;obtain⟨h1,h2,h3,h4,⟨gb,h5⟩,h6⟩:=h;simp only at h1 h2 h3 h4 h5 h6;have l1:=I h2;have l2:=I h4;have l5:=I h5;cases st with
 | nil=>exact⟨h1,h2,h3,h4,⟨gb,h5⟩,h6⟩
 | cons p r =>
  obtain⟨b,e⟩:=p;simp only[kf,fb];by_cases he:e=(eA f b).length
  ·rw[if_pos he,if_pos he];by_cases ho:out=[]
   ·subst ho;simp only[o5,if_true,List.nil_append];refine⟨?_,?_,fun _=>⟨?_,by simp only;omega,by simp only;omega⟩,?_,⟨[aI b,aI e]++gb,?_⟩,h6⟩
    ·have:=bg (n:=O.length+1) (k:=1) (x:=.cells [.os O.length 1 1]) (fL (fun o ho=>ai.bK (by omega) (h1 o ho)) (x:=.cells [aI b]) ⟨trivial,trivial⟩) ⟨show _<_ by omega,trivial⟩;simpa using this
    ·simp only;rw[List.getElem?_set_self (by simp;omega)];rfl
    ·simp only;rw[List.getElem?_set_ne (by omega),List.getElem?_append_right (Nat.le_refl _)];simp
    ·simp only;rw[List.getElem?_set_ne (by omega),List.getElem?_append_left l2];exact h4
    simp only;rw[List.getElem?_set_ne (by omega),List.getElem?_append_left l5,h5];simp[lU]
   obtain⟨k1,k2,k3⟩:=h3 ho;have lo:=I k1;simp only[o5,if_neg ho];refine⟨?_,?_,fun _=>⟨?_,by simp only;omega,by simp only;omega⟩,?_,⟨[aI b,aI e]++gb,?_⟩,h6⟩
   ·have:=bg (n:=O.length+1) (k:=1) (x:=.cells [.os O.length (out.length+1) 1]) (fL (bg (k:=oid) (x:=.gone) (fun o ho=>ai.bK (by omega) (h1 o ho)) trivial) (x:=.cells ((out++[b]).map aI)) (ax _ _)) ⟨show _<_ by omega,trivial⟩;simpa using this
   ·simp only;rw[List.getElem?_set_self (by simp;omega)];simp[kq]
   ·simp only;rw[List.getElem?_set_ne (by omega),List.getElem?_append_right (by simp)];simp
   ·simp only;rw[List.getElem?_set_ne (by omega),List.getElem?_append_left (by simpa using l2),List.getElem?_set_ne (by omega)];exact h4
   simp only;rw[List.getElem?_set_ne (by omega),List.getElem?_append_left (by simpa using l5),List.getElem?_set_ne (by omega),h5];simp[lU]
  rw[if_neg he,if_neg he];have fw:(qG O sid).set (r.length*2+1) (aI (e+1))=lU ((b,e+1)::r)++gb:=by
   simp only[qG,h5,lU];rw[List.append_assoc,List.set_append_right _ _ (by rw[gT];omega),gT,show r.length*2+1-r.length*2=1 by omega];simp
  rw[fw];have MB:av O.length gb:=by
   rw[aQ];intro x hx;have:=h1 _ (List.mem_of_getElem? h5);exact aQ.1 this x (List.mem_append.2 (.inr hx))
  have tN:av O.length (lU ((b,e+1)::r)++gb):=by
   rw[aQ];intro x hx;rcases List.mem_append.1 hx with q|q
   ·exact aQ.1 (sr _ _) x q
   exact aQ.1 MB x q
  by_cases hs:seen[(dv f b e).toNat]?.getD false=true
  ·rw[if_pos hs,if_pos hs];refine⟨?_,?_,fun ho=>?_,?_,⟨gb,?_⟩,h6⟩
   ·have:=bg (n:=O.length) (k:=sid) (x:=.cells (lU ((b,e+1)::r)++gb)) h1 tN;simpa using this
   ·simp only;rw[List.getElem?_set_ne (by omega)];exact h2
   ·obtain⟨k1,k2,k3⟩:=h3 ho;refine⟨?_,k2,k3⟩;simp only;rw[List.getElem?_set_ne (fun q=>k2 q.symm)];exact k1
   ·simp only;rw[List.getElem?_set_ne (by omega)];exact h4
   simp only;rw[List.getElem?_set_self l5]
  rw[if_neg hs,if_neg hs]
  skip
  have jf:(lU ((b,e+1)::r)++gb).take ((r.length+1)*2)=lU ((b,e+1)::r):=by
   rw[List.take_append_of_le_length (by rw[gT];simp),List.take_of_length_le (by rw[gT];simp)]
  rw[jf];refine⟨?_,?_,fun ho=>?_,?_,⟨[],?_⟩,?_⟩
  ·have a1:=bg (n:=O.length) (k:=sid) (x:=.cells (lU ((b,e+1)::r)++gb)) h1 tN;have a2:=bg (k:=2) (x:=.cells ((seen.set (dv f b e).toNat true).map eB)) a1 (dS _ _);have a3:=bg (k:=sid) (x:=.gone) a2 trivial;have a4:=fL (n:=O.length+1) (x:=.cells (lU ((b,e+1)::r)++[aI (dv f b e),aI 0])) (fun o ho=>ai.bK (by omega) (a3 o ho)) (by
    show av _ _;have:=sr (O.length+1) ((dv f b e,0)::(b,e+1)::r);exact this)
   simpa using a4
  ·simp only;rw[List.getElem?_append_left (by simp;omega),List.getElem?_set_ne (by omega),List.getElem?_set_ne (by omega),List.getElem?_set_ne (by omega)];exact h2
  ·obtain⟨k1,k2,k3⟩:=h3 ho;have lo:=I k1;refine⟨?_,by simp;omega,k3⟩;simp only;rw[List.getElem?_append_left (by simpa using lo),List.getElem?_set_ne (fun q=>k2 q.symm),List.getElem?_set_ne (by omega),List.getElem?_set_ne (fun q=>k2 q.symm)];exact k1
  ·simp only;rw[List.getElem?_append_left (by simpa using l2),List.getElem?_set_ne (by omega),List.getElem?_set_self (by simpa using l2)]
  ·simp only[List.length_set];rw[List.getElem?_append_right (by simp)];simp[lU]
  simp;omega
def gY(f:Func):So:=⟨cQ f,3,0,[.gone,.cells [.aB 1 [] .ex],.cells ((cQ f).seen.map eB),.cells [aI 0,aI 0]]⟩
theorem m6(f:Func):SO (gY f) where
 up:=by
  intro o ho;simp only[gY,List.mem_cons,List.not_mem_nil,or_false]at ho;rcases ho with rfl|rfl|rfl|rfl
  ·trivial
  ·exact⟨⟨trivial,trivial⟩,trivial⟩
  ·exact dS _ _
  exact⟨trivial,trivial,trivial⟩
 out:=rfl
 outs:=fun h=>absurd rfl h
 seen:=rfl
 stk:=⟨[],rfl⟩
 sne:=by simp[gY]
theorem s6(f:Func)(hg:fv f) :
  bh Tryz.prog 75 [.gone,.cells [.aB 1 [] .ex]] [f.enc,.fn (.func 76) [] [.mp 1 0]] (fun r O'=>r=.cx []∧O'=(kU f 100000 (gY f)).O):=by
 have XN:=hg.few;have hl:0<f.blocks.length:=by
  cases hb:f.blocks with
  | nil=>exact absurd hb hg.ne
  | cons=>simp
 obtain⟨N,hN⟩:∃N,N=f.blocks.length:=⟨_,rfl⟩
 obtain⟨F,hF⟩:∃F,F=kU f 100000 (gY f):=⟨_,rfl⟩
 rw[<-hF];have ik:[ai.gone,ai.cells [ae.aB 1 [] .ex]].length<=F.O.length:=by
  have key:∀(n:Nat) (X:So),SO X->SO (kU f n X):=fun n=>by
   induction n with
   | zero=>exact fun X h=>h
   | succ n ih =>
    intro X h;simp only[kU];split
    ·exact h
    exact ih _ h.step
  have:=I (key 100000 _ (m6 f)).out;rw[<-hF]at this;simp only[List.length_cons,List.length_nil];omega
 refine fo hT true (F.O.length) Tryz.func75 rfl (by kernel_rfl) (by simp[Tryz.ntmps75]) (by assumption) ?_;show cn Tryz.prog _ _ _ ⟨81,_,_⟩;dsimp only[Tmp,TypeId,slotsOf];refine az (ah ?_);refine aC 2 2 (.ip none [aI f.name,aw f.blocks]) rfl (by simp[ai.aD]) trivial rfl ?_ ?_;rotate_left;simp -dsimp only[simprocAttr,↓aa,zp]
 ·refine cb 2 [(1,.fn (.func 76) [] [.mp 1 0]),(2,.ip none [aI f.name,aw f.blocks])] (by simp) (by omega) [.gone,.cells [.aB 1 [] .ex]] ?_ ?_ ?_ ?_ ?_
  ·rfl
  ·simp[ai.upto,av,ae.upto,ax,Block.ak]
  ·simp[iv,St.get,bt,bc,Go.Av.look,Sub.refl]
  ·simp[ai.upto,av,ae.upto,ax,Block.ak]
  refine aU ?_;simp -dsimp only[simprocAttr,↓aa,zp,nO,<-hN];refine⟨by omega,by omega,?_⟩;refine ah ?_;refine az ?_;have r9:bp ((List.replicate N false).map eB) 0 [.v (.bool true)]=(cQ f).seen.map eB:=by
   rw[fK _ (by simp;omega)];simp only[cQ,<-hN,List.map_set];rfl
  refine⟨by omega,by simp;omega,?_⟩;rw[r9];refine ah ?_;refine aG (mF ⟨false,false⟩ hT 1 rfl rfl rfl (by simp) ?_);simp -dsimp only[simprocAttr,↓aa,zp];refine u9 hT rfl rfl (by simp) rfl rfl rfl (by simp) rfl (by intro p hp;simp at hp;subst hp;trivial) rfl rfl (by intro x hx;simp at hx;subst hx;rfl) (by simp) (by simp) ?_;simp -dsimp only[simprocAttr,↓aa,zp];refine ah ?_;have TX:=m7 hg;refine ag (aM (ι:={X:So // SO X∧vX f X.S∧∃n,Ls X.S<n∧F=kU f n X}) (fun X=>⟨81,[(1,.fn (.func 76) [] [.mp 1 0]),(2,.ip none [aI f.name,aw f.blocks]),(4,.ms 2 0 N N),(5,.os X.1.sid X.1.S.st.length 2)],X.1.O⟩) (fun X=>Ls X.1.S) ⟨gY f,m6 f,TX.1,100000,TX.2,hF⟩ ?_ ?_)
  ·refine zq rfl ?_ ?_;simp -dsimp only[simprocAttr,↓aa,zp,zc]
   all_goals first|rfl|exact Sub.refl _
  rintro⟨X,hX,hS,n,hn,Yo⟩;have RN:=hX.step (f:=f);obtain⟨⟨seen,st,out⟩,sid,oid,O⟩:=X;obtain⟨h1,h2,h3,h4,⟨gb,h5⟩,h6⟩:=id hX;simp only at h1 h2 h3 h4 h5 h6 hn;cases st with
  | nil =>
   refine ck (ah ?_);refine cm rfl ?_;refine aF ?_;simp -dsimp only[bF,ne_eq,Nat.reduceEqDiff,reduceCtorEq];have Zb:F.O=O:=by
    rw[Yo];cases n with
    | zero=>rfl
    | succ n=>rfl
   skip
   simp -dsimp only[simprocAttr,↓aa,zp,zr,Tryz.results75];rw[Zb];exact⟨by simp,by rw[List.take_of_length_le (Nat.le_refl _)];exact h1,trivial,List.take_of_length_le (Nat.le_refl _)⟩
  | cons p r =>
   obtain⟨b,e⟩:=p;have bG:=pd hg hS (by simp);obtain⟨n,rfl⟩:∃n',n=n'+1:=⟨n-1,by omega⟩
   have Gs:F=kU f n (kf f ⟨⟨seen,(b,e)::r,out⟩,sid,oid,O⟩):=Yo;have hSs:=BN f ⟨⟨seen,(b,e)::r,out⟩,sid,oid,O⟩;have hp:=hS.blk (b,e) (by simp);simp only at hp;have aac:r.length<=128:=by
    have a1:=hS.few;have a2:seen.countP id<=seen.length:=List.countP_le_length;have a3:=hS.len;simp only[List.length_cons]at a1 a3;omega
   have A8:((r.length+1:Nat):Int)-1=(r.length:Nat):=by omega
   obtain⟨B,hB⟩:∃B,B=aY f b:=⟨_,rfl⟩
   have XF:=eK hp.1 hp.2.1;rw[<-hB]at XF;have xE:eA f b=B.term.to:=by rw[hB];rfl
   have B4:(lU ((b,e)::r)++gb)[r.length*2]?=some (aI b):=by
    rw[lU,List.append_assoc,List.getElem?_append_right (by rw[gT];omega),gT,Nat.sub_self];rfl
   have IZ:(lU ((b,e)::r)++gb)[r.length*2+1]?=some (aI e):=by
    rw[lU,List.append_assoc,List.getElem?_append_right (by rw[gT];omega),gT,show r.length*2+1-r.length*2=1 by omega];rfl
   obtain⟨cs,fw⟩:∃cs,cs=lU ((b,e)::r)++gb:=⟨_,rfl⟩
   rw[<-fw]at B4 IZ h5;refine ck (ah ?_);apply aP rfl<;>intro h
   ·refine ct ?_;refine ag ?_;refine aU ?_;simp -dsimp only[simprocAttr,↓aa,zp,A8]
    repeat(refine⟨by omega,?_⟩)
    refine ah ?_;refine aU ?_;simp -dsimp only[simprocAttr,↓aa,zp,h5,B4,XF]
    repeat(refine⟨by omega,?_⟩)
    refine⟨ob (by kernel_rfl),?_⟩;refine ah ?_;by_cases he:e=(eA f b).length
    ·have oW:decide (e=(B.term.to.length:Int))=true:=decide_eq_true (by rw[he,xE]);have tE:fb f ⟨seen,(b,e)::r,out⟩=⟨seen,r,out++[b]⟩:=by simp only[fb];rw[if_pos he]
     have Lp:kf f ⟨⟨seen,(b,e)::r,out⟩,sid,oid,O⟩=⟨⟨seen,r,out++[b]⟩,sid,O.length,o5 O oid out b⟩:=by simp only[kf];rw[if_pos he,tE]
     rw[Lp]at RN Gs;simp only[tE]at bG;have Wq:bh Tryz.prog 76 O [aI b,.mp 1 0] (fun r' O'=>r'=.cx []∧O'=o5 O oid out b):=by
      unfold o5;by_cases ho:out=[]
      ·rw[if_pos ho];exact GK h1 (by rw[h2,ho];rfl) b
      rw[if_neg ho];obtain⟨k1,k2,k3⟩:=h3 ho;have a1:=hS.few;have a2:seen.countP id<=seen.length:=List.countP_le_length;have a3:=hS.len;simp only at a1 a3;exact JD h1 (by rw[h2,kq,if_neg ho]) k1 (by omega) (by omega) b
     refine cK ?_;simp -dsimp only[simprocAttr,↓aa,zp,h5,IZ,oW];refine ah ?_;refine cY rfl ?_;refine aU ?_;simp -dsimp only[simprocAttr,↓aa,zp,h5,B4];refine .inr (.inl ⟨_,_,Wq,.inl (ao (zj ?_))⟩);refine ah ?_;refine aU ?_;simp -dsimp only[simprocAttr,↓aa,zp,A8]
     repeat(refine⟨by omega,?_⟩)
     refine ah ?_;refine aF ?_;simp -dsimp only[bF,ne_eq,Nat.reduceEqDiff,reduceCtorEq];refine⟨⟨_,RN,bG.1,n,?_,Gs⟩,?_,?_⟩
     ·have:=bG.2;simp only at this hn ⊢;omega
     ·exact bG.2
     refine zq rfl ?_ ?_;simp -dsimp only[simprocAttr,↓aa,zp,zc]
     all_goals rfl
    have oW:decide (e=(B.term.to.length:Int))=false:=decide_eq_false (by rw[<-xE];exact he);obtain⟨x,hx,Ca,z7,ET⟩:=hg.next ⟨hp.1,hp.2.1⟩ hp.2.2.1 (by omega)
    rw[xE]at hx;refine cK ?_;simp -dsimp only[simprocAttr,↓aa,zp,h5,IZ,oW];refine ah ?_;refine cm rfl ?_;refine ct ?_;refine aU ?_;simp -dsimp only[simprocAttr,↓aa,zp,h5,IZ,hx]
    repeat(refine⟨by omega,?_⟩)
    refine ah ?_;obtain⟨j,hj⟩:∃j:Nat,dv f b e=(j:Int):=⟨(dv f b e).toNat,by omega⟩
    have Tv:j<seen.length:=by
     have a3:=hS.len;simp only at a3;omega
    rw[hj]at Ca z7 ET;obtain⟨sv,Uf⟩:∃sv,seen[j]?=some sv:=⟨seen[j],List.getElem?_eq_getElem Tv⟩
    have Ug:(seen.map eB)[j]?=some (.v (.bool sv)):=by rw[List.getElem?_map,Uf];rfl
    have hZ:(r.length+1)*2<=cs.length:=by
     rw[fw,List.length_append,gT];simp
    obtain⟨Ow,Mq⟩:∃Ow,Ow=cs.set (r.length*2+1) (aI (e+1)):=⟨_,rfl⟩
    have r9:bp cs (r.length*2+1) [.v (.int .i64 (e+1))]=Ow:=by rw[fK _ (by omega),Mq]
    have ZI:(r.length+1)*2<=Ow.length:=by rw[Mq,List.length_set];exact hZ
    obtain⟨O1,dM⟩:∃O1,O1=O.set sid (.cells Ow):=⟨_,rfl⟩
    have g5:O1[sid]?=some (.cells Ow):=by rw[dM];exact ja h5
    have g4:O1[2]?=some (.cells (seen.map eB)):=by rw[dM];exact aW h4 (by omega)
    have Mn:qG O sid=cs:=by simp only[qG,h5]
    have YU:(eA f b).length<=257:=hg.to _ (dY hp.1 hp.2.1);refine aU ?_;simp -dsimp only[simprocAttr,↓aa,zp,h5,IZ]
    repeat(refine⟨by omega,?_⟩)
    refine ah ?_;rw[r9,<-dM];cases sv with
    | true =>
     have tE:fb f ⟨seen,(b,e)::r,out⟩=⟨seen,(b,e+1)::r,out⟩:=by simp only[fb];rw[if_neg he,hj,Int.toNat_natCast,Uf,if_pos (show(some true).getD false=true from rfl)]
     have Lp:kf f ⟨⟨seen,(b,e)::r,out⟩,sid,oid,O⟩=⟨⟨seen,(b,e+1)::r,out⟩,sid,oid,O1⟩:=by simp only[kf];rw[if_neg he,tE,Mn,hj,Int.toNat_natCast,Uf,if_pos (show(some true).getD false=true from rfl),<-Mq,dM]
     rw[Lp]at RN Gs;simp only[tE]at bG;refine aU ?_;simp -dsimp only[simprocAttr,↓aa,zp,g4,Ca,Int.toNat_natCast,Ug,Nat.mul_one]
     repeat(refine⟨by omega,?_⟩)
     refine ah ?_;refine cm rfl ?_;refine Xs ?_;refine⟨⟨_,RN,bG.1,n,?_,Gs⟩,?_,?_⟩
     ·have:=bG.2;simp only at this hn ⊢;omega
     ·exact bG.2
     refine zq rfl ?_ ?_;simp -dsimp only[simprocAttr,↓aa,zp,zc]
     all_goals rfl
    | false =>
     have tE:fb f ⟨seen,(b,e)::r,out⟩=⟨seen.set j true,((j:Int),0)::(b,e+1)::r,out⟩:=by simp only[fb];rw[if_neg he,hj,Int.toNat_natCast,Uf,if_neg (by simp)]
     obtain⟨O2,tM⟩:∃O2,O2=O1.set 2 (.cells ((seen.set j true).map eB)):=⟨_,rfl⟩
     have k5:O2[sid]?=some (.cells Ow):=by rw[tM];exact aW g5 (by omega)
     have Lp:kf f ⟨⟨seen,(b,e)::r,out⟩,sid,oid,O⟩=⟨⟨seen.set j true,((j:Int),0)::(b,e+1)::r,out⟩,O2.length,oid,O2.set sid .gone++[ai.cells (Ow.take ((r.length+1)*2)++[aI j,aI 0])]⟩:=by
      simp only[kf];rw[if_neg he,tE,Mn,hj,Int.toNat_natCast,Uf,if_neg (by simp),<-Mq,<-dM,<-tM]
     rw[Lp]at RN Gs;simp only[tE]at bG;have Uc:bp (seen.map eB) j [.v (.bool true)]=(seen.set j true).map eB:=by
      rw[fK _ (by simpa using Tv),List.map_set];rfl
     refine aU ?_;simp -dsimp only[simprocAttr,↓aa,zp,g4,Ca,Int.toNat_natCast,Ug,Nat.mul_one]
     repeat(refine⟨by omega,?_⟩)
     refine ah ?_;refine cY rfl ?_;refine aU ?_;simp -dsimp only[simprocAttr,↓aa,zp,g4,Ca,Int.toNat_natCast,Nat.mul_one]
     repeat(refine⟨by omega,?_⟩)
     refine ah ?_;rw[Uc,<-tM];refine jD ?_;simp -dsimp only[simprocAttr,↓aa,zp,k5,Ca]
     repeat(refine⟨by omega,?_⟩)
     refine RA ?_;refine⟨⟨_,RN,bG.1,n,?_,Gs⟩,?_,?_⟩
     ·have:=bG.2;simp only at this hn ⊢;omega
     ·exact bG.2
     refine zq rfl ?_ ?_;simp -dsimp only[simprocAttr,↓aa,zp,zc]
     all_goals rfl
   exact af h (by omega)
 exact bY.mp rfl rfl
def Aa(l:List Int)(i:Nat)(m:List Int):Prop:=m.length=l.length∧∀k,k<l.length->m[k]?=if k<i∨l.length<=k+i then l[l.length-1-k]? else l[k]?
theorem D4(l:List Int):Aa l 0 l:=⟨rfl,fun k hk=>by rw[if_neg (by omega)]⟩
theorem D3{l m:List Int}{i:Nat}(h:Aa l i m)(hi:2*i+1<l.length){a b:Int}(ha:m[i]?=some a)(hb:m[l.length-1-i]?=some b):Aa l (i+1) ((m.set i b).set (l.length-1-i) a):=by
 obtain⟨h1,h2⟩:=h;refine⟨by simpa using h1,fun k hk=>?_⟩;have e1:=h2 i (by omega);have e2:=h2 (l.length-1-i) (by omega);rw[if_neg (by omega)]at e1 e2;rw[List.getElem?_set,List.getElem?_set];simp only[List.length_set];by_cases q1:l.length-1-i=k
 ·rw[if_pos q1,if_pos (by omega),if_pos (by omega),<-ha,e1];congr 1;omega
 rw[if_neg q1];by_cases q2:i=k
 ·rw[if_pos q2,if_pos (by omega),if_pos (by omega),<-hb,e2,q2]
 rw[if_neg q2,h2 k hk];by_cases q3:k<i∨l.length<=k+i
 ·rw[if_pos q3,if_pos (by omega)]
 rw[if_neg q3,if_neg (by omega)]
theorem D2{l m:List Int}{i:Nat}(h:Aa l i m)(hi:l.length<=2*i+1):m=l.reverse:=by
 obtain⟨h1,h2⟩:=h;apply List.ext_getElem?;intro k;by_cases hk:k<l.length
 ·rw[h2 k hk,List.getElem?_reverse hk];split
  ·rfl
  congr 1;omega
 rw[List.getElem?_eq_none (by omega),List.getElem?_eq_none (by simp;omega)]
theorem rB{O:List ai}(br:∀o∈O,o.upto O.length){oid:Nat}{l:List Int}(ho:O[oid]?=some (.cells (l.map aI)))(yS:l.length<=1000) :
  bh Tryz.prog 77 O [.os oid l.length 1] (fun r O'=>r=.cx []∧O'=O.set oid (.cells (l.reverse.map aI))):=by
 have Gu:=I ho;have eE:O.set oid (.cells (l.map aI))=O:=jW ho;have B5:∀x,(O.set oid x)[oid]?=some x:=fun x=>List.getElem?_set_self Gu;have jf:∀m:List Int,(O.set oid (.cells (m.map aI))).take O.length=O.set oid (.cells (m.map aI)):=fun m=>b6;have fg:∀m:List Int,∀o∈O.set oid (.cells (m.map aI)),o.upto O.length:=fun m=>bg br (ax _ _);refine zf true O.length Tryz.func77 Tryz.ntmps77 ?_;dsimp only[Tmp,TypeId,slotsOf];refine az ?_
 repeat(refine⟨by omega,?_⟩)
 refine ah ?_;refine ag (aM (ι:={x:Nat×List Int // x.1<=l.length∧Aa l x.1 x.2}) (fun x=>⟨28,[(0,.os oid l.length 1),(2,aI x.1.1),(3,aI ((l.length:Int)-1-x.1.1))],O.set oid (.cells (x.1.2.map aI))⟩) (fun x=>l.length-x.1.1) ⟨(0,l),by simp,D4 l⟩ ?_ ?_)
 ·refine zq rfl ?_ ?_;simp -dsimp only[simprocAttr,↓aa,zp,zc];exact eE.symm
 rintro⟨⟨i,m⟩,hi,hr⟩;simp only at hi hr;have Jh:=hr.1;refine ck (ah ?_);apply aP rfl<;>intro h
 ·refine ct ?_;have a8:2*i+1<l.length:=by
   have:=of_decide_eq_true h;omega
  obtain⟨j,hj⟩:∃j,j=l.length-1-i:=⟨_,rfl⟩
  have U0:(l.length:Int)-1-i=(j:Nat):=by omega
  obtain⟨a,ha⟩:∃a,m[i]?=some a:=⟨m[i]'(by omega),List.getElem?_eq_getElem _⟩
  obtain⟨b,hb⟩:∃b,m[j]?=some b:=⟨m[j]'(by omega),List.getElem?_eq_getElem _⟩
  have OZ:=D3 hr a8 ha (by rw[<-hj];exact hb);rw[<-hj]at OZ;have TK:(m.map aI)[i]?=some (aI a):=by rw[List.getElem?_map,ha];rfl
  have Z':(m.map aI)[j]?=some (aI b):=by rw[List.getElem?_map,hb];rfl
  have Dn:bp (m.map aI) i [.v (.int .i64 b)]=(m.set i b).map aI:=by
   rw[fK _ (by simp;omega),List.map_set]
  have WO:bp ((m.set i b).map aI) j [.v (.int .i64 a)]=((m.set i b).set j a).map aI:=by
   rw[fK _ (by simp;omega)];simp only[List.map_set]
  refine aG (ag ?_);refine jD ?_;simp -dsimp only[simprocAttr,↓aa,zp,B5,U0,TK,Z',Int.toNat_natCast,Nat.mul_one,Dn,WO,List.set_set,List.length_set];refine⟨by omega,by omega,by omega,by omega,by omega,by omega,?_⟩;refine⟨bP [oid] O.length [.pure,.pure,.pure,.pure,.pure,.pure,.pure,.rd 0,.pure,.pure,.pure,.rd 0,.pure,.wr 1 [0],.pure,.wr 1 [0]] (by simp) (by simp;omega) rfl rfl (by kernel_rfl),aV ?_⟩;simp -dsimp only[bF,ne_eq,Nat.reduceEqDiff,reduceCtorEq];refine cC ?_
  repeat(refine⟨by omega,?_⟩)
  refine eX ?_;refine⟨⟨(i+1,_),by simp only;omega,OZ⟩,by simp;omega,?_⟩;refine zq rfl ?_ ?_;simp -dsimp only[simprocAttr,↓aa,zp,zc]
  ·exact⟨Sub.int (by simp),Sub.int (by omega)⟩
  rfl
 refine aF ?_;simp -dsimp only[bF,ne_eq,Nat.reduceEqDiff,reduceCtorEq];have pY:l.length<=2*i+1:=by
  have:=of_decide_eq_false h;omega
 rw[D2 hr pY]
 skip
 simp -dsimp only[simprocAttr,↓aa,zp,zr,Tryz.results77,jf,List.length_set];exact⟨fg _,trivial⟩
def bx(f:Func):List Int:=(gX f).reverse
def y8(f:Func):ae:=if aN f=0 then .cx [a7 (bx f),aI 0]else .cx [a7 [],aI (aN f)]
theorem Km{f:Func}:∀(n:Nat) (S:Sr),(S.st=[]->S.out≠[])->(iS f n S).st=[]->(iS f n S).out≠[]
 | 0,S,h,he=>h he
 | n+1,S,h,he=>by
  simp only[iS]at he ⊢;cases dG:S.st with
  | nil =>
   rw[dG]at he;simp only[List.isEmpty_nil,if_true]at he ⊢;exact h dG
  | cons p r =>
   rw[dG]at he;simp only[List.isEmpty_cons,Bool.false_eq_true,if_false]at he ⊢;refine Km n _ (fun q=>?_) he;obtain⟨b,e⟩:=p;simp only[fb,dG]at q ⊢;split
   ·simp
   rename_i bD;rw[if_neg bD]at q;split at q<;>simp at q
theorem vG{f:Func}:∀(n:Nat) (X:So),SO X->SO (kU f n X)
 | 0,X,h=>h
 | n+1,X,h=>by
  simp only[kU];split
  ·exact h
  exact vG n _ h.step
theorem ou{f:Func}(hg:fv f):gX f≠[]∧(gX f).length<=128∧∀b∈gX f,0<=b∧b<f.blocks.length:=by
 have h0:=m7 hg;have h1:=rF hg 100000 _ h0.1 h0.2;have h2:=Km 100000 (cQ f) (fun q=>by simp[cQ]at q) h1.2;have a1:=h1.1.few;have a2:(iS f 100000 (cQ f)).seen.countP id<=(iS f 100000 (cQ f)).seen.length:=List.countP_le_length;have a3:=h1.1.len;have a4:=hg.few;exact⟨h2,by unfold gX;omega,h1.1.outs⟩
theorem jF(l:List Int):(l.map aI).map ae.bf=al (l.map aI):=by
 induction l with
 | nil=>rfl
 | cons a r ih =>
  simp only[List.map_cons,al,List.flatMap_cons]at ih ⊢;rw[ih];rfl
theorem vi(f:Func)(bJ:f.fit):bq Tryz.prog 52 [f.enc] (y8 f):=by
 have zW:=iC f bJ;unfold y8;by_cases hc:aN f=0
 ·rw[if_pos hc];rw[hc]at zW;have hg:=(cA bJ hc).gr;have tE:=s6 f hg;obtain⟨f1,f2,_⟩:=ou hg;have SP:(kU f 100000 (gY f)).S=iS f 100000 (cQ f):=zE f 100000 (gY f);have hX:=vG (f:=f) 100000 _ (m6 f);obtain⟨X,VJ⟩:∃X,X=kU f 100000 (gY f):=⟨_,rfl⟩
  rw[<-VJ]at tE hX SP;have jO:X.S.out=gX f:=by rw[SP];rfl
  unfold bx;obtain⟨l,hl⟩:∃l,l=gX f:=⟨_,rfl⟩
  rw[<-hl]at f1 f2 jO ⊢;have h1:=hX.out;rw[jO,kq,if_neg f1]at h1;obtain⟨h2,h3,h4⟩:=hX.outs (by rw[jO];exact f1);rw[jO]at h2;have br:=hX.up;obtain⟨S,sid,oid,O⟩:=X;simp only at h1 h2 h3 h4 br tE;have QC:=rB br h2 (by omega);have C8:(O.set oid (.cells (l.reverse.map aI)))[1]?=some (.cells [.os oid l.length 1]):=aW h1 (by omega);have IU:(O.set oid (.cells (l.reverse.map aI)))[oid]?=some (.cells (l.reverse.map aI)):=ja h2;refine zf true 0 Tryz.func52 Tryz.ntmps52 ?_;dsimp only[Tmp,TypeId,slotsOf];refine az (ah ?_);refine aC 1 0 (.ip none [aI f.name,aw f.blocks]) rfl (by simp[ai.aD]) trivial rfl ?_ ?_;rotate_left;simp -dsimp only[simprocAttr,↓aa,zp]
  ·refine ck ?_;refine zi zW ?_;refine ah ?_;refine az (ah ?_);refine cm rfl ?_;refine ct ?_;refine az (ah ?_);refine az ?_;refine .inr (.inl ⟨_,_,tE,.inl (ao (zj ?_))⟩);refine ah ?_;refine aU ?_;simp -dsimp only[simprocAttr,↓aa,zp,h1];refine .inr (.inl ⟨_,_,QC,.inl (ao (zj ?_))⟩);refine ah ?_;refine aU ?_;simp -dsimp only[simprocAttr,↓aa,zp,C8];refine ah ?_;refine aC 2 oid (o:=.cells (l.reverse.map aI)) (a7 l.reverse) IU (by simp[ai.aD]) trivial rfl (bY.os (cs:=l.reverse.map aI) IU ?_ ?_ ?_) ?_
   ·intro x hx;obtain⟨c,_,rfl⟩:=List.mem_map.1 hx;rfl
   ·simp
   ·rw[List.drop_zero,List.take_of_length_le (by simp)];exact jF _
   simp -dsimp only[simprocAttr,↓aa,zp];refine aq ?_;simp -dsimp only[simprocAttr,↓aa,zp,zr,Tryz.results52];exact⟨⟨ax _ _,trivial⟩,trivial,trivial⟩
  exact bY.mp rfl rfl
 rw[if_neg hc];obtain⟨e,he⟩:∃e,e=aN f:=⟨_,rfl⟩
 rw[<-he]at hc zW ⊢;have oW:decide (e=0)=false:=decide_eq_false hc;refine zf true 0 Tryz.func52 Tryz.ntmps52 ?_;dsimp only[Tmp,TypeId,slotsOf];refine az (ah ?_);refine aC 1 0 (.ip none [aI f.name,aw f.blocks]) rfl (by simp[ai.aD]) trivial rfl ?_ ?_;rotate_left;simp -dsimp only[simprocAttr,↓aa,zp]
 ·refine ck ?_;refine zi zW ?_;refine ah ?_;refine aU ?_;simp -dsimp only[simprocAttr,↓aa,zp,oW];refine ah ?_;refine cY rfl ?_;refine az (ah ?_);refine aq ?_;simp -dsimp only[simprocAttr,↓aa,zp,zr,Tryz.results52];simp[av,ae.upto]
 exact bY.mp rfl rfl

def qz(f:Func)(a b:Int):Prop:=∃x∈eA f a,x.block=b
def Ot(f:Func):List (Int×Int)->Prop
 | []=>True
 | [p]=>p.1=0
 | p::q::r=>qz f q.1 p.1∧p.1≠0∧Ot f (q::r)
theorem Ot.tail{f:Func}{p:Int×Int}{r:List (Int×Int)}(h:Ot f (p::r)):Ot f r:=by
 cases r with
 | nil=>trivial
 | cons q r=>exact h.2.2
theorem Ot.head{f:Func}{b e e':Int}{r:List (Int×Int)}(h:Ot f ((b,e)::r)):Ot f ((b,e')::r):=by
 cases r with
 | nil=>exact h
 | cons q r=>exact h
structure Jn(f:Func)(S:Sr):Prop where
 st:Ot f S.st
 out:∀i v,S.out[i]?=some v->(v≠0∧∃a,qz f a v∧((∃j,i<j∧S.out[j]?=some a)∨∃e,(a,e)∈S.st))∨(v=0∧S.st=[]∧i+1=S.out.length)
theorem Jn.step{f:Func}(hg:fv f){S:Sr}(hS:vX f S)(h:Jn f S):Jn f (fb f S):=by
 obtain⟨seen,st,out⟩:=S;obtain⟨h1,h2⟩:=h;simp only at h1 h2;cases st with
 | nil=>exact⟨h1,h2⟩
 | cons p r =>
  obtain⟨b,e⟩:=p;have hp:=hS.blk (b,e) (by simp);simp only at hp;have hold:∀i v,out[i]?=some v->v≠0∧∃a,qz f a v∧((∃j,i<j∧out[j]?=some a)∨∃e',(a,e')∈(b,e)::r):=fun i v hi=>by
   rcases h2 i v hi with q|⟨_,q,_⟩
   ·exact q
   cases q
  simp only[fb];split
  ·refine⟨h1.tail,fun i v hi=>?_⟩;simp only at hi ⊢;by_cases a8:i<out.length
   ·rw[List.getElem?_append_left a8]at hi;obtain⟨q0,a,q1,q2⟩:=hold i v hi;refine .inl ⟨q0,a,q1,?_⟩;rcases q2 with⟨j,q2,q3⟩|⟨e',q2⟩
    ·exact .inl ⟨j,q2,by rw[List.getElem?_append_left (I q3)];exact q3⟩
    rcases List.mem_cons.1 q2 with q|q
    ·simp only[Prod.mk.injEq]at q;exact .inl ⟨out.length,a8,by rw[q.1];simp⟩
    exact .inr ⟨e',q⟩
   have ia:=I hi;simp only[List.length_append,List.length_cons,List.length_nil]at ia;have:i=out.length:=by omega
   subst this;simp at hi;subst hi;cases r with
   | nil=>exact .inr ⟨h1,rfl,by simp⟩
   | cons q r=>exact .inl ⟨h1.2.1,q.1,h1.1,.inr ⟨q.2,by simp⟩⟩
  rename_i he;obtain⟨x,hx,Ca,z7,ET⟩:=hg.next ⟨hp.1,hp.2.1⟩ hp.2.2.1 (by omega)
  split
  ·refine⟨h1.head,fun i v hi=>.inl ?_⟩;obtain⟨q0,a,q1,q2⟩:=hold i v hi;refine⟨q0,a,q1,?_⟩;rcases q2 with q2|⟨e',q2⟩
   ·exact .inl q2
   rcases List.mem_cons.1 q2 with q|q
   ·simp only[Prod.mk.injEq]at q;exact .inr ⟨e+1,by simp[q.1]⟩
   exact .inr ⟨e',by simp[q]⟩
  refine⟨⟨⟨x,List.mem_of_getElem? hx,Ca⟩,by simp only;omega,h1.head⟩,fun i v hi=>.inl ?_⟩;obtain⟨q0,a,q1,q2⟩:=hold i v hi;refine⟨q0,a,q1,?_⟩;rcases q2 with q2|⟨e',q2⟩
  ·exact .inl q2
  rcases List.mem_cons.1 q2 with q|q
  ·simp only[Prod.mk.injEq]at q;exact .inr ⟨e+1,by simp[q.1]⟩
  exact .inr ⟨e',by simp[q]⟩
theorem Jn.run{f:Func}(hg:fv f):∀(n:Nat) (S:Sr),vX f S->Jn f S->Jn f (iS f n S)
 | 0,S,_,h=>h
 | n+1,S,hS,h=>by
  simp only[iS];cases dG:S.st with
  | nil=>simpa[dG]using h
  | cons p r =>
   simp only[List.isEmpty_cons,Bool.false_eq_true,if_false];exact Jn.run hg n _ (pd hg hS (by rw[dG];simp)).1 (h.step hg hS)
theorem Jn.start(f:Func):Jn f (cQ f):=⟨rfl,fun i v h=>by simp[cQ]at h⟩
theorem xQ{f:Func}(hg:fv f){n:Nat}{v:Int}(h:(bx f)[n]?=some v):(n=0∧v=0)∨∃a,qz f a v∧a∈(bx f).take n:=by
 have h0:=m7 hg;have h1:=rF hg 100000 _ h0.1 h0.2;have hJ:=Jn.run hg 100000 _ h0.1 (Jn.start f);have hn:=I h;unfold bx gX at *;generalize iS f 100000 (cQ f)=S at *;have hl:n<S.out.length:=by simpa using hn
 rw[List.getElem?_reverse hl]at h;rcases hJ.out _ _ h with⟨_,a,q1,q2⟩|⟨q1,_,q3⟩
 ·rcases q2 with⟨j,q3,q4⟩|⟨e,q3⟩
  ·refine .inr ⟨a,q1,?_⟩;have hj:=I q4;have:(S.out.reverse)[S.out.length-1-j]?=some a:=by
    rw[List.getElem?_reverse (by omega),<-q4];congr 1;omega
   exact List.mem_of_getElem? (i:=S.out.length-1-j) (by rw[List.getElem?_take,if_pos (by omega)];exact this)
  rw[h1.2]at q3;cases q3
 exact .inl ⟨by omega,q1⟩
theorem DW{k:Nat}{ls:List (List Int)}{e:Edge}{j:Nat}{a:Int}(h:a∈ls[j]?.getD []):a∈(jT k ls e)[j]?.getD []:=by
 unfold jT;by_cases q:e.block.toNat=j
 ·subst q;by_cases hl:e.block.toNat<ls.length
  ·rw[List.getElem?_set_self hl];simp[h]
  rw[List.getElem?_eq_none (by omega)]at h;simp at h
 rw[List.getElem?_set_ne q];exact h
theorem qh{k:Nat}{j:Nat}{a:Int}:∀{es:List Edge} {ls:List (List Int)},a∈ls[j]?.getD []->a∈(iZ k ls es)[j]?.getD []
 | [],_,h=>h
 | e::r,ls,h=>qh (es:=r) (DW h)
theorem vt{j:Nat}{a:Int}:∀{bs:List Block} {k:Nat} {ls:List (List Int)},a∈ls[j]?.getD []->a∈(lA k ls bs)[j]?.getD []
 | [],_,_,h=>h
 | b::r,k,ls,h=>vt (bs:=r) (qh h)
theorem xW{k:Nat}:∀{es:List Edge} {ls:List (List Int)} {x:Edge},x∈es->x.block.toNat<ls.length->(k:Int)∈(iZ k ls es)[x.block.toNat]?.getD []
 | [],_,_,h,_=>by cases h
 | e::r,ls,x,h,hl=>by
  show(k:Int)∈(iZ k (jT k ls e) r)[x.block.toNat]?.getD [];rcases List.mem_cons.1 h with q|q
  ·subst q;apply qh;unfold jT;rw[List.getElem?_set_self hl];simp
  exact xW q (by rw[xX];exact hl)
theorem x6:∀{bs:List Block} {k i:Nat} {ls:List (List Int)} {b:Block} {x:Edge},bs[i]?=some b->x∈b.term.to->x.block.toNat<ls.length->((k+i:Nat):Int)∈(lA k ls bs)[x.block.toNat]?.getD []
 | [],_,_,_,_,_,h,_,_=>by simp at h
 | c::r,k,i,ls,b,x,h,hx,hl=>by
  cases i with
  | zero =>
   simp only[List.getElem?_cons_zero,Option.some.injEq]at h;subst h;exact vt (bs:=r) (xW hx hl)
  | succ i =>
   have:=x6 (bs:=r) (k:=k+1) (i:=i) (ls:=iZ k ls c.term.to) (by simpa using h) hx (by rw[sn];exact hl);rw[show k+(i+1)=k+1+i by omega];exact this
theorem rZ{f:Func}{a v:Int}(ha:0<=a∧a<f.blocks.length)(hv:0<=v∧v<f.blocks.length)(h:qz f a v):a∈(eI f)[v.toNat]?.getD []:=by
 obtain⟨x,hx,YF⟩:=h;have hb:=eK ha.1 ha.2;have:=x6 (bs:=f.blocks) (k:=0) (ls:=List.replicate f.blocks.length []) hb hx (by rw[YF,List.length_replicate];omega);rw[YF,Nat.zero_add,Int.toNat_of_nonneg ha.1]at this;exact this
structure Nd(f:Func)(S:Sr):Prop where
 nd:(S.out++S.st.map (·.1)).Nodup
 seen:∀v,v∈S.out++S.st.map (·.1)↔(0<=v∧S.seen[v.toNat]?.getD false=true)
 outs:∀v∈S.out,∀x∈eA f v,S.seen[x.block.toNat]?.getD false=true
 st:∀p∈S.st,∀(j:Nat) x,(j:Int)<p.2->(eA f p.1)[j]?=some x->S.seen[x.block.toNat]?.getD false=true
theorem lM{l:List Bool}{k j:Nat}(h:l[j]?.getD false=true):(l.set k true)[j]?.getD false=true:=by
 have hj:j<l.length:=by
  refine Classical.byContradiction fun q=>?_;rw[List.getElem?_eq_none (by omega)]at h;cases h
 by_cases e:k=j
 ·subst e;rw[List.getElem?_set_self hj];rfl
 rw[List.getElem?_set_ne e];exact h
theorem Nd.step{f:Func}(hg:fv f){S:Sr}(hS:vX f S)(h:Nd f S):Nd f (fb f S):=by
 obtain⟨seen,st,out⟩:=S;obtain⟨h1,h2,h3,h4⟩:=h;simp only at h1 h2 h3 h4;cases st with
 | nil=>exact⟨h1,h2,h3,h4⟩
 | cons p r =>
  obtain⟨b,e⟩:=p;have hp:=hS.blk (b,e) (by simp);simp only at hp;have hlen:=hS.len;simp only at hlen;simp only[fb];split
  ·rename_i he;refine⟨?_,fun v=>?_,fun v hv x hx=>?_,fun q hq=>h4 q (by simp[hq])⟩
   ·simp only[List.append_assoc,List.cons_append,List.nil_append];simpa using h1
   ·rw[<-h2 v];simp only[List.append_assoc,List.cons_append,List.nil_append,List.map_cons]
   simp only at hv ⊢;rcases List.mem_append.1 hv with q|q
   ·exact h3 v q x hx
   rw[List.mem_singleton.1 q]at hx;obtain⟨j,hj⟩:=List.getElem?_of_mem hx;have:=I hj;exact h4 (b,e) (by simp) j x (by simp only;omega) hj
  rename_i he;obtain⟨x,hx,Ca,z7,ET⟩:=hg.next ⟨hp.1,hp.2.1⟩ hp.2.2.1 (by omega)
  split
  ·rename_i hs;refine⟨by simpa using h1,fun v=>by simpa using h2 v,h3,fun q hq j y hj hy=>?_⟩;simp only at hq ⊢;rcases List.mem_cons.1 hq with q'|q'
   ·subst q';simp only at hj hy;by_cases jw:(j:Int)<e
    ·exact h4 (b,e) (by simp) j y jw hy
    have:j=e.toNat:=by omega
    subst this;rw[hx]at hy;simp only[Option.some.injEq]at hy;subst hy;rw[Ca];exact hs
   exact h4 q (by simp[q']) j y hj hy
  rename_i hs;have TS:dv f b e ∉ out++(b::r.map (·.1)):=fun hm=>by
   have:=(h2 (dv f b e)).1 (by simpa using hm);exact hs this.2
  have hk:(dv f b e).toNat<seen.length:=by omega
  refine⟨?_,fun v=>?_,fun v hv y hy=>lM (h3 v hv y hy),fun q hq j y hj hy=>?_⟩
  ·simp only[List.map_cons]at h1 ⊢;rw[List.nodup_append]at h1 ⊢;simp only[List.mem_append,not_or]at TS;refine⟨h1.1,List.nodup_cons.2 ⟨TS.2,h1.2.1⟩,fun a ha c hc=>?_⟩;rcases List.mem_cons.1 hc with q|q
   ·subst q;exact fun e=>TS.1 (e ▸ ha)
   exact h1.2.2 a ha c q
  ·simp only[List.map_cons];have IU:=h2 v;simp only[List.map_cons]at IU;by_cases e1:v=dv f b e
   ·subst e1;rw[List.getElem?_set_self hk];simp;omega
   have:v∈out++dv f b e::b::r.map (·.1)↔v∈out++(b::r.map (·.1)):=by
    simp only[List.mem_append,List.mem_cons,e1,false_or]
   rw[this,IU];by_cases h0:0<=v
   ·rw[List.getElem?_set_ne (by omega)]
   simp[h0]
  simp only at hq ⊢;rcases List.mem_cons.1 hq with q'|q'
  ·subst q';simp only at hj;omega
  rcases List.mem_cons.1 q' with q'|q'
  ·subst q';simp only at hj hy;by_cases jw:(j:Int)<e
   ·exact lM (h4 (b,e) (by simp) j y jw hy)
   have:j=e.toNat:=by omega
   subst this;rw[hx]at hy;simp only[Option.some.injEq]at hy;subst hy;rw[Ca,List.getElem?_set_self hk];rfl
  exact lM (h4 q (by simp[q']) j y hj hy)
theorem Nd.run{f:Func}(hg:fv f):∀(n:Nat) (S:Sr),vX f S->Nd f S->Nd f (iS f n S)
 | 0,S,_,h=>h
 | n+1,S,hS,h=>by
  simp only[iS];cases dG:S.st with
  | nil=>simpa[dG]using h
  | cons p r =>
   simp only[List.isEmpty_cons,Bool.false_eq_true,if_false];exact Nd.run hg n _ (pd hg hS (by rw[dG];simp)).1 (h.step hg hS)
theorem Nd.start{f:Func}(hg:fv f):Nd f (cQ f):=by
 have hl:=List.length_pos_iff.2 hg.ne;refine⟨by simp[cQ],fun v=>?_,fun v hv=>by simp[cQ]at hv,fun p hp j x hj=>?_⟩
 ·simp only[cQ,List.nil_append,List.map_cons,List.map_nil,List.mem_singleton];constructor
  ·intro e;subst e;refine⟨by omega,?_⟩;rw[Int.toNat_zero,List.getElem?_set_self (by simpa using hl)];rfl
  rintro⟨h0,h⟩;refine Classical.byContradiction fun q=>?_;rw[List.getElem?_set_ne (by omega),List.getElem?_replicate]at h;split at h<;>simp at h
 simp only[cQ,List.mem_singleton]at hp;subst hp;simp only at hj;omega
theorem kN{l:List Int}{n:Int}:(0<=nX l n↔n∈l)∧(0<=nX l n->l[(nX l n).toNat]?=some n):=by
 unfold nX;have hm:l.findIdx (· == n)<l.length↔n∈l:=by
  rw[List.findIdx_lt_length];simp
 by_cases h:l.findIdx (· == n)<l.length
 ·rw[if_pos h];refine⟨⟨fun _=>hm.1 h,fun _=>by omega⟩,fun _=>?_⟩;have:=List.findIdx_getElem (w:=h);simp only[beq_iff_eq]at this;rw[Int.toNat_natCast,List.getElem?_eq_getElem h,this]
 rw[if_neg h];exact⟨⟨fun q=>absurd q (by omega),fun q=>absurd (hm.2 q) h⟩,fun q=>absurd q (by omega)⟩
def cP(f:Func)(k:Int):Int:=nX (bx f) k
structure gg(f:Func):Prop where
 inj:∀a b,0<=cP f a->cP f a=cP f b->a=b
 zero:cP f 0=0
 at_:∀(i:Nat) v,(bx f)[i]?=some v->cP f v=i
 get:∀v,0<=cP f v->(bx f)[(cP f v).toNat]?=some v
 low:∀v,-1<=cP f v∧cP f v<(bx f).length
 fwd:∀v,1<=cP f v->∃a,qz f a v∧0<=cP f a∧cP f a<cP f v
 next:∀a b,0<=cP f a->qz f a b->0<=cP f b
 range:∀v,0<=cP f v->0<=v∧v<f.blocks.length
 few:(bx f).length<=128
 pos:0<(bx f).length
theorem cE{f:Func}(hg:fv f):gg f:=by
 obtain⟨g1,g2,g3⟩:=ou hg;have h0:=m7 hg;have h1:=rF hg 100000 _ h0.1 h0.2;have hN:=Nd.run hg 100000 _ h0.1 (Nd.start hg);have vV:(bx f).Nodup:=by
  have:=hN.nd;rw[h1.2]at this;simp only[List.map_nil,List.append_nil]at this;unfold bx List.Nodup;rw[List.pairwise_reverse];exact List.Pairwise.imp (fun h=>Ne.symm h) this
 have iw:∀v,v∈bx f↔v∈gX f:=fun v=>by simp[bx]
 have bD:0<(bx f).length:=by
  have:bx f≠[]:=by simpa[bx]using g1
  exact List.length_pos_iff.2 this
 have e9:∀v,0<=cP f v->(bx f)[(cP f v).toNat]?=some v:=fun v hv=>kN.2 hv;have qq:∀(i:Nat) v,(bx f)[i]?=some v->cP f v=i:=fun i v hi=>by
  have hm:v∈bx f:=List.mem_of_getElem? hi;have h2:=e9 v (kN.1.2 hm);have h3:0<=cP f v:=kN.1.2 hm;have:=(List.getElem?_inj (I h2) vV).1 (h2.trans hi.symm);omega
 have MC:∀v,-1<=cP f v∧cP f v<(bx f).length:=fun v=>by
  unfold cP nX;split
  ·omega
  omega
 refine⟨fun a b ha e=>?_,?_,qq,e9,MC,fun v hv=>?_,fun a b ha e=>?_,fun v hv=>?_,by simpa[bx]using g2,bD⟩
 ·have h2:=e9 a ha;have h3:=e9 b (by omega);rw[e,h3]at h2;simpa using h2.symm
 ·have:(bx f)[0]?=some (bx f)[0]:=List.getElem?_eq_getElem bD;rcases xQ hg this with⟨_,q⟩|⟨a,_,q⟩
  ·have:=qq 0 _ this;rw[q]at this;simpa using this
  simp at q
 ·have h2:=e9 v (by omega);rcases xQ hg h2 with⟨q,_⟩|⟨a,q1,q2⟩
  ·omega
  obtain⟨j,hj⟩:=List.getElem?_of_mem q2;rw[List.getElem?_take]at hj;split at hj
  ·have:=qq j a hj;exact⟨a,q1,by omega,by omega⟩
  cases hj
 ·have hm:a∈gX f:=(iw a).1 (kN.1.1 ha);obtain⟨x,hx,Ca⟩:=e;have:=hN.outs a hm x hx;rw[Ca]at this;have hb:0<=b:=by
   have Yx:=g3 a hm;have:=hg.ee _ (dY Yx.1 Yx.2) x hx;omega
  have h3:=(hN.seen b).2 ⟨hb,this⟩;rw[h1.2]at h3;simp only[List.map_nil,List.append_nil]at h3;exact kN.1.2 ((iw b).2 h3)
 exact g3 v ((iw v).1 (kN.1.1 hv))
def dP(l:List Int)(k:Int):Int:=l[k.toNat]?.getD (-1)
def gm(f:Func):List Int:=(List.range f.blocks.length).map fun(k:Nat)=>cP f k
theorem qg{f:Func}{k:Int}(h0:0<=k)(h1:k<f.blocks.length):(gm f)[k.toNat]?=some (cP f k):=by
 unfold gm;rw[List.getElem?_map,List.getElem?_range (by omega)];simp only[Option.map_some,Option.some.injEq];congr 1;omega
def iM(P O:List Int):Nat->Int->Int->Int
 | 0,a,_=>a
 | n+1,a,b=>if a=b then a else if dP P b<dP P a then iM P O n (dP O a) b else iM P O n a (dP O b)
def cU(P O:List Int)(next p:Int):Int:=if dP P p<0∨(p≠0∧dP O p<0)then next else if next<0 then p else iM P O 300 next p
def il(P O:List Int)(ps:List Int):Int:=ps.foldl (cU P O) (-1)
def bB(f:Func)(k:Int):List Int:=(eI f)[k.toNat]?.getD []
structure Dm where
 over:List Int
 again:Bool
def eG(f:Func)(S:Dm)(z:Int):Dm:=if il (gm f) S.over (bB f z)≠dP S.over z then⟨S.over.set z.toNat (il (gm f) S.over (bB f z)),true⟩else S
def HA(f:Func)(S:Dm):Dm:=((bx f).drop 1).foldl (eG f) S
def EA(f:Func):Nat->Dm->Dm
 | 0,S=>S
 | n+1,S=>if S.again then EA f n (HA f ⟨S.over,false⟩)else S
def CR(f:Func):Dm:=⟨List.replicate f.blocks.length (-1),true⟩
def dn(f:Func):List Int:=(EA f 30000 (CR f)).over
inductive gB(O:List Int)(d:Int):Int->Prop
 | refl:gB O d d
 | up {k:Int} (h:0<=dP O k) (a:gB O d (dP O k)):gB O d k
def j4(O:List Int)(k:Int):Prop:=k=0∨0<=dP O k
structure Tr(f:Func)(O:List Int):Prop where
 len:O.length=f.blocks.length
 root:dP O 0=-1
 up:∀k,0<=dP O k->0<=cP f (dP O k)∧cP f (dP O k)<cP f k∧j4 O (dP O k)
 low:∀k,-1<=dP O k
theorem gB.trans{O:List Int}{a b c:Int}(h1:gB O a b)(h2:gB O b c):gB O a c:=by
 induction h2 with
 | refl=>exact h1
 | up h _ ih=>exact .up h ih
theorem Tr.v7{f:Func}(hw:gg f){O:List Int}(h:Tr f O){k:Int}(hk:j4 O k):0<=cP f k:=by
 rcases hk with q|q
 ·rw[q,hw.zero];omega
 have:=h.up k q;omega
theorem gB.pl{f:Func}(hw:gg f){O:List Int}(h:Tr f O){d k:Int}(hk:j4 O k)(ha:gB O d k):cP f d<=cP f k∧0<=cP f d∧j4 O d∧(cP f d=cP f k->d=k):=by
 induction ha with
 | refl=>exact⟨Int.le_refl _,h.v7 hw hk,hk,fun _=>rfl⟩
 | up hu _ ih =>
  have br:=h.up _ hu;obtain⟨h1,h2,h3,_⟩:=ih br.2.2;exact⟨by omega,h2,h3,fun e=>by omega⟩
theorem gB.comp{O:List Int}{a d p:Int}(ha:gB O a p)(hd:gB O d p):gB O a d∨gB O d a:=by
 induction ha with
 | refl=>exact .inr hd
 | @up k h ha ih =>
  cases hd with
  | refl=>exact .inl (.up h ha)
  | up _ hd=>exact ih hd
theorem y3{f:Func}(hw:gg f){O:List Int}(h:Tr f O):∀(n:Nat) (a b:Int),j4 O a->j4 O b->cP f a+cP f b<n ->
  gB O (iM (gm f) O n a b) a∧gB O (iM (gm f) O n a b) b∧∀d,gB O d a->gB O d b->gB O d (iM (gm f) O n a b)
 | 0,a,b,ha,hb,hn=>by
  have:=h.v7 hw ha;have:=h.v7 hw hb;omega
 | n+1,a,b,ha,hb,hn=>by
  have pa:=h.v7 hw ha;have pb:=h.v7 hw hb;have ra:=hw.range a pa;have rb:=hw.range b pb;have ea:dP (gm f) a=cP f a:=by unfold dP;rw[qg ra.1 ra.2];rfl
  have eb:dP (gm f) b=cP f b:=by unfold dP;rw[qg rb.1 rb.2];rfl
  simp only[iM];rw[ea,eb];split
  ·rename_i e;subst e;exact⟨.refl,.refl,fun d h _=>h⟩
  rename_i bD;split
  ·rename_i a8;have hu:0<=dP O a:=by
    rcases ha with q|q
    ·rw[q,hw.zero]at a8;omega
    exact q
   obtain⟨u1,u2,u3⟩:=h.up a hu;obtain⟨i1,i2,i3⟩:=y3 hw h n (dP O a) b u3 hb (by omega);refine⟨.up hu i1,i2,fun d d1 d2=>?_⟩;cases d1 with
   | refl =>
    have:=(d2.pl hw h hb).1;omega
   | up _ d1=>exact i3 d d1 d2
  rename_i a8;have hu:0<=dP O b:=by
   rcases hb with q|q
   ·rw[q,hw.zero]at a8;have:a=0:=hw.inj a 0 pa (by rw[hw.zero];omega);exact absurd (this.trans q.symm) bD
   exact q
  obtain⟨u1,u2,u3⟩:=h.up b hu;obtain⟨i1,i2,i3⟩:=y3 hw h n a (dP O b) ha u3 (by omega);refine⟨i1,.up hu i2,fun d d1 d2=>?_⟩;cases d2 with
  | refl =>
   have:=d1.pl hw h ha;have:cP f b=cP f a:=by omega
   exact absurd (hw.inj b a pb this).symm bD
  | up _ d2=>exact i3 d d1 d2
theorem Bj{f:Func}(hw:gg f){O:List Int}(h:Tr f O){a b:Int}(ha:j4 O a)(hb:j4 O b) :
  gB O (iM (gm f) O 300 a b) a∧gB O (iM (gm f) O 300 a b) b∧∀d,gB O d a->gB O d b->gB O d (iM (gm f) O 300 a b):=by
 have h1:=(hw.low a).2;have h2:=(hw.low b).2;have h3:=hw.few;exact y3 hw h 300 a b ha hb (by omega)
theorem j4.nn{f:Func}(hw:gg f){O:List Int}(h:Tr f O){k:Int}(hk:j4 O k):0<=k:=(hw.range k (h.v7 hw hk)).1
theorem oo{f:Func}(hw:gg f){O:List Int}(h:Tr f O){p:Int}(hp:0<=p∧p<f.blocks.length):(dP (gm f) p<0∨(p≠0∧dP O p<0))↔¬j4 O p:=by
 have ep:dP (gm f) p=cP f p:=by unfold dP;rw[qg hp.1 hp.2];rfl
 rw[ep];constructor
 ·rintro(q|⟨q1,q2⟩) ha
  ·have:=h.v7 hw ha;omega
  rcases ha with r|r
  ·exact q1 r
  omega
 intro ha;refine .inr ⟨fun e=>ha (.inl e),?_⟩;exact Classical.byContradiction fun q=>ha (.inr (by omega))
theorem oS{f:Func}(hw:gg f){O:List Int}(h:Tr f O):∀(ps:List Int) (acc:Int),(∀p∈ps,0<=p∧p<f.blocks.length)->(acc=-1∨j4 O acc) ->
  (ps.foldl (cU (gm f) O) acc=-1∧acc=-1∧∀p∈ps,¬j4 O p) ∨
  (j4 O (ps.foldl (cU (gm f) O) acc)∧(acc≠-1->gB O (ps.foldl (cU (gm f) O) acc) acc)∧(∀p∈ps,j4 O p->gB O (ps.foldl (cU (gm f) O) acc) p) ∧
   ∀d,(acc≠-1->gB O d acc)->(∀p∈ps,j4 O p->gB O d p)->gB O d (ps.foldl (cU (gm f) O) acc))
 | [],acc,_,r6=>by
  rcases r6 with q|q
  ·exact .inl ⟨q,q,by simp⟩
  refine .inr ⟨q,fun _=>.refl,by simp,fun d h1 _=>h1 ?_⟩;have:=q.nn hw h;omega
 | p::r,acc,mO,r6=>by
  have hp:=mO p (by simp);have hr:∀p∈r,0<=p∧p<f.blocks.length:=fun q hq=>mO q (by simp[hq]);rw[List.foldl_cons];by_cases ha:j4 O p
  ·have Qm:=fun q=>(oo hw h hp).1 q ha;have hs:cU (gm f) O acc p=if acc<0 then p else iM (gm f) O 300 acc p:=by
    unfold cU;rw[if_neg Qm]
   rcases r6 with q|q
   ·have Pa:cU (gm f) O acc p=p:=by rw[hs,if_pos (by omega)]
    rw[Pa];rcases oS hw h r p hr (.inr ha)with⟨_,i2,_⟩|⟨i1,i2,i3,i4⟩
    ·have:=ha.nn hw h;omega
    have Gv:p≠-1:=by omega
    refine .inr ⟨i1,fun e=>absurd q e,fun x hx yV=>?_,fun d _ h2=>i4 d (fun _=>h2 p (by simp) ha) fun x hx yV=>h2 x (by simp[hx]) yV⟩;rcases List.mem_cons.1 hx with e|e
    ·subst e;exact i2 Gv
    exact i3 x e yV
   have hq:=q.nn hw h;have Pa:cU (gm f) O acc p=iM (gm f) O 300 acc p:=by rw[hs,if_neg (by omega)]
   rw[Pa];obtain⟨m1,m2,m3⟩:=Bj hw h q ha;have TK:=(m1.pl hw h q).2.2.1;rcases oS hw h r _ hr (.inr TK)with⟨_,i2,_⟩|⟨i1,i2,i3,i4⟩
   ·have:=TK.nn hw h;omega
   have Yl:iM (gm f) O 300 acc p≠-1:=by have:=TK.nn hw h;omega
   refine .inr ⟨i1,fun _=>(i2 Yl).trans m1,fun x hx yV=>?_,fun d h1 h2=>i4 d (fun _=>m3 d (h1 (by omega)) (h2 p (by simp) ha)) fun x hx yV=>h2 x (by simp[hx]) yV⟩;rcases List.mem_cons.1 hx with e|e
   ·subst e;exact(i2 Yl).trans m2
   exact i3 x e yV
  have hs:cU (gm f) O acc p=acc:=by
   unfold cU;rw[if_pos ((oo hw h hp).2 ha)]
  rw[hs];rcases oS hw h r acc hr r6 with⟨i1,i2,i3⟩|⟨i1,i2,i3,i4⟩
  ·refine .inl ⟨i1,i2,fun x hx=>?_⟩;rcases List.mem_cons.1 hx with e|e
   ·subst e;exact ha
   exact i3 x e
  refine .inr ⟨i1,i2,fun x hx yV=>?_,fun d h1 h2=>i4 d h1 fun x hx yV=>h2 x (by simp[hx]) yV⟩;rcases List.mem_cons.1 hx with e|e
  ·subst e;exact absurd yV ha
  exact i3 x e yV
theorem G6{k:Nat}{ls:List (List Int)}{e:Edge}{j:Nat}{a:Int}(h:a∈(jT k ls e)[j]?.getD []):a∈ls[j]?.getD []∨(a=k∧j=e.block.toNat):=by
 unfold jT at h;by_cases q:e.block.toNat=j
 ·subst q;by_cases hl:e.block.toNat<ls.length
  ·rw[List.getElem?_set_self hl]at h;simp only[Option.getD_some,List.mem_append,List.mem_singleton]at h;rcases h with h|h
   ·exact .inl h
   exact .inr ⟨h,rfl⟩
  rw[List.getElem?_eq_none (by simp;omega)]at h;simp at h
 rw[List.getElem?_set_ne q]at h;exact .inl h
theorem xV{k:Nat}{j:Nat}{a:Int}:∀{es:List Edge} {ls:List (List Int)},a∈(iZ k ls es)[j]?.getD []->a∈ls[j]?.getD []∨(a=k∧∃e∈es,j=e.block.toNat)
 | [],_,h=>.inl h
 | e::r,ls,h=>by
  have h:a∈(iZ k (jT k ls e) r)[j]?.getD []:=h;rcases xV h with q|⟨q1,x,q2,q3⟩
  ·rcases G6 q with q|⟨q1,q2⟩
   ·exact .inl q
   exact .inr ⟨q1,e,by simp,q2⟩
  exact .inr ⟨q1,x,by simp[q2],q3⟩
theorem xZ{j:Nat}{a:Int}:∀{bs:List Block} {k:Nat} {ls:List (List Int)},a∈(lA k ls bs)[j]?.getD []->a∈ls[j]?.getD []∨∃(i:Nat) (b:Block),bs[i]?=some b∧a=(k+i:Nat)∧∃e∈b.term.to,j=e.block.toNat
 | [],_,_,h=>.inl h
 | b::r,k,ls,h=>by
  rw[lA]at h;rcases xZ h with q|⟨i,c,q1,q2,q3⟩
  ·rcases xV q with q|⟨q1,q2⟩
   ·exact .inl q
   exact .inr ⟨0,b,rfl,q1,q2⟩
  exact .inr ⟨i+1,c,q1,by rw[q2];congr 1;omega,q3⟩
theorem kz{f:Func}(hg:fv f){k p:Int}(hk:0<=k)(h:p∈bB f k):(0<=p∧p<f.blocks.length)∧qz f p k:=by
 rcases xZ h with q|⟨i,b,q1,q2,e,q3,q4⟩
 ·rw[List.getElem?_replicate]at q;split at q<;>simp at q
 have hi:=I q1;refine⟨by omega,e,?_,?_⟩
 ·have:aY f p=b:=by simp[aY,show p.toNat=i by omega,q1]
  rw[eA,this];exact q3
 have:=hg.ee b (List.mem_of_getElem? q1) e q3;omega
structure kX(f:Func)(i:Int)(O:List Int):Prop where
 tr:Tr f O
 v7:∀v,1<=cP f v->cP f v<i->0<=dP O v
 low:∀k,0<=dP O k->∀d,(∀p∈bB f k,j4 O p->gB O d p)->gB O d (dP O k)
 fwd:∀k,0<=dP O k->(cP f k<i∨i<=cP f (dP O k))->∃p∈bB f k,j4 O p∧cP f p<cP f k∧gB O (dP O k) p
theorem Et{O:List Int}{z nx:Int}(hz:1<=z)(hl:z.toNat<O.length)(k:Int):dP (O.set z.toNat nx) k=if k=z then nx else dP O k:=by
 unfold dP;by_cases e:k=z
 ·subst e;rw[if_pos rfl,List.getElem?_set_self hl];rfl
 rw[if_neg e,List.getElem?_set_ne (by omega)]
theorem xj{f:Func}(hg:fv f)(hw:gg f){i:Int}{O:List Int}(h:kX f i O){z:Int}(hz:cP f z=i)(h1:1<=i) :
  0<=il (gm f) O (bB f z)∧0<=cP f (il (gm f) O (bB f z))∧(0<=dP O z->il (gm f) O (bB f z)=dP O z∨cP f (il (gm f) O (bB f z))<cP f (dP O z))∧kX f (i+1) (O.set z.toNat (il (gm f) O (bB f z))) ∧
  (∀p∈bB f z,j4 O p->gB O (il (gm f) O (bB f z)) p):=by
 have xH:=hw.range z (by omega);have Xb:1<=z:=by
  refine Classical.byContradiction fun q=>?_;have:z=0:=by omega
  rw[this,hw.zero]at hz;omega
 have rM:z.toNat<O.length:=by rw[h.tr.len];omega
 have mO:∀p∈bB f z,0<=p∧p<f.blocks.length:=fun p hp=>(kz hg (by omega) hp).1;obtain⟨a,Zx,XT,ha3⟩:=hw.fwd z (by omega);have SW:=hw.range a XT;have Ml:a∈bB f z:=rZ SW ⟨by omega,xH.2⟩ Zx;have RO:j4 O a:=by
  by_cases e:a=0
  ·exact .inl e
  refine .inr (h.v7 a ?_ (by omega));refine Classical.byContradiction fun q=>e (hw.inj a 0 XT (by rw[hw.zero];omega))
 have OM:=oS hw h.tr (bB f z) (-1) mO (.inl rfl);obtain⟨nx,EU⟩:∃nx,nx=il (gm f) O (bB f z):=⟨_,rfl⟩
 rw[show(bB f z).foldl (cU (gm f) O) (-1)=nx from EU.symm]at OM;rw[<-EU];rcases OM with⟨_,_,q⟩|⟨n1,_,n3,n4⟩
 ·exact absurd RO (q a Ml)
 have n4:∀d,(∀p∈bB f z,j4 O p->gB O d p)->gB O d nx:=fun d=>n4 d (fun e=>absurd rfl e);have uX:=n1.nn hw h.tr;have Yp:=h.tr.v7 hw n1;have Gt:cP f nx<i:=by
  have:=(n3 a Ml RO).pl hw h.tr RO;omega
 have OX:0<=dP O z->gB O nx (dP O z):=fun QP=>h.low z QP nx n3;obtain⟨O',IV⟩:∃O',O'=O.set z.toNat nx:=⟨_,rfl⟩
 have qq:∀k,dP O' k=if k=z then nx else dP O k:=fun k=>by rw[IV];exact Et Xb rM k
 rw[<-IV];have wC:∀k,j4 O k->j4 O' k:=fun k hk=>by
  rcases hk with q|q
  ·exact .inl q
  refine .inr ?_;rw[qq];split
  ·exact uX
  exact q
 have XV:∀k,k≠z->j4 O' k->j4 O k:=fun k hk q=>by
  rcases q with q|q
  ·exact .inl q
  rw[qq,if_neg hk]at q;exact .inr q
 have E7:∀{d p},j4 O p->cP f p<i->gB O d p->gB O' d p:=fun {d p} hp a8 ha=>by
  induction ha with
  | refl=>exact .refl
  | @up k hk _ ih =>
   have hu:=h.tr.up k hk;have OR:k≠z:=fun e=>by rw[e]at a8;omega
   have e:dP O' k=dP O k:=by rw[qq,if_neg OR]
   refine .up (by rw[e];exact hk) ?_;rw[e];exact ih hu.2.2 (by omega)
 have QR:∀{d p},j4 O p->cP f p<i->gB O' d p->gB O d p:=fun {d p} hp a8 ha=>by
  induction ha with
  | refl=>exact .refl
  | @up k hk _ ih =>
   have OR:k≠z:=fun e=>by rw[e]at a8;omega
   have e:dP O' k=dP O k:=by rw[qq,if_neg OR]
   rw[e]at hk ih;have hu:=h.tr.up k hk;exact .up hk (ih hu.2.2 (by omega))
 have Po:∀{a p},j4 O p->i<=cP f a->gB O a p->gB O' a p:=fun {a p} hp hle ha=>by
  induction ha with
  | refl=>exact .refl
  | @up k hk ha ih =>
   have hu:=h.tr.up k hk;have WB:=ha.pl hw h.tr hu.2.2;have OR:k≠z:=fun e=>by rw[e]at hu WB;omega
   have e:dP O' k=dP O k:=by rw[qq,if_neg OR]
   refine .up (by rw[e];exact hk) ?_;rw[e];exact ih hu.2.2
 have shrink:∀{d p},j4 O p->gB O' d p->gB O d p:=fun {d p} hp ha=>by
  induction ha with
  | refl=>exact .refl
  | @up k hk ha ih =>
   by_cases OR:k=z
   ·subst OR;have e:dP O' k=nx:=by rw[qq,if_pos rfl]
    rw[e]at ha;have QP:0<=dP O k:=by
     rcases hp with q|q
     ·omega
     exact q
    exact .up QP ((QR n1 Gt ha).trans (OX QP))
   have e:dP O' k=dP O k:=by rw[qq,if_neg OR]
   rw[e]at hk ih;exact .up hk (ih (h.tr.up k hk).2.2)
 have qw:Tr f O':=by
  refine⟨by rw[IV,List.length_set];exact h.tr.len,by rw[qq,if_neg (by omega)];exact h.tr.root,fun k hk=>?_,fun k=>?_⟩
  ·rw[qq]at hk ⊢;split
   ·rename_i e;subst e;exact⟨Yp,by omega,wC _ n1⟩
   rename_i e;rw[if_neg e]at hk;have:=h.tr.up k hk;exact⟨this.1,this.2.1,wC _ this.2.2⟩
  rw[qq];split
  ·omega
  exact h.tr.low k
 refine⟨uX,Yp,fun QP=>?_,⟨qw,fun v hv hvi=>?_,fun k hk d hd=>?_,fun k hk hc=>?_⟩,n3⟩
 ·have:=OX QP;have hu:=h.tr.up z QP;have WB:=this.pl hw h.tr hu.2.2;by_cases e:cP f nx=cP f (dP O z)
  ·exact .inl (WB.2.2.2 e)
  exact .inr (by omega)
 ·rw[qq];split
  ·exact uX
  rename_i e;refine h.v7 v hv ?_;refine Classical.byContradiction fun q=>e (hw.inj v z (by omega) (by omega))
 ·rw[qq];have hold:∀p∈bB f k,j4 O p->gB O d p:=fun p hp qv=>shrink qv (hd p hp (wC p qv));split
  ·rename_i e;subst e;exact E7 n1 Gt (n4 d hold)
  rename_i e;rw[qq,if_neg e]at hk;have OK:=h.low k hk d hold;have hu:=h.tr.up k hk;by_cases qv:cP f (dP O k)<i
  ·exact E7 hu.2.2 qv OK
  obtain⟨p,hp,Qt,_,wI⟩:=h.fwd k hk (.inr (by omega));have nF:=Po Qt (by omega) wI;have S9:=hd p hp (wC p Qt);rcases nF.comp S9 with q|q
  ·have q':=q.pl hw qw (S9.pl hw qw (wC p Qt)).2.2.1;have xA:=OK.pl hw h.tr hu.2.2;have:d=dP O k:=xA.2.2.2 (by omega);rw[this];exact .refl
  exact q
 rw[qq]at hc ⊢;by_cases e:k=z
 ·subst e;rw[if_pos rfl];exact⟨a,Ml,wC a RO,by omega,E7 RO (by omega) (n3 a Ml RO)⟩
 rw[if_neg e]at hc ⊢;rw[qq,if_neg e]at hk;have hku:=h.tr.up k hk;rcases hc with q|q
 ·have OQ:cP f k<i:=by
   refine Classical.byContradiction fun r=>e (hw.inj k z (by omega) (by omega))
  obtain⟨p,hp,qv,tQ,wI⟩:=h.fwd k hk (.inl OQ);exact⟨p,hp,wC p qv,tQ,E7 qv (by omega) wI⟩
 obtain⟨p,hp,qv,tQ,wI⟩:=h.fwd k hk (.inr (by omega));exact⟨p,hp,wC p qv,tQ,Po qv (by omega) wI⟩
def M8(f:Func)(o:Int):Nat:=if o<0 then 200 else(cP f o).toNat
def Dm.weight(f:Func)(S:Dm):Nat:=(S.over.map (M8 f)).sum
theorem Hg{l:List Int}{k:Nat}{x:Int}(h:l[k]?=some x):l.set k x=l:=by
 obtain⟨a8,e⟩:=List.getElem?_eq_some_iff.1 h;rw[<-e,List.set_getElem_self]
theorem rY{f:Func}(hg:fv f)(hw:gg f){i:Int}{S:Dm}(h:kX f i S.over){z:Int}(hz:cP f z=i)(h1:1<=i) :
  kX f (i+1) (eG f S z).over∧(eG f S z).weight f<=S.weight f∧((eG f S z).again=true->S.again=true∨(eG f S z).weight f<S.weight f) ∧
  ((eG f S z).again=false->eG f S z=S∧il (gm f) S.over (bB f z)=dP S.over z):=by
 obtain⟨s1,s2,s3,s4,_⟩:=xj hg hw h hz h1;have xH:=hw.range z (by omega);obtain⟨o,ho⟩:∃o,S.over[z.toNat]?=some o:=⟨S.over[z.toNat]'(by rw[h.tr.len];omega),List.getElem?_eq_getElem _⟩
 have Lm:dP S.over z=o:=by simp[dP,ho]
 unfold eG;generalize il (gm f) S.over (bB f z)=nx at *;split
 ·rename_i bD;have a8:M8 f nx<M8 f o:=by
   have hl:=(hw.low nx).2;have hf:=hw.few;unfold M8;rw[if_neg (by omega)];split
   ·omega
   rw[Lm]at s3 bD;rcases s3 (by omega)with q|q
   ·exact absurd q bD
   omega
  have hs:=FA (l:=S.over.map (M8 f)) (k:=z.toNat) (x:=M8 f nx) (y:=M8 f o) (by simp[ho]);rw[<-List.map_set]at hs;simp only[Dm.weight];exact⟨s4,by omega,fun _=>.inr (by omega),fun q=>by cases q⟩
 rename_i bD;have bD:nx=dP S.over z:=by simpa using bD
 have:S.over.set z.toNat nx=S.over:=Hg (by rw[bD,Lm];exact ho);rw[this]at s4;exact⟨s4,Nat.le_refl _,fun q=>.inl q,fun _=>⟨rfl,bD⟩⟩
theorem Iq{f:Func}(hg:fv f)(hw:gg f):∀(l:List Int) (i:Nat) {S:Dm},1<=i->(∀(j:Nat) z,l[j]?=some z->cP f z=i+j)->kX f i S.over ->
  kX f (i+l.length:Nat) (l.foldl (eG f) S).over∧(l.foldl (eG f) S).weight f<=S.weight f∧((l.foldl (eG f) S).again=true->S.again=true∨(l.foldl (eG f) S).weight f<S.weight f) ∧
  ((l.foldl (eG f) S).again=false->l.foldl (eG f) S=S∧∀z∈l,il (gm f) S.over (bB f z)=dP S.over z)
 | [],i,S,_,_,h=>⟨h,Nat.le_refl _,fun q=>.inl q,fun _=>⟨rfl,by simp⟩⟩
 | z::r,i,S,h1,hl,h=>by
  have hz:=hl 0 z rfl;obtain⟨a1,a2,a3,a4⟩:=rY hg hw h (z:=z) (by rw[hz];omega) (by omega);have hr:∀(j:Nat) z,r[j]?=some z->cP f z=((i+1:Nat):Int)+j:=fun j y hj=>by
   rw[hl (j+1) y hj];omega
  have RH:kX f ((i+1:Nat):Int) (eG f S z).over:=by
   rw[show((i+1:Nat):Int)=(i:Int)+1 by omega];exact a1
  obtain⟨b1,b2,b3,b4⟩:=Iq hg hw r (i+1) (by omega) hr RH;rw[List.foldl_cons];refine⟨by rw[List.length_cons,show i+(r.length+1)=i+1+r.length by omega];exact b1,by omega,fun q=>?_,fun q=>?_⟩
  ·rcases b3 q with q|q
   ·rcases a3 q with q|q
    ·exact .inl q
    exact .inr (by omega)
   exact .inr (by omega)
  obtain⟨c1,c2⟩:=b4 q;rw[c1]at q;obtain⟨d1,d2⟩:=a4 q;rw[d1]at c1 c2;rw[d1];refine⟨c1,fun y hy=>?_⟩;rcases List.mem_cons.1 hy with e|e
  ·subst e;exact d2
  exact c2 y e
theorem pR{f:Func}(hw:gg f){O:List Int}(h:kX f (bx f).length O):kX f 1 O :=
 ⟨h.tr,fun v h1 h2=>absurd h1 (by omega),h.low,fun k hk _=>h.fwd k hk (.inl (hw.low k).2)⟩
theorem CQ{f:Func}(hg:fv f)(hw:gg f){S:Dm}(h:kX f 1 S.over) :
  kX f (bx f).length (HA f S).over∧(HA f S).weight f<=S.weight f∧((HA f S).again=true->S.again=true∨(HA f S).weight f<S.weight f) ∧
  ((HA f S).again=false->HA f S=S∧∀z∈(bx f).drop 1,il (gm f) S.over (bB f z)=dP S.over z):=by
 have hp:=hw.pos;have:=Iq hg hw ((bx f).drop 1) 1 (S:=S) (by omega) (fun j z hj=>by
  rw[List.getElem?_drop]at hj;rw[hw.at_ _ _ hj];omega) h
 rw[List.length_drop,show 1+((bx f).length-1)=(bx f).length by omega]at this;exact this
theorem AD{f:Func}{S:Dm}(h:S.again=false)(n:Nat):EA f n S=S:=by
 cases n with
 | zero=>rfl
 | succ n=>simp[EA,h]
theorem Ir{f:Func}(hg:fv f)(hw:gg f):∀(n:Nat) {S:Dm},kX f 1 S.over->S.again=true->S.weight f<n ->
  (EA f n S).again=false∧kX f (bx f).length (EA f n S).over∧∀z∈(bx f).drop 1,il (gm f) (EA f n S).over (bB f z)=dP (EA f n S).over z
 | 0,S,_,_,hn=>absurd hn (by omega)
 | n+1,S,h,ha,hn=>by
  obtain⟨a1,a2,a3,a4⟩:=CQ hg hw (S:=⟨S.over,false⟩) h;have Sa:(⟨S.over,false⟩:Dm).weight f=S.weight f:=rfl;rw[Sa]at a2 a3;simp only[EA,ha,if_true];cases hr:(HA f ⟨S.over,false⟩).again with
  | false =>
   obtain⟨b1,b2⟩:=a4 hr;rw[AD hr];refine⟨hr,a1,?_⟩;rw[b1];exact b2
  | true =>
   rcases a3 hr with q|q
   ·cases q
   exact Ir hg hw n (pR hw a1) hr (by omega)
theorem CS{f:Func}(hw:gg f):kX f 1 (CR f).over:=by
 have qq:∀k,dP (CR f).over k=-1:=fun k=>by
  unfold dP CR;simp only;rw[List.getElem?_replicate];split<;>rfl
 refine⟨⟨by simp[CR],qq 0,fun k hk=>?_,fun k=>by rw[qq];omega⟩,fun v h1 h2=>absurd h1 (by omega),fun k hk=>?_,fun k hk=>?_⟩
 all_goals
  rw[qq]at hk;omega
theorem uK{f:Func}(h:f.blocks.length<=128):(CR f).weight f<=25600:=by
 have hs:=Kq (l:=(CR f).over.map (M8 f)) (b:=200) (fun x hx=>by
  simp only[CR,List.map_replicate]at hx;rw[(List.mem_replicate.1 hx).2];simp[M8])
 simp only[CR,List.length_map,List.length_replicate]at hs;simp only[Dm.weight,CR];omega
structure HM(f:Func):Prop where
 tr:Tr f (dn f)
 v7:∀v,1<=cP f v->0<=dP (dn f) v
 fix:∀v,1<=cP f v->il (gm f) (dn f) (bB f v)=dP (dn f) v
theorem kg{f:Func}(hg:fv f):HM f:=by
 have hw:=cE hg;have h0:=uK hg.few;obtain⟨_,h2,h3⟩:=Ir hg hw 30000 (CS hw) rfl (by omega);refine⟨h2.tr,fun v hv=>h2.v7 v hv (hw.low v).2,fun v hv=>h3 v ?_⟩;have:=hw.get v (by omega);refine List.mem_of_getElem? (i:=(cP f v).toNat-1) ?_;rw[List.getElem?_drop,<-this];congr 1;omega
theorem HM.v8{f:Func}(hw:gg f)(h:HM f){v:Int}(hv:0<=cP f v):j4 (dn f) v:=by
 by_cases e:cP f v=0
 ·exact .inl (hw.inj v 0 hv (by rw[hw.zero,e]))
 exact .inr (h.v7 v (by omega))
def Sh(O:List Int):Nat->Int->List Int
 | 0,_=>[]
 | n+1,k=>if k<0 then []else k::Sh O n (dP O k)
theorem Fc{f:Func}(hw:gg f){O:List Int}(h:Tr f O){d:Int}:∀(n:Nat) (k:Int),j4 O k->cP f k<n->(d∈Sh O n k↔gB O d k)
 | 0,k,hk,hn=>by
  have:=h.v7 hw hk;omega
 | n+1,k,hk,hn=>by
  have HD:=hk.nn hw h;simp only[Sh];rw[if_neg (by omega),List.mem_cons];by_cases hu:0<=dP O k
  ·obtain⟨u1,u2,u3⟩:=h.up k hu;rw[Fc hw h n (dP O k) u3 (by omega)];constructor
   ·rintro(q|q)
    ·rw[q];exact .refl
    exact .up hu q
   intro q;cases q with
   | refl=>exact .inl rfl
   | up _ q=>exact .inr q
  have e:Sh O n (dP O k)=[]:=by
   cases n with
   | zero=>rfl
   | succ n=>simp only[Sh];rw[if_pos (by omega)]
  rw[e];constructor
  ·rintro(q|q)
   ·rw[q];exact .refl
   cases q
  intro q;cases q with
  | refl=>exact .inl rfl
  | up q _=>exact absurd q hu
end Go.Proofs.YtjdnhamngpafmaaGreat
namespace Go.Proofs.YtjdnhamngpafmaaGreat
open Go.Av Go.Sort
def gR(l:List Int):List Int:=l.mergeSort fun x y=>decide (x<=y)
theorem fJ(l:List Int):(gR l).Perm l:=List.mergeSort_perm _ _
theorem zF(l:List Int):(gR l).Pairwise (fun x y=>x<=y):=by
 have h:=List.pairwise_mergeSort (le:=fun x y:Int=>decide (x<=y)) (fun a b c h1 h2=>by simp only[decide_eq_true_eq]at h1 h2 ⊢;omega) (fun a b=>by simp only[Bool.or_eq_true,decide_eq_true_eq];omega) l;exact h.imp fun q=>by simpa using q
def w9(P:Program)(f:FuncId):Prop:=∀(blk off cap:Nat) (zs:List Int) (w:World),Go.Sort.Holds (Value.int .i64) w blk off zs.toArray->blk<w.heap.size->zs.length<4611686018427387904 ->
 Calls P f #[.slice (some ⟨blk,off,none⟩) zs.length cap] w fun e w' =>
  e=.returned (.tuple #[])∧∃n os,w'=grow (putRow (Value.int .i64) (Sort.ahead w n) blk off (zs.mergeSort fun x y=>decide (x<=y)).toArray) os
theorem BO{P:Program}{f:FuncId}(Gg:Go.Av.Enters P f)(hc:w9 P f){O:List ai}{id:Nat}{zs:List Int}(ho:O[id]?=some (.cells (zs.map aI)))(hl:zs.length<=1000) :
  bh P f O [.os id zs.length 1] (fun r O'=>r=.cx []∧O'=O.set id (.cells ((gR zs).map aI))):=by
 refine⟨Gg,fun g vs hg zX Gz=>?_⟩;subst zX;obtain⟨h1,h2⟩:=Gz;simp only[List.length_singleton]at h1;have EW:vs[0]?=some (vs[0]'(by omega)):=Array.getElem?_eq_getElem _;obtain⟨l,o,cap,he,ib,TR,cL,hb,cv,W1⟩:=(h2 0 _ _ rfl EW).qd;have Gz:vs = #[.slice (some ⟨l.block,0,none⟩) zs.length cap]:=by
  apply Array.ext
  ·simpa using h1
  intro i V9 ON;have:i=0:=by omega
  subst this;exact W1
 subst Gz;obtain⟨arr,t,iJ,dq,hlen,fw,nt,Dj⟩:=hg.row ho he;rw[List.length_map]at hlen;have dp:∀(j:Nat) x,zs[j]?=some x->arr[j]?=some (.int .i64 x)∧j8 (.int .i64 x):=fun j x hj=>by
  have OO:=I hj;have Lk:arr[j]?=some (arr[j]'(by omega)):=Array.getElem?_eq_getElem _;obtain⟨e,hf⟩:=(fw j (aI x) _ (by simp[hj]) Lk).bX;exact⟨by rw[Lk,e],hf⟩
 have hH:Go.Sort.Holds (Value.int .i64) g.w l.block 0 zs.toArray:=fun j hj=>by
  have gV:j<zs.length:=by simpa using hj
  refine⟨?_,by simp[World.frozen?,dq]⟩;rw[show g.w.cell? ⟨l.block,0+j,none⟩=arr[0+j]? from Go.Av.cell_of_row dq (0+j),Nat.zero_add,(dp j _ (List.getElem?_eq_getElem gV)).1];simp[gV]
 refine(hc l.block 0 cap zs g.w hH (aX dq) (by omega)).mono ?_;rintro e w' ⟨rfl,n,os,xF⟩;have R7:(zs.mergeSort fun x y=>decide (x<=y))=gR zs:=rfl;rw[R7]at xF;have hp:=fJ zs;obtain⟨ss,r8⟩:∃ss,ss=gR zs:=⟨_,rfl⟩
 rw[<-r8]at xF hp ⊢;have iY:=hp.length_eq;have VN:=aX dq;have eE:∀k,k<g.w.heap.size->w'.heap[k]?=(g.w.heap.modify l.block (onCells (putCells (Value.int .i64) 0 ss.toArray)))[k]?:=fun k hk=>by
  subst xF;simp only[grow,putRow,mapBlock,Sort.ahead];rw[Array.getElem?_append_left (by simpa using hk)]
 have T8:w'.heap[l.block]?=some (.cells (putCells (Value.int .i64) 0 ss.toArray arr) t (0,0)):=by
  rw[eE _ VN,Array.getElem?_modify,if_pos rfl,dq];rfl
 have TY:∀k,k<g.w.heap.size->k≠l.block->w'.heap[k]?=g.w.heap[k]?:=fun k hk bD=>by
  rw[eE k hk,Array.getElem?_modify,if_neg (fun q=>bD q.symm)]
 have lP:∀(j:Nat) x,ss[j]?=some x->(putCells (Value.int .i64) 0 ss.toArray arr)[j]?=some (.int .i64 x):=fun j x hj=>by
  have OO:=I hj;have Lk:arr[j]?=some (arr[j]'(by omega)):=Array.getElem?_eq_getElem _;simp only[putCells,Array.getElem?_mapIdx,Lk,Option.map_some,Nat.zero_add,Nat.zero_le,true_and,Nat.sub_zero,List.size_toArray];rw[if_pos OO];simp[hj]
 have eN:lb g id (.cells (zs.map aI)) (some l) (.cells (ss.map aI)) w' :=
  {obj:=ho
   os:=by rw[xF];rfl
   tape:=by rw[xF];rfl
   output:=by rw[xF];rfl
   size:=by rw[xF];simp[grow,putRow,mapBlock,Sort.ahead]
   block:=fun k hk bD=>TY k hk fun e=>bD l he trivial e.symm
   cell:=fun b off x hx hb=>by
    by_cases e:b=l.block
    ·have:=hb l he trivial e.symm;omega
    rw[jb (TY b (oL hx) e)];exact hx
   place:=fun l1 h1 _=>by
    simp only[Option.some.injEq]at h1;subst h1;exact .inr ⟨l,he,trivial,rfl,Nat.le_refl _⟩
   spare:=fun m h=>by cases h
   plain:=fun _=>⟨by simp[ai.aD],he⟩
   gone:=by simp }
 refine⟨g.bw id (some l) (.cells (ss.map aI)) w',.tuple #[],.cx [],rfl,rfl,Le.bw hg eN,Good.bw hg eN ?_ ?_,.cx rfl (by simp),rfl,rfl⟩
 ·refine⟨l,_,t,rfl,iJ,T8,by simp[putCells,iY];omega,fun j c u hj hu=>?_,fun c hc=>?_,by simpa[putCells]using Dj⟩
  ·rw[List.getElem?_map]at hj;obtain⟨x,hx,rfl⟩:=Option.map_eq_some_iff.1 hj;rw[lP j x hx]at hu;simp only[Option.some.injEq]at hu;subst hu;have hm:x∈zs:=hp.subset (List.mem_of_getElem? hx);obtain⟨i,hi⟩:=List.getElem?_of_mem hm;exact .v (dp i x hi).2
  obtain⟨x,_,rfl⟩:=List.mem_map.1 hc;trivial
 intro l1 h1 _;simp only[Option.some.injEq]at h1;subst h1;rw[xF];simp[grow,putRow,mapBlock,Sort.ahead];omega
end Go.Proofs.YtjdnhamngpafmaaGreat
namespace Go.Proofs.YtjdnhamngpafmaaGreat
open Go.Av
def dw(f:Func):List Int:=gR (bx f)
theorem cD{f:Func}{k:Int}:k∈dw f↔0<=cP f k:=by
 unfold dw cP;rw[(fJ _).mem_iff];exact kN.1.symm
theorem ru(f:Func):(dw f).length=(bx f).length:=(fJ _).length_eq
def ph(O:List Int)(a b:Int):Bool:=decide (a∈Sh O 300 b)
theorem iy{f:Func}(hw:gg f){O:List Int}(h:Tr f O){a b:Int}(hb:j4 O b):ph O a b=true↔gB O a b:=by
 have h1:=(hw.low b).2;have h2:=hw.few;unfold ph;rw[decide_eq_true_iff];exact Fc hw h 300 b hb (by omega)
theorem HT{f:Func}(hw:gg f){O:List Int}(h:Tr f O){a k:Int}(hk:j4 O k)(bD:k≠a) :
  (0<=dP O k∧j4 O (dP O k)∧cP f (dP O k)<cP f k∧ph O a k=ph O a (dP O k))∨(dP O k=-1∧ph O a k=false):=by
 by_cases hu:0<=dP O k
 ·obtain⟨u1,u2,u3⟩:=h.up k hu;refine .inl ⟨hu,u3,u2,?_⟩;rw[Bool.eq_iff_iff,iy hw h hk,iy hw h u3];constructor
  ·intro q;cases q with
   | refl=>exact absurd rfl bD
   | up _ q=>exact q
  exact fun q=>.up hu q
 have:=h.low k;refine .inr ⟨by omega,?_⟩;rw[<-Bool.not_eq_true,iy hw h hk];intro q;cases q with
 | refl=>exact bD rfl
 | up q _=>exact hu q
theorem FK{f:Func}(hw:gg f){O:List Int}(h:Tr f O){k:Int}(hk:j4 O k):ph O k k=true:=(iy hw h hk).2 .refl
theorem uc{f:Func}(hg:fv f){k p:Int}(hk:1<=cP f k)(hp:p∈bB f k)(hr:0<=cP f p){a:Int}(ha:gB (dn f) a k)(bD:a≠k):gB (dn f) a p:=by
 have hw:=cE hg;have ht:=kg hg;have qu:=hw.range k (by omega);have hu:0<=dP (dn f) k:=ht.v7 k hk;have EM:gB (dn f) a (dP (dn f) k):=by
  cases ha with
  | refl=>exact absurd rfl bD
  | up _ q=>exact q
 refine EM.trans ?_;have I8:=ht.fix k hk;have cB:∀q∈bB f k,0<=q∧q<f.blocks.length:=fun q hq=>(kz hg qu.1 hq).1;unfold il at I8;rcases oS hw ht.tr (bB f k) (-1) cB (.inl rfl)with⟨e,_⟩|⟨_,_,h3,_⟩
 ·omega
 have h4:=h3 p hp (ht.v8 hw hr)
 rwa [I8]at h4
def sE(f:Func)(k:Int):List (Int×Int):=((eA f k).filter fun x=>ph (dn f) x.block k).map fun x=>(k,x.block)
def dd(f:Func):List (Int×Int):=(dw f).flatMap (sE f)
structure Wl where
 work:List Int
 all:List Int
def oE(f:Func)(S:Wl):Wl :=
 match S.work.getLast? with
 | none=>S
 | some k=>if k∈dw f∧k ∉ S.all then⟨S.work.dropLast++bB f k,S.all++[k]⟩else⟨S.work.dropLast,S.all⟩
def Wl.weight(f:Func)(S:Wl):Nat:=(f.blocks.length-S.all.length)*40000+S.work.length
structure tg(f:Func)(h:Int)(src:List Int)(S:Wl):Prop where
 head:S.all[0]?=some h
 nd:S.all.Nodup
 rC:∀k∈S.all,0<=k∧k<f.blocks.length
 rn:∀k∈S.all,k=h∨0<=cP f k
 wk:∀k∈S.work,0<=k∧k<f.blocks.length
 ind:∀P:Int->Prop,(∀k∈src,P k)->(∀k,k∈S.all->k≠h->P k->∀p∈bB f k,P p)->(∀k∈S.all,k≠h->P k)∧∀k∈S.work,P k
 cl:∀k∈S.all,k≠h->∀p∈bB f k,0<=cP f p->p∈S.all∨p∈S.work
 src:∀k∈src,0<=cP f k->k∈S.all∨k∈S.work
theorem mW{l:List Int}{n:Nat}(h:l.Nodup)(hr:∀x∈l,0<=x∧x<n):l.length<=n:=by
 have h1:=lz n (l.map Int.toNat) (by
  unfold List.Nodup;rw[List.pairwise_map];refine List.Pairwise.imp_of_mem (fun ha hb bD e=>bD ?_) h;have:=hr _ ha;have:=hr _ hb;omega) (fun x hx=>by
  obtain⟨y,hy,rfl⟩:=List.mem_map.1 hx;have:=hr y hy;omega)
 simpa using h1
theorem tg.few{f:Func}{h:Int}{src:List Int}{S:Wl}(hS:tg f h src S):S.all.length<=f.blocks.length:=mW hS.nd hS.rC
theorem G5(k j:Nat)(ls:List (List Int))(e:Edge):((jT k ls e)[j]?.getD []).length<=(ls[j]?.getD []).length+1:=by
 unfold jT;rw[List.getElem?_set];split
 ·rename_i q;subst q;split
  ·simp
  simp
 omega
theorem xU(k j:Nat):∀(es:List Edge) (ls:List (List Int)),((iZ k ls es)[j]?.getD []).length<=(ls[j]?.getD []).length+es.length
 | [],ls=>by simp[iZ]
 | e::r,ls=>by
  have h1:=xU k j r (jT k ls e);have h2:=G5 k j ls e;have h3:iZ k ls (e::r)=iZ k (jT k ls e) r:=rfl;rw[h3,List.length_cons];omega
theorem xY(j:Nat):∀(bs:List Block) (k:Nat) (ls:List (List Int)),(∀b∈bs,b.term.to.length<=257)->((lA k ls bs)[j]?.getD []).length<=(ls[j]?.getD []).length+bs.length*257
 | [],k,ls,_=>by simp[lA]
 | b::r,k,ls,hb=>by
  have h1:=xY j r (k+1) (iZ k ls b.term.to) fun x hx=>hb x (List.mem_cons_of_mem _ hx);have h2:=xU k j b.term.to ls;have h3:=hb b List.mem_cons_self;simp only[lA,List.length_cons];omega
theorem x7{f:Func}(hg:fv f)(k:Int):(bB f k).length<=33000:=by
 have h1:=xY k.toNat f.blocks 0 (List.replicate f.blocks.length []) hg.to;have h2:=hg.few;have h3:((List.replicate f.blocks.length ([]:List Int))[k.toNat]?.getD []).length=0:=by
  rw[List.getElem?_replicate];split<;>rfl
 unfold bB eI;omega
theorem Lb{f:Func}{h:Int}(h0:0<=h∧h<f.blocks.length){src:List Int}(hs:∀k∈src,0<=k∧k<f.blocks.length):tg f h src ⟨src,[h]⟩ where
 head:=rfl
 nd:=by simp
 rC:=fun k hk=>by
  simp only[List.mem_singleton]at hk;rw[hk];exact h0
 rn:=fun k hk=>by
  simp only[List.mem_singleton]at hk;exact .inl hk
 wk:=hs
 ind:=fun P h1 _=>⟨fun k hk bD=>by
  simp only[List.mem_singleton]at hk;exact absurd hk bD,h1⟩
 cl:=fun k hk bD=>by
  simp only[List.mem_singleton]at hk;exact absurd hk bD
 src:=fun k hk _=>.inr hk
theorem lJ{l:List Int}{k:Int}(h:l.getLast?=some k):l=l.dropLast++[k]:=by
 have bD:l≠[]:=fun e=>by rw[e]at h;cases h
 rw[List.getLast?_eq_some_getLast bD]at h;simp only[Option.some.injEq]at h;rw[<-h,List.dropLast_concat_getLast]
theorem sy{f:Func}(hg:fv f){h:Int}{src:List Int}{S:Wl}(hS:tg f h src S):tg f h src (oE f S):=by
 unfold oE;cases hk:S.work.getLast? with
 | none=>exact hS
 | some k =>
  have he:=lJ hk;have qu:k∈S.work:=by rw[he];simp
  simp only;split
  ·rename_i hc;have Qi:=hS.wk k qu;have sN:∀x,x∈S.all++[k]↔x∈S.all∨x=k:=fun x=>by simp
   exact {
    head:=by
     rw[List.getElem?_append_left (I hS.head)];exact hS.head
    nd:=by
     rw[List.nodup_append];refine⟨hS.nd,by simp,fun a ha b hb e=>?_⟩;simp only[List.mem_singleton]at hb;exact hc.2 (hb ▸ e ▸ ha)
    rC:=fun x hx=>by
     rcases(sN x).1 hx with q|q
     ·exact hS.rC x q
     rw[q];exact Qi
    rn:=fun x hx=>by
     rcases(sN x).1 hx with q|q
     ·exact hS.rn x q
     rw[q];exact .inr (cD.1 hc.1)
    wk:=fun x hx=>by
     rcases List.mem_append.1 hx with q|q
     ·exact hS.wk x (List.dropLast_subset _ q)
     exact(kz hg Qi.1 q).1
    ind:=fun P h1 h2=>by
     obtain⟨i1,i2⟩:=hS.ind P h1 (fun x hx=>h2 x ((sN x).2 (.inl hx)));have XO:=i2 k qu;refine⟨fun x hx bD=>?_,fun x hx=>?_⟩
     ·rcases(sN x).1 hx with q|q
      ·exact i1 x q bD
      rw[q];exact XO
     rcases List.mem_append.1 hx with q|q
     ·exact i2 x (List.dropLast_subset _ q)
     by_cases e:k=h
     ·exact absurd (e ▸ List.mem_of_getElem? hS.head) hc.2
     exact h2 k ((sN k).2 (.inr rfl)) e XO x q
    cl:=fun x hx bD p hp hr=>by
     rcases(sN x).1 hx with q|q
     ·rcases hS.cl x q bD p hp hr with r|r
      ·exact .inl ((sN p).2 (.inl r))
      rw[he]at r;rcases List.mem_append.1 r with r|r
      ·exact .inr (List.mem_append_left _ r)
      exact .inl ((sN p).2 (.inr (by simpa using r)))
     rw[q]at hp;exact .inr (List.mem_append_right _ hp)
    src:=fun x hx hr=>by
     rcases hS.src x hx hr with r|r
     ·exact .inl ((sN x).2 (.inl r))
     rw[he]at r;rcases List.mem_append.1 r with r|r
     ·exact .inr (List.mem_append_left _ r)
     exact .inl ((sN x).2 (.inr (by simpa using r))) }
  rename_i hc;have AY:∀p,p∈S.all∨p∈S.work->0<=cP f p->p∈S.all∨p∈S.work.dropLast:=fun p hp hr=>by
   rcases hp with q|q
   ·exact .inl q
   rw[he]at q;rcases List.mem_append.1 q with q|q
   ·exact .inr q
   simp only[List.mem_singleton]at q;subst q;exact .inl (Classical.byContradiction fun z=>hc ⟨cD.2 hr,z⟩)
  exact {
   head:=hS.head
   nd:=hS.nd
   rC:=hS.rC
   rn:=hS.rn
   wk:=fun x hx=>hS.wk x (List.dropLast_subset _ hx)
   ind:=fun P h1 h2=>⟨(hS.ind P h1 h2).1,fun x hx=>(hS.ind P h1 h2).2 x (List.dropLast_subset _ hx)⟩
   cl:=fun x hx bD p hp hr=>AY p (hS.cl x hx bD p hp hr) hr
   src:=fun x hx hr=>AY x (hS.src x hx hr) hr }
theorem pF{f:Func}(hg:fv f){h:Int}{src:List Int}{S:Wl}(hS:tg f h src S)(hw:S.work≠[]):(oE f S).weight f<S.weight f:=by
 have ka:=(sy hg hS).few;unfold oE at ka ⊢;cases hk:S.work.getLast? with
 | none=>exact absurd (List.getLast?_eq_none_iff.1 hk) hw
 | some k =>
  have he:=congrArg List.length (lJ hk);have hp:=x7 hg k;rw[hk]at ka;simp only[List.length_append,List.length_singleton]at he;simp only at ka ⊢;split
  ·rename_i hc;rw[if_pos hc]at ka;simp only[Wl.weight,List.length_append,List.length_singleton]at ka ⊢;omega
  simp only[Wl.weight];omega
def oD(f:Func):Nat->Wl->Wl
 | 0,S=>S
 | n+1,S=>if S.work.isEmpty then S else oD f n (oE f S)
theorem K'{f:Func}(hg:fv f){h:Int}{src:List Int}(n:Nat):∀(S:Wl),tg f h src S->S.weight f<n->tg f h src (oD f n S)∧(oD f n S).work=[]:=by
 induction n with
 | zero=>exact fun S _ hn=>absurd hn (Nat.not_lt_zero _)
 | succ n ih =>
  intro S hS hn;simp only[oD];split
  ·rename_i e;exact⟨hS,by simpa using e⟩
  rename_i e;have a8:=pF hg hS (by simpa using e);exact ih _ (sy hg hS) (Nat.lt_of_lt_of_le a8 (Nat.le_of_lt_succ hn))
theorem Em{f:Func}{S:Wl}(h:S.work=[])(n:Nat):oD f n S=S:=by
 cases n with
 | zero=>rfl
 | succ n=>simp[oD,h]
def kr(f:Func)(h:Int):List Int:=((dd f).filter fun p=>decide (p.2=h)).map (·.1)
def nz(f:Func)(h:Int):List Int:=(oD f 10000000 ⟨kr f h,[h]⟩).all
theorem kv{f:Func}{k h:Int}:(k,h)∈dd f↔0<=cP f k∧(∃x∈eA f k,x.block=h)∧ph (dn f) h k=true:=by
 unfold dd sE;simp only[List.mem_flatMap,List.mem_map,List.mem_filter,cD,Prod.mk.injEq];constructor
 ·rintro⟨z,hz,x,⟨hx,ha⟩,e1,e2⟩;subst e1;subst e2;exact⟨hz,⟨x,hx,rfl⟩,ha⟩
 rintro⟨hz,⟨x,hx,e⟩,ha⟩;subst e;exact⟨k,hz,x,⟨hx,ha⟩,rfl,rfl⟩
theorem jB{f:Func}{k h:Int}:k∈kr f h↔0<=cP f k∧(∃x∈eA f k,x.block=h)∧ph (dn f) h k=true:=by
 rw[<-kv];unfold kr;simp only[List.mem_map,List.mem_filter,decide_eq_true_eq];constructor
 ·rintro⟨⟨a,b⟩,⟨h1,h2⟩,h3⟩;simp only at h2 h3;subst h2;subst h3;exact h1
 intro h1;exact⟨(k,h),⟨h1,rfl⟩,rfl⟩
theorem oK{f:Func}(hg:fv f):(dd f).length<=33000:=by
 have h1:∀l:List Int,(∀k∈l,0<=cP f k)->(l.flatMap (sE f)).length<=l.length*257:=by
  intro l;induction l with
  | nil=>simp
  | cons a r ih =>
   intro hl;have h2:=ih fun k hk=>hl k (List.mem_cons_of_mem _ hk);have hr:=(cE hg).range a (hl a List.mem_cons_self);have h3:(sE f a).length<=257:=by
    have hb:f.blocks[a.toNat]?=some (f.blocks[a.toNat]'(by omega)):=List.getElem?_eq_getElem _;have h4:(eA f a).length<=257:=by
     unfold eA aY;rw[hb];exact hg.to _ (List.mem_of_getElem? hb)
    unfold sE;rw[List.length_map];exact Nat.le_trans (List.length_filter_le _ _) h4
   simp only[List.flatMap_cons,List.length_append,List.length_cons];omega
 have h5:=h1 (dw f) fun k hk=>cD.1 hk;have h6:=ru f;have h7:=(cE hg).few;unfold dd;omega
theorem Fy{f:Func}(hg:fv f)(h:Int):(kr f h).length<=33000:=by
 unfold kr;rw[List.length_map];exact Nat.le_trans (List.length_filter_le _ _) (oK hg)
structure Vh(f:Func)(h:Int):Prop where
 head:(nz f h)[0]?=some h
 nd:(nz f h).Nodup
 rC:∀k∈nz f h,0<=k∧k<f.blocks.length
 rn:∀k∈nz f h,k=h∨0<=cP f k
 ind:∀P:Int->Prop,(∀k∈kr f h,P k)->(∀k,k∈nz f h->k≠h->P k->∀p∈bB f k,P p)->∀k∈nz f h,k≠h->P k
 cl:∀k∈nz f h,k≠h->∀p∈bB f k,0<=cP f p->p∈nz f h
 src:∀k∈kr f h,k∈nz f h
theorem xN{f:Func}(hg:fv f){h:Int}(h0:0<=h∧h<f.blocks.length):tg f h (kr f h) ⟨kr f h,[h]⟩∧(⟨kr f h,[h]⟩:Wl).weight f<10000000:=by
 refine⟨Lb h0 fun k hk=>(cE hg).range k (jB.1 hk).1,?_⟩;have h1:=Fy hg h;have h2:=hg.few;simp only[Wl.weight,List.length_singleton];omega
theorem va{f:Func}(hg:fv f){h:Int}(h0:0<=h∧h<f.blocks.length):Vh f h:=by
 obtain⟨s1,s2⟩:=xN hg h0;obtain⟨r1,r2⟩:=K' hg 10000000 _ s1 s2;exact {
  head:=r1.head
  nd:=r1.nd
  rC:=r1.rC
  rn:=r1.rn
  ind:=fun P h1 h2=>(r1.ind P h1 h2).1
  cl:=fun k hk bD p hp hr=>by
   rcases r1.cl k hk bD p hp hr with q|q
   ·exact q
   rw[r2]at q;cases q
  src:=fun k hk=>by
   rcases r1.src k hk (jB.1 hk).1 with q|q
   ·exact q
   rw[r2]at q;cases q }
theorem MQ{f:Func}(hg:fv f){h:Int}(h0:0<=h∧h<f.blocks.length){k:Int}(hk:k∈nz f h):gB (dn f) h k:=by
 have hw:=cE hg;have ht:=kg hg;by_cases e:k=h
 ·rw[e];exact .refl
 refine((va hg h0).ind (fun k=>0<=cP f k->gB (dn f) h k) (fun s hs _=>?_) (fun x hx bD hP p hp hr=>?_) k hk e) (((va hg h0).rn k hk).resolve_left e)
 ·have:=jB.1 hs;exact(iy hw ht.tr (ht.v8 hw this.1)).1 this.2.2
 have Ju:=((va hg h0).rn x hx).resolve_left bD;have qZ:=hP Ju;have EY:1<=cP f x:=by
  refine Classical.byContradiction fun q=>?_;have Dr:x=0:=hw.inj x 0 Ju (by rw[hw.zero];omega);subst Dr;cases qZ with
  | refl=>exact bD rfl
  | up q _=>rw[ht.tr.root]at q;omega
 exact uc hg EY hp hr qZ (Ne.symm bD)
theorem MR{f:Func}(hg:fv f){h s:Int}(hs:s∈kr f h):0<=cP f h:=by
 have hw:=cE hg;have:=jB.1 hs;obtain⟨x,hx,e⟩:=this.2.1;exact hw.next s h this.1 ⟨x,hx,e⟩
structure bd where
 head:Int
 blocks:List Int
 parent:Int
abbrev bd.cells(x:bd):List ae:=[aI x.head,a7 x.blocks,aI x.parent]
def kp(l:List bd):List ae:=l.flatMap bd.cells
theorem E'(a b:List bd):kp (a++b)=kp a++kp b:=by simp[kp]
theorem oY(l:List bd):(kp l).length=l.length*3:=by
 induction l with
 | nil=>rfl
 | cons x r ih =>
  have:kp (x::r)=x.cells++kp r:=rfl;rw[this,List.length_append,ih];simp only[bd.cells,List.length_cons,List.length_nil];omega
theorem sc{l:List bd}{i:Nat}{x:bd}(h:l[i]?=some x):kp l=kp (l.take i)++(x.cells++kp (l.drop (i+1)))∧(kp (l.take i)).length=i*3:=by
 have hi:=I h;refine⟨?_,by rw[oY,List.length_take];omega⟩;have e:l=l.take i++x::l.drop (i+1):=by
  rw[<-bA h,List.take_append_drop]
 have e2:kp (x::l.drop (i+1))=x.cells++kp (l.drop (i+1)):=rfl;rw[<-e2,<-E',<-e]
theorem DF{l:List bd}{i:Nat}{x:bd}(h:l[i]?=some x):(kp l)[i*3]?=some (aI x.head)∧(kp l)[i*3+1]?=some (a7 x.blocks)∧(kp l)[i*3+2]?=some (aI x.parent)∧((kp l).drop (i*3)).take 3=x.cells:=by
 obtain⟨h1,h2⟩:=sc h;rw[h1];refine⟨?_,?_,?_,?_⟩
 ·rw[List.getElem?_append_right (by omega),h2,Nat.sub_self];rfl
 ·rw[List.getElem?_append_right (by omega),h2,show i*3+1-i*3=1 by omega];rfl
 ·rw[List.getElem?_append_right (by omega),h2,show i*3+2-i*3=2 by omega];rfl
 rw[List.drop_left' h2];rfl
theorem MP{l:List bd}{i:Nat}{x:bd}(h:l[i]?=some x)(k:Int):bp (kp l) (i*3+2) [.v (.int .i64 k)]=kp (l.set i ⟨x.head,x.blocks,k⟩):=by
 have hi:=I h;obtain⟨h1,h2⟩:=sc h;have h3:(l.set i ⟨x.head,x.blocks,k⟩)[i]?=some ⟨x.head,x.blocks,k⟩:=List.getElem?_set_self hi;obtain⟨h4,_⟩:=sc h3;rw[h4,List.take_set_of_le (Nat.le_refl _),List.drop_set_of_lt (by omega)];rw[fK _ (by rw[oY];omega),h1,List.set_append_right _ _ (by omega),h2,show i*3+2-i*3=2 by omega];rfl
theorem u7(n:Nat)(l:List bd):av n (kp l):=by
 rw[aQ];intro c hc;simp only[kp,List.mem_flatMap]at hc;obtain⟨x,_,hc⟩:=hc;simp only[bd.cells,List.mem_cons,List.not_mem_nil,or_false]at hc;rcases hc with rfl|rfl|rfl
 ·trivial
 ·exact⟨ax _ _,trivial⟩
 trivial
def mo(l:List bd)(i k:Nat):List bd :=
 match l[i]?,l[k]? with
 | some a,some b=>if k=i∨gj b.blocks a.head=false then l else
   if a.parent<0∨b.blocks.length<((l[a.parent.toNat]?.map fun y=>y.blocks.length).getD 0)then l.set i ⟨a.head,a.blocks,k⟩else l
 | _,_=>l
def xO(i:Nat):Nat->Nat->List bd->List bd
 | 0,_,l=>l
 | m+1,k,l=>xO i m (k+1) (mo l i k)
def Bm(n:Nat):Nat->Nat->List bd->List bd
 | 0,_,l=>l
 | m+1,i,l=>Bm n m (i+1) (xO i n 0 l)
def og(l:List bd):List bd:=Bm l.length l.length 0 l
def ix(l m:List bd):Prop:=m.map (fun x=>(x.head,x.blocks))=l.map (fun x=>(x.head,x.blocks))∧∀x∈m,-1<=x.parent∧x.parent<l.length
theorem ix.len{l m:List bd}(h:ix l m):m.length=l.length:=by
 have:=congrArg List.length h.1;simpa using this
theorem sY{l m:List bd}(h:ix l m)(i k:Nat)(hk:k<l.length):ix l (mo m i k):=by
 unfold mo;cases hi:m[i]? with
 | none=>exact h
 | some a =>
  cases hb:m[k]? with
  | none=>exact h
  | some b =>
   simp only;split
   ·exact h
   split
   ·refine⟨?_,fun x hx=>?_⟩
    ·rw[List.map_set,<-h.1];refine List.ext_getElem? fun j=>?_;rw[List.getElem?_set];split
     ·rename_i e;subst e;have:=I hi;rw[if_pos (by simpa using this),List.getElem?_map,hi];rfl
     rfl
    rcases List.mem_or_eq_of_mem_set hx with q|q
    ·exact h.2 x q
    rw[q];simp only;omega
   exact h
theorem vb{l:List bd}(i:Nat):∀(m k:Nat) {x:List bd},ix l x->m+k<=l.length->ix l (xO i m k x)
 | 0,_,_,h,_=>h
 | m+1,k,_,h,hk=>vb i m (k+1) (sY h i k (by omega)) (by omega)
theorem Bn{l:List bd}:∀(m i:Nat) {x:List bd},ix l x->ix l (Bm l.length m i x)
 | 0,_,_,h=>h
 | m+1,i,_,h=>Bn m (i+1) (vb i l.length 0 h (by omega))
theorem Bo{l:List bd}(h:∀x∈l,x.parent=-1):ix l (og l):=Bn l.length 0 ⟨rfl,fun x hx=>by
 have:=h x hx;omega⟩
def zm(f:Func)(h:Nat):List bd:=if kr f h=[]then []else [⟨h,gR (nz f h),-1⟩]
def vv(f:Func):List bd:=(List.range f.blocks.length).flatMap (zm f)
def gk(f:Func):List bd:=og (vv f)
def iE(x:bd):ae:=.agg x.cells
def sg(oid:Nat)(l:List bd):ae:=if l=[]then .aB 3 [] .ex else .os oid l.length 3
theorem xS(n:Nat)(l:List bd)(x:bd):sg n (l++[x])=.os n (l.length+1) 3:=by
 have:l++[x]≠[]:=by simp
 rw[sg,if_neg this,List.length_append];rfl
structure FO(acc:List bd)(oid:Nat)(O:List ai):Prop where
 up:∀o∈O,o.upto O.length
 out:acc≠[]->O[oid]?=some (.cells (kp acc))
theorem FO.push{acc:List bd}{oid:Nat}{O:List ai}(h:FO acc oid O){cs:List ae}(hc:av (O.length+1) cs):FO acc oid (O++[.cells cs]) where
 up:=by
  rw[List.length_append,List.length_singleton];exact fL (fun o ho=>ai.bK (by omega) (h.up o ho)) hc
 out:=fun q=>bS (h.out q)
theorem FO.move{acc:List bd}{oid:Nat}{O:List ai}(h:FO acc oid O){wid:Nat}(hw:acc≠[]->wid≠oid){cs:List ae}(hc:av (O.length+1) cs):FO acc oid (O.set wid .gone++[.cells cs]) where
 up:=by
  rw[List.length_append,List.length_set,List.length_singleton];exact fL (bg (fun o ho=>ai.bK (by omega) (h.up o ho)) trivial) hc
 out:=fun q=>bS (aW (h.out q) (hw q))
theorem FO.set{acc:List bd}{oid:Nat}{O:List ai}(h:FO acc oid O){wid:Nat}(hw:acc≠[]->wid≠oid){x:ai}(hc:x.upto O.length):FO acc oid (O.set wid x) where
 up:=by
  rw[List.length_set];exact bg h.up hc
 out:=fun q=>aW (h.out q) (hw q)
theorem FO.Xi{acc:List bd}{oid:Nat}{O:List ai}(h:FO acc oid O):(sg oid acc).upto O.length:=by
 by_cases q:acc=[]
 ·rw[show sg oid acc=.aB 3 [] .ex from if_pos q];exact⟨trivial,trivial⟩
 rw[show sg oid acc=.os oid acc.length 3 from if_neg q];exact I (h.out q)
theorem F0(n:Nat)(l:List (List Int)):av n (l.map a7):=by
 rw[aQ];intro c hc;obtain⟨x,_,rfl⟩:=List.mem_map.1 hc;exact⟨ax _ _,trivial⟩
theorem Bg(l:List bd)(x:bd):kp (l++[x])=kp l++x.cells:=by
 rw[E'];simp[kp]
theorem GO(m:List bd):(kp m).map ae.bf=al (m.map iE):=by
 induction m with
 | nil=>rfl
 | cons x r ih =>
  have h1:kp (x::r)=x.cells++kp r:=rfl;have h2:al ((x::r).map iE)=x.cells++al (r.map iE):=rfl;rw[h1,h2,List.map_append,ih];rfl
theorem CV(n:Nat)(m:List bd):av n (m.map iE):=by
 rw[aQ];intro c hc;obtain⟨x,_,rfl⟩:=List.mem_map.1 hc;exact⟨trivial,⟨ax _ _,trivial⟩,trivial,trivial⟩
theorem La{f:Func}(hg:fv f){h:Int}(tE:kr f h≠[]){S:Wl}(hS:tg f h (kr f h) S){k:Int}(hk:k∈S.work)(hr:0<=cP f k):bB f k≠[]:=by
 have hw:=cE hg;have ht:=kg hg;obtain⟨s,hs⟩:=List.exists_mem_of_ne_nil _ tE;have Ym:=jB.1 hs;obtain⟨x,hx,xG⟩:=Ym.2.1;have hh1:1<=h:=by
  have A8:=hw.range s Ym.1;have hb:f.blocks[s.toNat]?=some (f.blocks[s.toNat]'(by omega)):=List.getElem?_eq_getElem _;have h2:=(hg.ee _ (List.mem_of_getElem? hb) x (by
   simp only[eA,aY,hb]at hx;exact hx)).1
  omega
 have hP:=(hS.ind (fun k=>0<=cP f k->gB (dn f) h k) (fun s hs _=>by
   have:=jB.1 hs;exact(iy hw ht.tr (ht.v8 hw this.1)).1 this.2.2) (fun x hx bD hP p hp kc=>by
   have Ju:=(hS.rn x hx).resolve_left bD;have qZ:=hP Ju;have EY:1<=cP f x:=by
    refine Classical.byContradiction fun q=>?_;have Dr:x=0:=hw.inj x 0 Ju (by rw[hw.zero];omega);subst Dr;cases qZ with
    | refl=>exact bD rfl
    | up q _=>rw[ht.tr.root]at q;omega
   exact uc hg EY hp kc qZ (Ne.symm bD))).2 k hk hr
 have Ll:1<=cP f k:=by
  refine Classical.byContradiction fun q=>?_;have HD:k=0:=hw.inj k 0 hr (by rw[hw.zero];omega);subst HD;cases hP with
  | refl=>omega
  | up q _=>rw[ht.tr.root]at q;omega
 obtain⟨p,hp,B6,_⟩:=hw.fwd k Ll;have:=rZ (hw.range p B6) (hw.range k hr) hp;exact List.ne_nil_of_mem this
theorem Eb{f:Func}{h:Int}{z:Nat}{p:Int×Int}(hp:(dd f)[z]?=some p):((((dd f).drop z).filter fun p=>decide (p.2=h)).map (·.1))=(if p.2=h then [p.1]else [])++((((dd f).drop (z+1)).filter fun p=>decide (p.2=h)).map (·.1)):=by
 rw[bA hp,List.filter_cons];by_cases e:p.2=h
 ·simp[e]
 simp[e]
end Go.Proofs.YtjdnhamngpafmaaGreat
namespace Go.Av
def On(P:Program)(o:Oper)(pv:St)(R:ae->List ai->Prop):Prop :=
 ∀(base:G) (σ:St) (a:Act) (g:G),Rel base σ a g->σ.n=pv.n->(∀x∈o.op.operands,∀y,pv.ev x=some y->σ.ev x=some y)->σ.objs=pv.objs ->
  ∀(K:Act->World->Prop) (Q:Exit->Act->World->Prop),(∀r u g',R r g'.objs->Rel base ⟨σ.n,pq o.dst r σ.bn,g'.objs⟩ (a.put o.dst u) g'->K (a.put o.dst u) g'.w)->o.wp P a g.w K Q
theorem ll{P:Program}{o:Oper}{σ:St}{x:Operand}{args:Array Operand}{rL:Array TypeId}{f:FuncId}{fs cs dE:List ae}{R:ae->List ai->Prop}
  (ho:o.op=.call ⟨.value x,args,rL⟩) (hd:∀d,o.dst=some d->d<σ.n) (hx:σ.ev x=some (.fn (.func f) fs cs)) (ha:σ.AM args.toList=some dE)
  (eC:bh P f σ.objs (fs++dE++cs) R):On P o σ R:=by
 intro base τ a g bH hn nh hm K Q hK;have xG:σ.ev x=some (.fn (.func f) fs cs):=hx;have h1:=bH.eval (nh x (by simp[ho,Op.operands,Call.operands]) _ hx);obtain⟨us,vs,e1,l1,l2,r1,r2⟩:=h1.IQ;have h2:=qS (σ:=σ) (a:=a) (g:=g) (xs:=args.toList) (fun z hz y hy=>bH.eval (nh z (by
  rw[ho];simp only[Op.operands,Call.operands,Array.mem_append];exact .inr (Array.mem_toList_iff.1 hz)) y hy)) ha
 have IU:iW g dE (args.map a.eval):=by
  have e:args.map a.eval=(args.toList.map a.eval).toArray:=Array.ext' (by rw[Array.toList_map]);rw[e];exact h2
 have cB:=(iW.mE (iW.mE ⟨l1,r1⟩ IU) ⟨l2,r2⟩)
 have bI:=yb (P:=P) (w:=g.w) ho e1 eC.1;unfold Oper.wp;rw[bI,Oper.upon_enter];refine(eC.2 g _ bH.good (bH.objs.trans hm) cB).mono ?_;rintro e w' ⟨g',v,r',q1,q2,q3,q4,q5,q6⟩;subst q1;subst q2;refine hK r' v g' q6 ?_;cases jL:o.dst with
 | none=>exact bH.step q3 q4
 | some d=>exact bH.put q3 q4 (d:=d) (by rw[hn];exact hd d jL) q5
theorem gZ{P:Program}{ops:Array Oper}{base:G}{ρ:St}{Q:Exit->Act->World->Prop}{rest:List Nat}(hQ:∀a g,Rel base ρ a g->wpOps P ops Q rest a g.w) :
  ∀(l:List (Nat×Kind)) (σ:St) (a:Act) (g:G),eJ P ops l σ ρ->Rel base σ a g->wpOps P ops Q (l.map (·.1)++rest) a g.w
 | [],σ,a,g,qt,bH=>hQ a g (gK.rel qt bH)
 | (i,k)::r,σ,a,g,qt,bH=>by
  obtain⟨fN,⟨o,ho,bG⟩,fe⟩:=qt;simp only[List.map_cons,List.cons_append,wpOps,ho];rcases bG with⟨hw,r',m,AZ,hk,Jx⟩|⟨hw,_,Jx⟩
  ·rw[if_pos (fM bH hw)];refine .inl (AZ.2 base σ a g bH rfl (fun x _ y hy=>hy) (Mode.qA (.inr rfl)) _ _ fun u g' pz=>?_);subst Jx;exact gZ hQ r _ _ _ fe pz
  rw[if_neg (by rw[fM bH hw];simp)];subst Jx;refine gZ hQ r _ _ g fe ?_;cases jL:o.dst with
  | none=>exact bH
  | some d=>exact bH.skip d
theorem E3(ks:List Kind)(s:Nat):(((ks.zipIdx 0).map fun p=>(p.2,p.1)).map fun p=>(s+p.1,p.2)).map (·.1)=(List.range ks.length).map (s + ·):=by
 apply List.ext_getElem?;intro i;simp only[List.getElem?_map,List.getElem?_zipIdx];by_cases h:i<ks.length
 ·simp[h]
 rw[List.getElem?_eq_none (by omega),List.getElem?_eq_none (by simp;omega)];rfl
theorem G9{n k:Nat}(h:k<n):List.range n=(List.range k).map (0 + ·)++(k::(List.range (n-(k+1))).map (k+1 + ·)):=by
 apply List.ext_getElem?;intro i;by_cases h1:i<k
 ·rw[List.getElem?_append_left (by simpa using h1)];simp[h1,show i<n by omega]
 rw[List.getElem?_append_right (by simp;omega)];simp only[List.length_map,List.length_range];by_cases h2:i=k
 ·subst h2;simp[h]
 rw[show i-k=(i-k-1)+1 by omega,List.getElem?_cons_succ,List.getElem?_map];by_cases h3:i<n
 ·rw[List.getElem?_range h3,List.getElem?_range (by omega),Option.map_some];congr 1;omega
 rw[List.getElem?_eq_none (by simp;omega),List.getElem?_eq_none (by simp;omega)];rfl
theorem lg{P:Program}{kb:Nat}{aT:eh}(md:Md)(hT:b7 P aT){id:Nat}{l l1 l2:List Oper}{o:Oper}{Q:dR->St->Prop}{σ:St}(k:Nat)(h1:l.take k=l1)(h2:l[k]?=some o)(h3:l.drop (k+1)=l2)(hg:∀o∈l,o.guard=none)
  (h:fq P aT md l1 0 [] σ [] fun τ _=>∃R,On P o τ R∧∀r O',R r O'->fq P aT md l2 0 [] ⟨τ.n,pq o.dst r τ.bn,O'⟩ [] fun ρ _=>At ρ (Q .norm)):cn P kb (.region id l.toArray false) Q σ:=by
 have a8:=I h2;obtain⟨τ,xJ,c1,n1,R,hc,h⟩:=dW (all:=l1.toArray) hT l1 0 [] σ [] (fun j=>by simp) (fun j t hj=>by simp[iR]at hj) h;intro base a g hb hr;have zX:o.guard=none:=hg o (List.mem_of_getElem? h2);have Xg:l1.length=k:=by rw[<-h1,List.length_take];omega
 have YI:l2.length=l.length-(k+1):=by rw[<-h3,List.length_drop]
 have d1:=jJ (all:=l.toArray) (k:=0) (fun i o' hi=>by
  have ia:l1[i]?=some o':=by simpa using hi
  have:=I ia;rw[<-h1,List.getElem?_take]at ia;split at ia
  ·simpa using ia
  cases ia) (by simpa using hg) c1
 refine wp_region ?_;rw[show l.toArray.size=l.length from List.size_toArray,G9 a8];have e1:=E3 xJ 0;rw[n1,Xg]at e1;rw[<-e1];refine gZ (ρ:=τ) (fun a g hr=>?_) _ _ _ _ d1 hr;have ho:l.toArray[k]?=some o:=by simpa using h2
 simp only[wpOps,ho];have hw:cX l.toArray o τ=some true:=by simp[cX,zX]
 rw[if_pos (fM hr hw)];refine .inl (hc base τ a g hr rfl (fun x _ y hy=>hy) rfl _ _ fun r u g' hR pz=>?_);obtain⟨ρ,Pp,c2,n2,hQ⟩:=dW (all:=l2.toArray) hT l2 0 [] _ [] (fun j=>by simp) (fun j t hj=>by simp[iR]at hj) (h r g'.objs hR);have d2:=jJ (all:=l.toArray) (k:=k+1) (fun i o' hi=>by
  have ia:l2[i]?=some o':=by simpa using hi
  rw[<-h3,List.getElem?_drop]at ia;simpa using ia) (by simpa using hg) c2
 have e2:=E3 Pp (k+1);rw[n2,YI]at e2;rw[<-e2];have:=gZ (rest:=[]) (Q:=PA base Q) (P:=P) (ops:=l.toArray) (base:=base) (ρ:=ρ) (fun a g hr=>⟨g,ρ,rfl,hr,hQ⟩) _ _ _ _ d2 pz;rw[List.append_nil]at this;exact this
def rN(aT:eh)(rv:List ResultVar)(R:ae->List ai->Prop):dR->St->Prop
 | .exit _,_=>False
 | _,σ=>on (en aT σ rv) fun rs=>R (gE rs) σ.objs
theorem oN{P:Program}{aT:eh}(hT:b7 P aT){f:FuncId}{fn:Func}{c:Code}{O:List ai}{args:List ae}{R:ae->List ai->Prop}(hf:P.funcs[f]?=some fn)(hb:fn.body=some c)
  (uW : (fn.name == "runtime.NumGoroutine") = false) (hn : args.length <= fn.ntmps) (h : cn P O.length c (rN aT fn.results.toList R) ⟨fn.ntmps, slotsOf 0 args, O⟩) : bh P f O args R := by
 refine⟨⟨fn,hf,uW,by simp[hb]⟩,fun g vs hg ho ha=>?_⟩;refine calls_of_wp hf hb ?_;have bH:Rel g ⟨fn.ntmps,slotsOf 0 args,O⟩ { tmps:=vs++Array.replicate (fn.ntmps-vs.size) undef,defers:=[] } g:={
  le:=Le.refl g
  good:=hg
  objs:=ho
  size:=by
   have:=ha.1;simp only[Array.size_append,Array.size_replicate];omega
  defers:=rfl
  slot:=fun s x hx=>by
   obtain⟨_,h1⟩:=mS args 0 s x hx;simp only[Nat.sub_zero]at h1;have a8:=I h1;have j':s<vs.size:=by rw[ha.1];exact a8
   refine⟨vs[s],?_,ha.2 s x _ h1 (by simp[j'])⟩;simp only;rw[Array.getElem?_append,if_pos j'];simp[j'] }
 refine wp_mono (h g _ g (by rw[ho];exact Nat.le_refl _) bH) fun e a w hp=>?_;have key:∀g' fN,g'.w=w->Rel g fN a g'->(on (en aT fN fn.results.toList) fun rs=>R (Av.gE rs) fN.objs) ->
   a.defers=[]∧∃v,(results fn a.tmps).run P w=.ok v w∧∃g' v' r,Ending.returned v=.returned v'∧g'.w=w∧Le g g'∧Good g'∧RV g' r v'∧R r g'.objs:=by
  intro g' fN hw hr hq;subst hw;obtain⟨rs,xD,h4⟩:=aE hq;obtain⟨us,q1,q2⟩:=mZ hT hr xD;have hO:g'.objs=fN.objs:=hr.objs;refine⟨hr.defers,(if h:us.toArray.size=1 then us.toArray[0]else .tuple us.toArray),?_,g',_,_,rfl,rfl,hr.le,hr.good,RV.gE q2,by rw[hO];exact h4⟩;have hm:fn.results.mapM (kR a)=Functor.map List.toArray (fn.results.toList.mapM (kR a)):=Array.mapM_eq_mapM_toList;have dZ:results fn a.tmps=(do
   let vs <-fn.results.mapM (kR a)
   pure (if h:vs.size=1 then vs[0]else .tuple vs)):=rfl
  rw[dZ,hm];simp only[Sem.run_bind,Sem.run_map,q1,Result.andThen_ok,Sem.run_pure]
 cases e with
 | normal =>
  obtain⟨g',fN,h1,h2,h3⟩:=hp;exact key g' fN h1 h2 h3
 | ret =>
  obtain⟨g',fN,h1,h2,h3⟩:=hp;exact key g' fN h1 h2 h3
 | exit id =>
  obtain⟨g',fN,h1,h2,h3⟩:=hp;exact h3.elim
 | goto l=>exact hp.elim
 | panic c=>exact hp.elim
 | outgrown=>exact hp.elim
theorem HV{P:Program}{kb:Nat}{c:Code}{Q:dR->St->Prop}{n:Nat}{bn:List (Nat×ae)}{O:List ai}(s:Nat){sz:Nat}{xs:List ae}{o:nH}(hs:look bn s=some (.aB sz xs o))
  (h1:xs=[]->cn P kb c Q ⟨n,bt s (.v (.slice none 0 0)) bn,O⟩) (h2:cn P kb c Q ⟨n,bt s (.aB sz xs .nn) bn,O⟩):cn P kb c Q ⟨n,bn,O⟩:=by
 intro base a g hb hr;obtain⟨u,e1,e2⟩:=hr.slot s _ hs;have key:∀y,RV g y u->Rel base ⟨n,bt s y bn,O⟩ a g:=fun y hy =>
  {le:=hr.le,good:=hr.good,objs:=hr.objs,size:=hr.size,defers:=hr.defers,slot:=fun k x hx=>by
    simp only[St.get,fT]at hx;split at hx
    ·rename_i e;subst e;simp only[Option.some.injEq]at hx;subst hx;exact⟨u,e1,hy⟩
    exact hr.slot k x hx }
 cases e2 with
 | nil ho hn=>exact h1 rfl base a g hb (key _ (.v trivial))
 | aB cM dk cL cv hs f hm hr ho=>exact h2 base a g hb (key _ (.aB cM dk cL cv hs f hm hr trivial))
theorem sD{P:Program}{kb:Nat}{c:Code}{Q:dR->St->Prop}{n:Nat}{bn:List (Nat×ae)}{O:List ai}(k:Nat){cs:List ae}(ds:List ae)(ka:O[k]?=some (.cells cs))(hl:ds.length=cs.length)(dk:∀d∈ds,d.scalar)
  (hs:∀(j:Nat) (c d:ae),cs[j]?=some c->ds[j]?=some d->Sub O c d) (h:cn P kb c Q ⟨n,bn,O.set k (.cells ds)⟩):cn P kb c Q ⟨n,bn,O⟩ :=
 cn.weaken h fun base a g hb hr=>by
  have hO:g.objs=O:=hr.objs;have TW:g.objs[k]?=some (.cells cs):=by rw[hO];exact ka
  obtain⟨l,arr,t,e1,e2,e3,e4,e5,e6⟩:=hr.good.cells k cs TW;have ht:lb g k (.cells cs) (some l) (.cells ds) g.w:={
   obj:=TW
   os:=rfl
   tape:=rfl
   output:=rfl
   size:=Nat.le_refl _
   block:=fun _ _ _=>rfl
   cell:=fun b off x hx _=>hx
   place:=fun l1 h1 _=>by
    simp only[Option.some.injEq]at h1;subst h1;exact .inr ⟨l,e1,trivial,rfl,Nat.le_refl _⟩
   spare:=fun m h=>by cases h
   plain:=fun _=>⟨by simp[ai.aD],e1⟩
   gone:=by simp }
  have hle:=Le.bw hr.good ht;have dg:=Good.bw hr.good ht ⟨l,arr,t,rfl,e2,e3,by omega,fun j d u hd hu=>by
   have a8:=I hd;have hc:cs[j]?=some cs[j]:=List.getElem?_eq_getElem (by omega);exact(hs j _ d hc hd g u hO (e5 j _ u hc hu)).mono hle,dk,e6.2⟩ (fun l1 h1 _=>by
    simp only[Option.some.injEq]at h1;subst h1;exact aX e3)
  refine⟨g.bw k (some l) (.cells ds) g.w,rfl,{ le:=hr.le.trans hle,good:=dg,objs:=by simp[G.bw,hO],size:=hr.size,defers:=hr.defers,slot:=fun s y hy=>?_ }⟩;have Cb:(St.mk n bn O).get s=some y:=hy;obtain⟨u,h3,h4⟩:=hr.slot s y Cb;exact⟨u,h3,h4.mono hle⟩
theorem Sub.MS{O:List ai}(sz:Nat):Sub O (.v (.slice none 0 0)) (.aB sz [] .ex):=fun g u _ h=>by
 obtain⟨e,_⟩:=h.bX;rw[e];exact .nil (fun id q=>by cases q) (by simp)
end Go.Av
