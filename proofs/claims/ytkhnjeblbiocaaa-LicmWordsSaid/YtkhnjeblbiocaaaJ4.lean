/-
  Texts bound together by a program of mine: YtkhnjeblbiocaaaT20, YtkhnjeblbiocaaaT21, YtkhnjeblbiocaaaT22, YtkhnjeblbiocaaaPu, YtkhnjeblbiocaaaPv, YtkhnjeblbiocaaaPw, YtkhnjeblbiocaaaPx, YtkhnjeblbiocaaaT23, YtkhnjeblbiocaaaT37, YtkhnjeblbiocaaaT38.
-/
import Derived.Test.YtkhnjeblbiocaaaJ3
set_option linter.all false
set_option maxRecDepth 100000
set_option maxHeartbeats 4000000

namespace Go.Proofs.Ytkhnjeblbiocaaa
open Go.Av
theorem iX{cs xs:List ae}{n:Nat}(h:xs.length=n)(hc:cs.length=n):aS cs 0 xs=xs:=by
 simp[aS];omega
theorem pg{x:ae}(h:x.flat):x.cells.map ae.bk=x.share.cells:=by
 cases x<;>rfl
theorem fP(es:List (Int×SV))(k:Int):(iW es k).cells.map ae.bk=(cZ es k).enc.cells:=by
 rw[pg (iE es k),qF]
theorem zJ{u:bR}{m:Mach}{O:List ak}(bC:∀o∈O,o.upto O.length)(h0:O[2]?=some (.cells (aC u m)))(f:Fr)(hf:O[f.bP]?=some (.cells (aV f)))(hv:O[f.di]?=some (.map (.int .i64) (f.vals.map gi)))
  (hu:∀e∈f.vals,SV.bh O.length e.2) (pH:f.bP≠f.di) (t:Term) (hk:t.kind=4):bc Try.prog 72 O [.mp 2 0,.mp f.bP 0,t.enc] (fun r O'=>r=.df []∧O'=O.set 2 (.cells (aC u (m.stop t.n 0)))):=by
 have gK:=I hf;have FU:=I hv;have eK:=I h0;have dU:=hf;unfold aV at dU;have qy:(Option.map SV.enc (gq f.vals t.arg)).getD (.agg [aI 0,aI 0,.aE 4 [] .ex,.v (.pointer none)])=iW f.vals t.arg:=rfl;have sS:aS [ae.v (.int .i64 0),.v (.int .i64 0),.aE 4 [] .ex,.v (.pointer none)] 0 (iW f.vals t.arg).cells=(iW f.vals t.arg).cells:=iX (fu _ _) rfl;have iy:=fP f.vals t.arg;have sK:=(iv hu t.arg).aN;generalize cZ f.vals t.arg=V at *;rw[SV.fI]at sK;rw[SV.al]at iy;have iV:=ju bC h0 t.n 0;have fY:=bq bC h0 (ds:=aC u (m.stop t.n 0)) (fun h=>b9 h rfl);have iz:=cG (O:=O) (k:=2) (x:=.cells (aC u (m.stop t.n 0)));refine zf true O.length Try.func72 Try.ntmps72 ?_;dsimp only[Tmp,TypeId,ax];refine aA (ah ?_);refine aO 5 ([aI t.kind,aI t.arg,aI t.n,a6 t.cases,aJ t.to]) [(0,.mp 2 0),(1,.mp f.bP 0),(5,.ip none [aI t.kind,aI t.arg,aI t.n,a6 t.cases,aJ t.to])] rfl (by rfl) (by omega) (by simp[bu,a7,Go.Av.look]) ?_ ?_ ?_
 ·exact bC
 ·simp[ae.upto,aw,gK,eK,az,Edge.ai]
 refine aX ?_;simp -dsimp only[simprocAttr,↓aa,zp,dU,hv,kE,qy,iE,fu,sS];refine⟨cm [f.bP,f.di] O.length [.pure,.pure,.pure,.rd 0,.pure,.pure,.rd 1,.wr 2 [],.wr 3 [2]] (by simp[pH]) (by simp;omega) rfl rfl (by kernel_rfl),bd ?_⟩;simp -dsimp only[bX,ne_eq,Nat.reduceEqDiff,reduceCtorEq];refine aO 6 [aI V.kind,aI V.n,.aE 4 (V.list.map SV.enc) .sh,eP V.arr] [(0,.mp 2 0),(1,.mp f.bP 0),(5,.ip none [aI t.kind,aI t.arg,aI t.n,a6 t.cases,aJ t.to]),(6,.ip none [aI V.kind,aI V.n,.aE 4 (V.list.map SV.enc) .sh,eP V.arr])] rfl iy (by omega) (by simp[bu,a7,Go.Av.look]) bC ?_ ?_
 ·simp only[aw,ae.upto,true_and,and_true]at sK;simp[ae.upto,aw,gK,eK,az,Edge.ai,sK]
 refine aA (ah ?_);refine aj ?_;refine aA (ah ?_);apply aP rfl<;>intro h
 ·refine dc ?_;refine .inr (.inl ⟨_,_,iV,.inl (au (zj ?_))⟩)
  (refine bd ?_;simp -dsimp only[bX,ne_eq,Nat.reduceEqDiff,reduceCtorEq])
  skip
  simp -dsimp only[simprocAttr,↓aa,zp,zr,Try.results72,iz,List.length_set];exact⟨fY,trivial⟩
 exact af h (by omega)
theorem zI{u:bR}{m:Mach}{O:List ak}(bC:∀o∈O,o.upto O.length)(h0:O[2]?=some (.cells (aC u m)))(f:Fr)(hf:O[f.bP]?=some (.cells (aV f)))(hv:O[f.di]?=some (.map (.int .i64) (f.vals.map gi)))
  (hu:∀e∈f.vals,SV.bh O.length e.2) (pH:f.bP≠f.di) (t:Term) (hk:t.kind=1) (e:Edge) (he:t.to[0]?=some e) {O':List ak} (hC:bc Try.prog 92 O [.mp 2 0,.mp f.bP 0,e.enc] (fun r O1=>r=.df []∧O1=O')) (hlen:O.length=O'.length) (lG:∀o∈O',o.upto O'.length):bc Try.prog 72 O [.mp 2 0,.mp f.bP 0,t.enc] (fun r O1=>r=.df []∧O1=O'):=by
 have gK:=I hf;have FU:=I hv;have eK:=I h0;have dU:=hf;unfold aV at dU;have qy:(Option.map SV.enc (gq f.vals t.arg)).getD (.agg [aI 0,aI 0,.aE 4 [] .ex,.v (.pointer none)])=iW f.vals t.arg:=rfl;have sS:aS [ae.v (.int .i64 0),.v (.int .i64 0),.aE 4 [] .ex,.v (.pointer none)] 0 (iW f.vals t.arg).cells=(iW f.vals t.arg).cells:=iX (fu _ _) rfl;have iy:=fP f.vals t.arg;have sK:=(iv hu t.arg).aN;generalize cZ f.vals t.arg=V at *;rw[SV.fI]at sK;rw[SV.al]at iy;refine zf true O.length Try.func72 Try.ntmps72 ?_;dsimp only[Tmp,TypeId,ax];refine aA (ah ?_);refine aO 5 ([aI t.kind,aI t.arg,aI t.n,a6 t.cases,aJ t.to]) [(0,.mp 2 0),(1,.mp f.bP 0),(5,.ip none [aI t.kind,aI t.arg,aI t.n,a6 t.cases,aJ t.to])] rfl (by rfl) (by omega) (by simp[bu,a7,Go.Av.look]) ?_ ?_ ?_
 ·exact bC
 ·simp[ae.upto,aw,gK,eK,az,Edge.ai]
 refine aX ?_;simp -dsimp only[simprocAttr,↓aa,zp,dU,hv,kE,qy,iE,fu,sS];refine⟨cm [f.bP,f.di] O.length [.pure,.pure,.pure,.rd 0,.pure,.pure,.rd 1,.wr 2 [],.wr 3 [2]] (by simp[pH]) (by simp;omega) rfl rfl (by kernel_rfl),bd ?_⟩;simp -dsimp only[bX,ne_eq,Nat.reduceEqDiff,reduceCtorEq];refine aO 6 [aI V.kind,aI V.n,.aE 4 (V.list.map SV.enc) .sh,eP V.arr] [(0,.mp 2 0),(1,.mp f.bP 0),(5,.ip none [aI t.kind,aI t.arg,aI t.n,a6 t.cases,aJ t.to]),(6,.ip none [aI V.kind,aI V.n,.aE 4 (V.list.map SV.enc) .sh,eP V.arr])] rfl iy (by omega) (by simp[bu,a7,Go.Av.look]) bC ?_ ?_
 ·simp only[aw,ae.upto,true_and,and_true]at sK;simp[ae.upto,aw,gK,eK,az,Edge.ai,sK]
 refine aA (ah ?_);refine aj ?_;refine aA (ah ?_);apply aP rfl<;>intro h
 ·exact ab h (by omega)
 refine aA (ah ?_);apply aP rfl<;>intro h
 ·refine j1 ?_;simp -dsimp only[simprocAttr,↓aa,zp,he];refine .inr (.inl ⟨_,_,hC,.inl (au (zj ?_))⟩)
  (refine bd ?_;simp -dsimp only[bX,ne_eq,Nat.reduceEqDiff,reduceCtorEq])
  skip
  simp -dsimp only[simprocAttr,↓aa,zp,zr,Try.results72,hlen,List.take_length];exact⟨lG,trivial⟩
 exact af h (by omega)
theorem xu{u:bR}{m:Mach}{O:List ak}(bC:∀o∈O,o.upto O.length)(h0:O[2]?=some (.cells (aC u m)))(f:Fr)(hf:O[f.bP]?=some (.cells (aV f)))(hv:O[f.di]?=some (.map (.int .i64) (f.vals.map gi)))
  (hu:∀e∈f.vals,SV.bh O.length e.2) (pH:f.bP≠f.di) (t:Term) (hk:t.kind=0) {O':List ak} (hC:bc Try.prog 93 O [.mp 2 0,.mp f.bP 0,(cZ f.vals t.arg).enc] (fun r O1=>r=.df []∧O1=O')) (hlen:O.length=O'.length) (lG:∀o∈O',o.upto O'.length):bc Try.prog 72 O [.mp 2 0,.mp f.bP 0,t.enc] (fun r O1=>r=.df []∧O1=O'):=by
 have gK:=I hf;have FU:=I hv;have eK:=I h0;have dU:=hf;unfold aV at dU;have qy:(Option.map SV.enc (gq f.vals t.arg)).getD (.agg [aI 0,aI 0,.aE 4 [] .ex,.v (.pointer none)])=iW f.vals t.arg:=rfl;have sS:aS [ae.v (.int .i64 0),.v (.int .i64 0),.aE 4 [] .ex,.v (.pointer none)] 0 (iW f.vals t.arg).cells=(iW f.vals t.arg).cells:=iX (fu _ _) rfl;have iy:=fP f.vals t.arg;have sK:=(iv hu t.arg).aN;generalize cZ f.vals t.arg=V at *;rw[SV.fI]at sK;rw[SV.al]at iy;refine zf true O.length Try.func72 Try.ntmps72 ?_;dsimp only[Tmp,TypeId,ax];refine aA (ah ?_);refine aO 5 ([aI t.kind,aI t.arg,aI t.n,a6 t.cases,aJ t.to]) [(0,.mp 2 0),(1,.mp f.bP 0),(5,.ip none [aI t.kind,aI t.arg,aI t.n,a6 t.cases,aJ t.to])] rfl (by rfl) (by omega) (by simp[bu,a7,Go.Av.look]) ?_ ?_ ?_
 ·exact bC
 ·simp[ae.upto,aw,gK,eK,az,Edge.ai]
 refine aX ?_;simp -dsimp only[simprocAttr,↓aa,zp,dU,hv,kE,qy,iE,fu,sS];refine⟨cm [f.bP,f.di] O.length [.pure,.pure,.pure,.rd 0,.pure,.pure,.rd 1,.wr 2 [],.wr 3 [2]] (by simp[pH]) (by simp;omega) rfl rfl (by kernel_rfl),bd ?_⟩;simp -dsimp only[bX,ne_eq,Nat.reduceEqDiff,reduceCtorEq];refine aO 6 [aI V.kind,aI V.n,.aE 4 (V.list.map SV.enc) .sh,eP V.arr] [(0,.mp 2 0),(1,.mp f.bP 0),(5,.ip none [aI t.kind,aI t.arg,aI t.n,a6 t.cases,aJ t.to]),(6,.ip none [aI V.kind,aI V.n,.aE 4 (V.list.map SV.enc) .sh,eP V.arr])] rfl iy (by omega) (by simp[bu,a7,Go.Av.look]) bC ?_ ?_
 ·simp only[aw,ae.upto,true_and,and_true]at sK;simp[ae.upto,aw,gK,eK,az,Edge.ai,sK]
 refine aA (ah ?_);refine aj ?_;refine aA (ah ?_);apply aP rfl<;>intro h
 ·exact ab h (by omega)
 refine aA (ah ?_);apply aP rfl<;>intro h
 ·exact ab h (by omega)
 refine aA (ah ?_);apply aP rfl<;>intro h
 ·refine dc ?_;refine .inr (.inl ⟨_,_,hC,.inl (au (zj ?_))⟩)
  (refine bd ?_;simp -dsimp only[bX,ne_eq,Nat.reduceEqDiff,reduceCtorEq])
  skip
  simp -dsimp only[simprocAttr,↓aa,zp,zr,Try.results72,hlen,List.take_length];exact⟨lG,trivial⟩
 exact af h (by omega)
theorem zK{u:bR}{m:Mach}{O:List ak}(bC:∀o∈O,o.upto O.length)(h0:O[2]?=some (.cells (aC u m)))(f:Fr)(hf:O[f.bP]?=some (.cells (aV f)))(hv:O[f.di]?=some (.map (.int .i64) (f.vals.map gi)))
  (hu:∀e∈f.vals,SV.bh O.length e.2) (pH:f.bP≠f.di) (t:Term) (hk:t.kind≠0∧t.kind≠1∧t.kind≠4) (hV:(cZ f.vals t.arg).kind≠0):bc Try.prog 72 O [.mp 2 0,.mp f.bP 0,t.enc] (fun r O'=>r=.df []∧O'=O.set 2 (.cells (aC u (m.stop 5 0)))):=by
 have gK:=I hf;have FU:=I hv;have eK:=I h0;have dU:=hf;unfold aV at dU;have qy:(Option.map SV.enc (gq f.vals t.arg)).getD (.agg [aI 0,aI 0,.aE 4 [] .ex,.v (.pointer none)])=iW f.vals t.arg:=rfl;have sS:aS [ae.v (.int .i64 0),.v (.int .i64 0),.aE 4 [] .ex,.v (.pointer none)] 0 (iW f.vals t.arg).cells=(iW f.vals t.arg).cells:=iX (fu _ _) rfl;have iy:=fP f.vals t.arg;have sK:=(iv hu t.arg).aN;generalize cZ f.vals t.arg=V at *;rw[SV.fI]at sK;rw[SV.al]at iy;have iV:=ju bC h0 5 0;have fY:=bq bC h0 (ds:=aC u (m.stop 5 0)) (fun h=>b9 h rfl);have iz:=cG (O:=O) (k:=2) (x:=.cells (aC u (m.stop 5 0)));have hd:decide (V.kind=0)=false:=decide_eq_false hV;refine zf true O.length Try.func72 Try.ntmps72 ?_;dsimp only[Tmp,TypeId,ax];refine aA (ah ?_);refine aO 5 ([aI t.kind,aI t.arg,aI t.n,a6 t.cases,aJ t.to]) [(0,.mp 2 0),(1,.mp f.bP 0),(5,.ip none [aI t.kind,aI t.arg,aI t.n,a6 t.cases,aJ t.to])] rfl (by rfl) (by omega) (by simp[bu,a7,Go.Av.look]) ?_ ?_ ?_
 ·exact bC
 ·simp[ae.upto,aw,gK,eK,az,Edge.ai]
 refine aX ?_;simp -dsimp only[simprocAttr,↓aa,zp,dU,hv,kE,qy,iE,fu,sS];refine⟨cm [f.bP,f.di] O.length [.pure,.pure,.pure,.rd 0,.pure,.pure,.rd 1,.wr 2 [],.wr 3 [2]] (by simp[pH]) (by simp;omega) rfl rfl (by kernel_rfl),bd ?_⟩;simp -dsimp only[bX,ne_eq,Nat.reduceEqDiff,reduceCtorEq];refine aO 6 [aI V.kind,aI V.n,.aE 4 (V.list.map SV.enc) .sh,eP V.arr] [(0,.mp 2 0),(1,.mp f.bP 0),(5,.ip none [aI t.kind,aI t.arg,aI t.n,a6 t.cases,aJ t.to]),(6,.ip none [aI V.kind,aI V.n,.aE 4 (V.list.map SV.enc) .sh,eP V.arr])] rfl iy (by omega) (by simp[bu,a7,Go.Av.look]) bC ?_ ?_
 ·simp only[aw,ae.upto,true_and,and_true]at sK;simp[ae.upto,aw,gK,eK,az,Edge.ai,sK]
 refine aA (ah ?_);refine aj ?_;refine aA (ah ?_);apply aP rfl<;>intro h
 ·exact ab h (by omega)
 refine aA (ah ?_);apply aP rfl<;>intro h
 ·exact ab h (by omega)
 refine aA (ah ?_);apply aP rfl<;>intro h
 ·exact ab h (by omega)
 refine dd ?_;simp -dsimp only[simprocAttr,↓aa,zp,hd];refine ah ?_;refine cS rfl ?_;refine aA ?_;refine .inr (.inl ⟨_,_,iV,.inl (au (zj ?_))⟩);refine ah ?_;refine aq ?_;simp -dsimp only[simprocAttr,↓aa,zp,zr,Try.results72,iz,List.length_set];exact⟨fY,trivial⟩
theorem vW{u:bR}{m:Mach}{O:List ak}(bC:∀o∈O,o.upto O.length)(h0:O[2]?=some (.cells (aC u m)))(f:Fr)(hf:O[f.bP]?=some (.cells (aV f)))(hv:O[f.di]?=some (.map (.int .i64) (f.vals.map gi)))
  (hu:∀e∈f.vals,SV.bh O.length e.2) (pH:f.bP≠f.di) (t:Term) (hk:t.kind≠0∧t.kind≠1∧t.kind≠4) (hV:(cZ f.vals t.arg).kind=0) (eJ:t.cases.length<=2 ^ 60) (e:Edge) (he:t.to[dP t (cZ f.vals t.arg).n]?=some e) {O':List ak} (hC:bc Try.prog 92 O [.mp 2 0,.mp f.bP 0,e.enc] (fun r O1=>r=.df []∧O1=O')) (hlen:O.length=O'.length) (lG:∀o∈O',o.upto O'.length):bc Try.prog 72 O [.mp 2 0,.mp f.bP 0,t.enc] (fun r O1=>r=.df []∧O1=O'):=by
 have gK:=I hf;have FU:=I hv;have eK:=I h0;have dU:=hf;unfold aV at dU;have qy:(Option.map SV.enc (gq f.vals t.arg)).getD (.agg [aI 0,aI 0,.aE 4 [] .ex,.v (.pointer none)])=iW f.vals t.arg:=rfl;have sS:aS [ae.v (.int .i64 0),.v (.int .i64 0),.aE 4 [] .ex,.v (.pointer none)] 0 (iW f.vals t.arg).cells=(iW f.vals t.arg).cells:=iX (fu _ _) rfl;have iy:=fP f.vals t.arg;have sK:=(iv hu t.arg).aN;generalize cZ f.vals t.arg=V at *;rw[SV.fI]at sK;rw[SV.al]at iy;have mu:=ua t V.n eJ;generalize dP t V.n=q at *;have hd:decide (V.kind=0)=true:=decide_eq_true hV;refine zf true O.length Try.func72 Try.ntmps72 ?_;dsimp only[Tmp,TypeId,ax];refine aA (ah ?_);refine aO 5 ([aI t.kind,aI t.arg,aI t.n,a6 t.cases,aJ t.to]) [(0,.mp 2 0),(1,.mp f.bP 0),(5,.ip none [aI t.kind,aI t.arg,aI t.n,a6 t.cases,aJ t.to])] rfl (by rfl) (by omega) (by simp[bu,a7,Go.Av.look]) ?_ ?_ ?_
 ·exact bC
 ·simp[ae.upto,aw,gK,eK,az,Edge.ai]
 refine aX ?_;simp -dsimp only[simprocAttr,↓aa,zp,dU,hv,kE,qy,iE,fu,sS];refine⟨cm [f.bP,f.di] O.length [.pure,.pure,.pure,.rd 0,.pure,.pure,.rd 1,.wr 2 [],.wr 3 [2]] (by simp[pH]) (by simp;omega) rfl rfl (by kernel_rfl),bd ?_⟩;simp -dsimp only[bX,ne_eq,Nat.reduceEqDiff,reduceCtorEq];refine aO 6 [aI V.kind,aI V.n,.aE 4 (V.list.map SV.enc) .sh,eP V.arr] [(0,.mp 2 0),(1,.mp f.bP 0),(5,.ip none [aI t.kind,aI t.arg,aI t.n,a6 t.cases,aJ t.to]),(6,.ip none [aI V.kind,aI V.n,.aE 4 (V.list.map SV.enc) .sh,eP V.arr])] rfl iy (by omega) (by simp[bu,a7,Go.Av.look]) bC ?_ ?_
 ·simp only[aw,ae.upto,true_and,and_true]at sK;simp[ae.upto,aw,gK,eK,az,Edge.ai,sK]
 refine aA (ah ?_);refine aj ?_;refine aA (ah ?_);apply aP rfl<;>intro h
 ·exact ab h (by omega)
 refine aA (ah ?_);apply aP rfl<;>intro h
 ·exact ab h (by omega)
 refine aA (ah ?_);apply aP rfl<;>intro h
 ·exact ab h (by omega)
 refine dd ?_;simp -dsimp only[simprocAttr,↓aa,zp,hd];refine ah ?_;refine cE rfl ?_;refine cA ?_;refine dc ?_;refine .inl ⟨_,mu,by simp only[aw,ae.upto,zt,zu,az],au ?_⟩;simp -dsimp only[simprocAttr,↓aa,zp,he];refine .inr (.inl ⟨_,_,hC,.inl (au (zj ?_))⟩);refine⟨ob (by kernel_rfl),?_⟩
 (refine bd ?_;simp -dsimp only[bX,ne_eq,Nat.reduceEqDiff,reduceCtorEq])
 skip
 simp -dsimp only[simprocAttr,↓aa,zp,zr,Try.results72,hlen,List.take_length];exact⟨lG,trivial⟩
theorem mV(B:Block):ae.agg [a6 B.params,bD B.ins,aI B.term.kind,aI B.term.arg,aI B.term.n,a6 B.term.cases,aJ B.term.to]=B.enc:=rfl
theorem step_end{u:bR}{m:Mach}{O:List ak}(bC:∀o∈O,o.upto O.length)(h0:O[2]?=some (.cells (aC u m)))(f:Fr)(r:List Fr)(dh:m.frames=f::r)(hf:O[f.bP]?=some (.cells (aV f)))(tJ:f.bP≠2)
  {cs:List ae} (dD:O[m.sid]?=some (.cells cs)) (eZ:cs[r.length]?=some (.mp f.bP 0)) (uH:r.length<=2 ^ 40) (F:Func) (hF:u.fns[f.fn.toNat]?=some F) (jr:0<=f.fn) (B:Block) (hB:F.blocks[f.blk.toNat]?=some B) (iI:0<=f.blk) (lV:f.pos=B.ins.length) {O':List ak} (hC:bc Try.prog 72 O [.mp 2 0,.mp f.bP 0,B.term.enc] (fun r O1=>r=.df []∧O1=O')) (hlen:O.length<=O'.length) (lG:∀o∈O',o.upto O'.length) :
  bc Try.prog 61 O [.mp 2 0] (fun r O1=>r=.df []∧O1=O'):=by
 have gK:=I hf;have eK:=I h0;have dU:=hf;unfold aV at dU;have kB:O[2]?=some (.cells [a9 u.fns,aI u.main,.os m.sid (r.length+1) 1,aI m.left,.v (.bool m.short),.v (.bool m.over),.aE 1 (m.out.map aI) (.tok 3),aI m.fin,aI m.val]):=by
  rw[h0];unfold aC;rw[dh];rfl
 have oZ:((r.length+1:Nat):Int)-1=(r.length:Nat):=by omega
 refine gb hT true (O'.length) Try.func61 rfl (by kernel_rfl) (by simp[Try.ntmps61]) (by assumption) ?_;show cc Try.prog _ _ _ ⟨137,_,_⟩;dsimp only[Tmp,TypeId,ax];refine aX ?_;simp -dsimp only[simprocAttr,↓aa,zp,kB,oZ,Nat.mul_one,dD,eZ]
 repeat(refine⟨by omega,?_⟩)
 refine⟨ob (by kernel_rfl),?_⟩;refine ah ?_;refine aX ?_;simp -dsimp only[simprocAttr,↓aa,zp,kB,dU,hF,hB,mV]
 repeat(refine⟨by omega,?_⟩)
 refine⟨cm [2,f.bP] O.length [.pure,.pure,.pure,.pure,.rd 0,.pure,.pure,.pure,.rd 1,.pure,.pure,.pure,.pure,.pure,.pure,.rd 1,.pure,.pure,.wr 2 [],.wr 3 [2]] (by simp;omega) (by simp;omega) rfl rfl (by kernel_rfl),bd ?_⟩;simp -dsimp only[bX,ne_eq,Nat.reduceEqDiff,reduceCtorEq];refine aO 3 ([a6 B.params,bD B.ins,aI B.term.kind,aI B.term.arg,aI B.term.n,a6 B.term.cases,aJ B.term.to]) [(0,.mp 2 0),(2,.mp f.bP 0),(3,.ip none [a6 B.params,bD B.ins,aI B.term.kind,aI B.term.arg,aI B.term.n,a6 B.term.cases,aJ B.term.to])] rfl (by rfl) (by omega) (by simp[bu,a7,Go.Av.look]) ?_ ?_ ?_
 ·exact bC
 ·simp[ae.upto,aw,gK,eK,az,Edge.ai,bE.ai]
 refine dd ?_;simp -dsimp only[simprocAttr,↓aa,zp,dU];refine⟨ob (by kernel_rfl),?_⟩;refine ah ?_;apply aP rfl<;>intro h
 ·refine aA ?_;refine .inr (.inl ⟨_,_,hC,.inl (au (zj ?_))⟩);refine ah ?_;refine aq ?_;simp -dsimp only[simprocAttr,↓aa,zp,zr,Try.results61,List.take_length];exact⟨lG,trivial⟩
 exact af h (by omega)
theorem yI{u:bR}{m:Mach}{O:List ak}(bC:∀o∈O,o.upto O.length)(h0:O[2]?=some (.cells (aC u m)))(f:Fr)(r:List Fr)(dh:m.frames=f::r)(hf:O[f.bP]?=some (.cells (aV f)))(tJ:f.bP≠2)
  {cs:List ae} (dD:O[m.sid]?=some (.cells cs)) (eZ:cs[r.length]?=some (.mp f.bP 0)) (uH:r.length<=2 ^ 40) (F:Func) (hF:u.fns[f.fn.toNat]?=some F) (jr:0<=f.fn) (B:Block) (hB:F.blocks[f.blk.toNat]?=some B) (iI:0<=f.blk) (hv:O[f.di]?=some (.map (.int .i64) (f.vals.map gi))) (pH:f.bP≠f.di) (hu:∀e∈f.vals,SV.bh O.length e.2) (i:bE) (hi:B.ins[f.pos]?=some i) (qx:f.pos<=2 ^ 41) (km:i.args.length<=4096) (f':Fr) (fg:f' = { f with pos:=f.pos+1 }) (args:List SV) (dY:args=bN f.vals i.args) (O1:List ak) (dW:O1=O.set f.bP (.cells (aV f'))) (iT:i.op=13) {O':List ak} (hC:bc Try.prog 59 O1 [.mp 2 0,aI i.n,.aE 4 (args.map SV.enc) .sh,aI i.to] (fun r O2=>r=.df []∧O2=O')) (hlen:O.length<=O'.length) (lG:∀o∈O',o.upto O'.length) :
  bc Try.prog 61 O [.mp 2 0] (fun r O1=>r=.df []∧O1=O'):=by
 have gK:=I hf;have eK:=I h0;have dU:=hf;unfold aV at dU;have kB:O[2]?=some (.cells [a9 u.fns,aI u.main,.os m.sid (r.length+1) 1,aI m.left,.v (.bool m.short),.v (.bool m.over),.aE 1 (m.out.map aI) (.tok 3),aI m.fin,aI m.val]):=by
  rw[h0];unfold aC;rw[dh];rfl
 have oZ:((r.length+1:Nat):Int)-1=(r.length:Nat):=by omega
 have z9:=I hi;have hs:=dA hf;have dL:O.length=O1.length:=by rw[dW];simp
 have mZ:[aI f.fn,aI f.blk,aI ((f.pos:Int)+1),aI f.to,.mm f.di]=aV f':=by
  rw[fg];simp[aV]
 have kr:O1[f'.bP]?=some (.cells (aV f')):=by rw[dW,fg];exact hs _
 have sT:O1[f'.di]?=some (.map (.int .i64) (f'.vals.map gi)):=by rw[dW,fg];exact bx hv pH
 have eL:∀o∈O1,o.upto O1.length:=by
  rw[<-dL,dW];refine bq bC hf fun h=>?_;simp only[aV,aw,ae.upto,true_and,and_true]at h ⊢;rw[fg];exact h
 have gn:=iH eL kr sT (by rw[fg,<-dL];exact hu) i.args km;have iS:f'.bP=f.bP:=by rw[fg]
 have j9:f'.vals=f.vals:=by rw[fg]
 rw[iS,j9,<-dY]at gn;rw[iS]at kr;refine gb hT true (O'.length) Try.func61 rfl (by kernel_rfl) (by simp[Try.ntmps61]) (by assumption) ?_;show cc Try.prog _ _ _ ⟨137,_,_⟩;dsimp only[Tmp,TypeId,ax];refine aX ?_;simp -dsimp only[simprocAttr,↓aa,zp,kB,oZ,Nat.mul_one,dD,eZ]
 repeat(refine⟨by omega,?_⟩)
 refine⟨ob (by kernel_rfl),?_⟩;refine ah ?_;refine aX ?_;simp -dsimp only[simprocAttr,↓aa,zp,kB,dU,hF,hB,mV]
 repeat(refine⟨by omega,?_⟩)
 refine⟨cm [2,f.bP] O.length [.pure,.pure,.pure,.pure,.rd 0,.pure,.pure,.pure,.rd 1,.pure,.pure,.pure,.pure,.pure,.pure,.rd 1,.pure,.pure,.wr 2 [],.wr 3 [2]] (by simp;omega) (by simp;omega) rfl rfl (by kernel_rfl),bd ?_⟩;simp -dsimp only[bX,ne_eq,Nat.reduceEqDiff,reduceCtorEq];refine aO 3 ([a6 B.params,bD B.ins,aI B.term.kind,aI B.term.arg,aI B.term.n,a6 B.term.cases,aJ B.term.to]) [(0,.mp 2 0),(2,.mp f.bP 0),(3,.ip none [a6 B.params,bD B.ins,aI B.term.kind,aI B.term.arg,aI B.term.n,a6 B.term.cases,aJ B.term.to])] rfl (by rfl) (by omega) (by simp[bu,a7,Go.Av.look]) ?_ ?_ ?_
 ·exact bC
 ·simp[ae.upto,aw,gK,eK,az,Edge.ai,bE.ai]
 refine dd ?_;simp -dsimp only[simprocAttr,↓aa,zp,dU];refine⟨ob (by kernel_rfl),?_⟩;refine ah ?_;apply aP rfl<;>intro h
 ·exact ab h (by omega)
 refine cA ?_;refine aX ?_;simp -dsimp only[simprocAttr,↓aa,zp,dU,hi,Int.toNat_natCast]
 repeat(refine⟨by omega,?_⟩)
 refine⟨cm [f.bP] O.length [.pure,.pure,.pure,.pure,.pure,.rd 0,.pure,.pure,.wr 1 [],.wr 2 [1]] (by simp) (by simp;omega) rfl rfl (by kernel_rfl),bd ?_⟩;simp -dsimp only[bX,ne_eq,Nat.reduceEqDiff,reduceCtorEq];refine aO 4 ([aI i.to,aI i.op,aI i.n,a6 i.args]) [(0,.mp 2 0),(2,.mp f.bP 0),(4,.ip none [aI i.to,aI i.op,aI i.n,a6 i.args])] rfl (by rfl) (by omega) (by simp[bu,a7,Go.Av.look]) ?_ ?_ ?_
 ·exact bC
 ·simp[ae.upto,aw,gK,eK,az]
 refine aX ?_;simp -dsimp only[simprocAttr,↓aa,zp,dU,hs,mZ,<-dW]
 repeat(refine⟨by omega,?_⟩)
 refine ah ?_;refine aA ?_;refine .inr (.inr ⟨_,gn,au (zj ?_)⟩);refine ah ?_;refine aA (ah ?_);refine aj ?_;refine aA (ah ?_);apply aP rfl<;>intro h
 ·refine dc ?_;refine .inr (.inl ⟨_,_,hC,.inl (au (zj ?_))⟩)
  (refine bd ?_;simp -dsimp only[bX,ne_eq,Nat.reduceEqDiff,reduceCtorEq])
  skip
  simp -dsimp only[simprocAttr,↓aa,zp,zr,Try.results61,List.take_length];exact⟨lG,trivial⟩
 exact af h (by omega)
theorem AS{u:bR}{m:Mach}{O:List ak}(bC:∀o∈O,o.upto O.length)(h0:O[2]?=some (.cells (aC u m)))(f:Fr)(r:List Fr)(dh:m.frames=f::r)(hf:O[f.bP]?=some (.cells (aV f)))(tJ:f.bP≠2)
  {cs:List ae} (dD:O[m.sid]?=some (.cells cs)) (eZ:cs[r.length]?=some (.mp f.bP 0)) (uH:r.length<=2 ^ 40) (F:Func) (hF:u.fns[f.fn.toNat]?=some F) (jr:0<=f.fn) (B:Block) (hB:F.blocks[f.blk.toNat]?=some B) (iI:0<=f.blk) (hv:O[f.di]?=some (.map (.int .i64) (f.vals.map gi))) (pH:f.bP≠f.di) (hu:∀e∈f.vals,SV.bh O.length e.2) (i:bE) (hi:B.ins[f.pos]?=some i) (qx:f.pos<=2 ^ 41) (km:i.args.length<=4096) (f':Fr) (fg:f' = { f with pos:=f.pos+1 }) (args:List SV) (dY:args=bN f.vals i.args) (O1:List ak) (dW:O1=O.set f.bP (.cells (aV f'))) (iT:i.op=14) (c:SV) (Bt:args[0]?=some c) (hk:c.kind=2) (yV:0<=c.n) (G:Func) (hG:u.fns[c.n.toNat]?=some G) (D:Block) (hD:G.blocks[0]?=some D) (Ai:D.params.length=args.length) (D0:∀v∈args,SV.bh O1.length v) {O':List ak} (hC:bc Try.prog 59 O1 [.mp 2 0,aI c.n,.aE 4 (args.map SV.enc) .sh,aI i.to] (fun r O2=>r=.df []∧O2=O')) (hlen:O.length<=O'.length) (lG:∀o∈O',o.upto O'.length) (lL:O1[2]?=some (.cells (aC u m))) :
  bc Try.prog 61 O [.mp 2 0] (fun r O1=>r=.df []∧O1=O'):=by
 have gK:=I hf;have eK:=I h0;have dU:=hf;unfold aV at dU;have kB:O[2]?=some (.cells [a9 u.fns,aI u.main,.os m.sid (r.length+1) 1,aI m.left,.v (.bool m.short),.v (.bool m.over),.aE 1 (m.out.map aI) (.tok 3),aI m.fin,aI m.val]):=by
  rw[h0];unfold aC;rw[dh];rfl
 have oZ:((r.length+1:Nat):Int)-1=(r.length:Nat):=by omega
 have z9:=I hi;have hs:=dA hf;have dL:O.length=O1.length:=by rw[dW];simp
 have mZ:[aI f.fn,aI f.blk,aI ((f.pos:Int)+1),aI f.to,.mm f.di]=aV f':=by
  rw[fg];simp[aV]
 have kr:O1[f'.bP]?=some (.cells (aV f')):=by rw[dW,fg];exact hs _
 have sT:O1[f'.di]?=some (.map (.int .i64) (f'.vals.map gi)):=by rw[dW,fg];exact bx hv pH
 have eL:∀o∈O1,o.upto O1.length:=by
  rw[<-dL,dW];refine bq bC hf fun h=>?_;simp only[aV,aw,ae.upto,true_and,and_true]at h ⊢;rw[fg];exact h
 have gn:=iH eL kr sT (by rw[fg,<-dL];exact hu) i.args km;have iS:f'.bP=f.bP:=by rw[fg]
 have j9:f'.vals=f.vals:=by rw[fg]
 rw[iS,j9,<-dY]at gn;rw[iS]at kr;unfold aC at lL;have hd:decide (c.kind=2)=true:=decide_eq_true hk;have mv:decide ((D.params.length:Int)=args.length)=true:=decide_eq_true (by omega);refine gb hT true (O'.length) Try.func61 rfl (by kernel_rfl) (by simp[Try.ntmps61]) (by assumption) ?_;show cc Try.prog _ _ _ ⟨137,_,_⟩;dsimp only[Tmp,TypeId,ax];refine aX ?_;simp -dsimp only[simprocAttr,↓aa,zp,kB,oZ,Nat.mul_one,dD,eZ]
 repeat(refine⟨by omega,?_⟩)
 refine⟨ob (by kernel_rfl),?_⟩;refine ah ?_;refine aX ?_;simp -dsimp only[simprocAttr,↓aa,zp,kB,dU,hF,hB,mV]
 repeat(refine⟨by omega,?_⟩)
 refine⟨cm [2,f.bP] O.length [.pure,.pure,.pure,.pure,.rd 0,.pure,.pure,.pure,.rd 1,.pure,.pure,.pure,.pure,.pure,.pure,.rd 1,.pure,.pure,.wr 2 [],.wr 3 [2]] (by simp;omega) (by simp;omega) rfl rfl (by kernel_rfl),bd ?_⟩;simp -dsimp only[bX,ne_eq,Nat.reduceEqDiff,reduceCtorEq];refine aO 3 ([a6 B.params,bD B.ins,aI B.term.kind,aI B.term.arg,aI B.term.n,a6 B.term.cases,aJ B.term.to]) [(0,.mp 2 0),(2,.mp f.bP 0),(3,.ip none [a6 B.params,bD B.ins,aI B.term.kind,aI B.term.arg,aI B.term.n,a6 B.term.cases,aJ B.term.to])] rfl (by rfl) (by omega) (by simp[bu,a7,Go.Av.look]) ?_ ?_ ?_
 ·exact bC
 ·simp[ae.upto,aw,gK,eK,az,Edge.ai,bE.ai]
 refine dd ?_;simp -dsimp only[simprocAttr,↓aa,zp,dU];refine⟨ob (by kernel_rfl),?_⟩;refine ah ?_;apply aP rfl<;>intro h
 ·exact ab h (by omega)
 refine cA ?_;refine aX ?_;simp -dsimp only[simprocAttr,↓aa,zp,dU,hi,Int.toNat_natCast]
 repeat(refine⟨by omega,?_⟩)
 refine⟨cm [f.bP] O.length [.pure,.pure,.pure,.pure,.pure,.rd 0,.pure,.pure,.wr 1 [],.wr 2 [1]] (by simp) (by simp;omega) rfl rfl (by kernel_rfl),bd ?_⟩;simp -dsimp only[bX,ne_eq,Nat.reduceEqDiff,reduceCtorEq];refine aO 4 ([aI i.to,aI i.op,aI i.n,a6 i.args]) [(0,.mp 2 0),(2,.mp f.bP 0),(4,.ip none [aI i.to,aI i.op,aI i.n,a6 i.args])] rfl (by rfl) (by omega) (by simp[bu,a7,Go.Av.look]) ?_ ?_ ?_
 ·exact bC
 ·simp[ae.upto,aw,gK,eK,az]
 refine aX ?_;simp -dsimp only[simprocAttr,↓aa,zp,dU,hs,mZ,<-dW]
 repeat(refine⟨by omega,?_⟩)
 refine ah ?_;refine aA ?_;refine .inr (.inr ⟨_,gn,au (zj ?_)⟩);refine ah ?_;refine aA (ah ?_);refine aj ?_;refine aA (ah ?_);apply aP rfl<;>intro h
 ·exact ab h (by omega)
 refine aA (ah ?_);apply aP rfl<;>intro h
 ·refine aX ?_;simp -dsimp only[simprocAttr,↓aa,zp,Bt];refine ah ?_;refine aO 6 [aI c.kind,aI c.n,.aE 4 (c.list.map SV.enc) .sh,eP c.arr] [(0,.mp 2 0),(2,.mp f.bP 0),(4,.ip none [aI i.to,aI i.op,aI i.n,a6 i.args]),(5,.aE 4 (args.map SV.enc) .sh),(6,.ip none [aI c.kind,aI c.n,.aE 4 (c.list.map SV.enc) .sh,eP c.arr])] rfl (by simp only[List.map_cons,List.map_nil,cT,cg,cx]) (by omega) (by simp[bu,a7,Go.Av.look]) eL ?_ ?_
  ·have ry:=(D0 c (List.mem_of_getElem? Bt)).aN;rw[SV.fI]at ry;simp only[aw,ae.upto,true_and,and_true]at ry;have DR:=SV.ai D0;simp[ae.upto,aw,<-dL,gK,eK,az,ry,DR];simp[dL,ry,DR]
  refine aX ?_;simp -dsimp only[simprocAttr,↓aa,zp,hd,lL,hG,hD,mv]
  repeat(refine⟨by omega,?_⟩)
  refine⟨ob (by kernel_rfl),?_⟩;refine ah ?_;refine cS rfl ?_;refine dc ?_;refine .inr (.inl ⟨_,_,hC,.inl (au (zj ?_))⟩)
  (refine bd ?_;simp -dsimp only[bX,ne_eq,Nat.reduceEqDiff,reduceCtorEq])
  skip
  simp -dsimp only[simprocAttr,↓aa,zp,zr,Try.results61,List.take_length];exact⟨lG,trivial⟩
 exact af h (by omega)
theorem rM{u:bR}{m:Mach}{O:List ak}(bC:∀o∈O,o.upto O.length)(h0:O[2]?=some (.cells (aC u m)))(f:Fr)(r:List Fr)(dh:m.frames=f::r)(hf:O[f.bP]?=some (.cells (aV f)))(tJ:f.bP≠2)
  {cs:List ae} (dD:O[m.sid]?=some (.cells cs)) (eZ:cs[r.length]?=some (.mp f.bP 0)) (uH:r.length<=2 ^ 40) (F:Func) (hF:u.fns[f.fn.toNat]?=some F) (jr:0<=f.fn) (B:Block) (hB:F.blocks[f.blk.toNat]?=some B) (iI:0<=f.blk) (hv:O[f.di]?=some (.map (.int .i64) (f.vals.map gi))) (pH:f.bP≠f.di) (hu:∀e∈f.vals,SV.bh O.length e.2) (i:bE) (hi:B.ins[f.pos]?=some i) (qx:f.pos<=2 ^ 41) (km:i.args.length<=4096) (f':Fr) (fg:f' = { f with pos:=f.pos+1 }) (args:List SV) (dY:args=bN f.vals i.args) (O1:List ak) (dW:O1=O.set f.bP (.cells (aV f'))) (iT:i.op=14) (c:SV) (Bt:args[0]?=some c) (hk:c.kind≠2) (D0:∀v∈args,SV.bh O1.length v) (lL:O1[2]?=some (.cells (aC u m))) :
  bc Try.prog 61 O [.mp 2 0] (fun r O2=>r=.df []∧O2=O1.set 2 (.cells (aC u (m.stop 5 0)))):=by
 have gK:=I hf;have eK:=I h0;have dU:=hf;unfold aV at dU;have kB:O[2]?=some (.cells [a9 u.fns,aI u.main,.os m.sid (r.length+1) 1,aI m.left,.v (.bool m.short),.v (.bool m.over),.aE 1 (m.out.map aI) (.tok 3),aI m.fin,aI m.val]):=by
  rw[h0];unfold aC;rw[dh];rfl
 have oZ:((r.length+1:Nat):Int)-1=(r.length:Nat):=by omega
 have z9:=I hi;have hs:=dA hf;have dL:O.length=O1.length:=by rw[dW];simp
 have mZ:[aI f.fn,aI f.blk,aI ((f.pos:Int)+1),aI f.to,.mm f.di]=aV f':=by
  rw[fg];simp[aV]
 have kr:O1[f'.bP]?=some (.cells (aV f')):=by rw[dW,fg];exact hs _
 have sT:O1[f'.di]?=some (.map (.int .i64) (f'.vals.map gi)):=by rw[dW,fg];exact bx hv pH
 have eL:∀o∈O1,o.upto O1.length:=by
  rw[<-dL,dW];refine bq bC hf fun h=>?_;simp only[aV,aw,ae.upto,true_and,and_true]at h ⊢;rw[fg];exact h
 have gn:=iH eL kr sT (by rw[fg,<-dL];exact hu) i.args km;have iS:f'.bP=f.bP:=by rw[fg]
 have j9:f'.vals=f.vals:=by rw[fg]
 rw[iS,j9,<-dY]at gn;rw[iS]at kr;have gT:O.length<=O.length:=Nat.le_refl _;have iV:=ju eL lL 5 0;have fY:=bq eL lL (ds:=aC u (m.stop 5 0)) (fun h=>b9 h rfl);have iz:=cG (O:=O1) (k:=2) (x:=.cells (aC u (m.stop 5 0)));unfold aC at lL;have hd:decide (c.kind=2)=false:=decide_eq_false hk;refine gb hT true (O.length) Try.func61 rfl (by kernel_rfl) (by simp[Try.ntmps61]) (by assumption) ?_;show cc Try.prog _ _ _ ⟨137,_,_⟩;dsimp only[Tmp,TypeId,ax];refine aX ?_;simp -dsimp only[simprocAttr,↓aa,zp,kB,oZ,Nat.mul_one,dD,eZ]
 repeat(refine⟨by omega,?_⟩)
 refine⟨ob (by kernel_rfl),?_⟩;refine ah ?_;refine aX ?_;simp -dsimp only[simprocAttr,↓aa,zp,kB,dU,hF,hB,mV]
 repeat(refine⟨by omega,?_⟩)
 refine⟨cm [2,f.bP] O.length [.pure,.pure,.pure,.pure,.rd 0,.pure,.pure,.pure,.rd 1,.pure,.pure,.pure,.pure,.pure,.pure,.rd 1,.pure,.pure,.wr 2 [],.wr 3 [2]] (by simp;omega) (by simp;omega) rfl rfl (by kernel_rfl),bd ?_⟩;simp -dsimp only[bX,ne_eq,Nat.reduceEqDiff,reduceCtorEq];refine aO 3 ([a6 B.params,bD B.ins,aI B.term.kind,aI B.term.arg,aI B.term.n,a6 B.term.cases,aJ B.term.to]) [(0,.mp 2 0),(2,.mp f.bP 0),(3,.ip none [a6 B.params,bD B.ins,aI B.term.kind,aI B.term.arg,aI B.term.n,a6 B.term.cases,aJ B.term.to])] rfl (by rfl) (by omega) (by simp[bu,a7,Go.Av.look]) ?_ ?_ ?_
 ·exact bC
 ·simp[ae.upto,aw,gK,eK,az,Edge.ai,bE.ai]
 refine dd ?_;simp -dsimp only[simprocAttr,↓aa,zp,dU];refine⟨ob (by kernel_rfl),?_⟩;refine ah ?_;apply aP rfl<;>intro h
 ·exact ab h (by omega)
 refine cA ?_;refine aX ?_;simp -dsimp only[simprocAttr,↓aa,zp,dU,hi,Int.toNat_natCast]
 repeat(refine⟨by omega,?_⟩)
 refine⟨cm [f.bP] O.length [.pure,.pure,.pure,.pure,.pure,.rd 0,.pure,.pure,.wr 1 [],.wr 2 [1]] (by simp) (by simp;omega) rfl rfl (by kernel_rfl),bd ?_⟩;simp -dsimp only[bX,ne_eq,Nat.reduceEqDiff,reduceCtorEq];refine aO 4 ([aI i.to,aI i.op,aI i.n,a6 i.args]) [(0,.mp 2 0),(2,.mp f.bP 0),(4,.ip none [aI i.to,aI i.op,aI i.n,a6 i.args])] rfl (by rfl) (by omega) (by simp[bu,a7,Go.Av.look]) ?_ ?_ ?_
 ·exact bC
 ·simp[ae.upto,aw,gK,eK,az]
 refine aX ?_;simp -dsimp only[simprocAttr,↓aa,zp,dU,hs,mZ,<-dW]
 repeat(refine⟨by omega,?_⟩)
 refine ah ?_;refine aA ?_;refine .inr (.inr ⟨_,gn,au (zj ?_)⟩);refine ah ?_;refine aA (ah ?_);refine aj ?_;refine aA (ah ?_);apply aP rfl<;>intro h
 ·exact ab h (by omega)
 refine aA (ah ?_);apply aP rfl<;>intro h
 ·refine aX ?_;simp -dsimp only[simprocAttr,↓aa,zp,Bt];refine ah ?_;refine aO 6 [aI c.kind,aI c.n,.aE 4 (c.list.map SV.enc) .sh,eP c.arr] [(0,.mp 2 0),(2,.mp f.bP 0),(4,.ip none [aI i.to,aI i.op,aI i.n,a6 i.args]),(5,.aE 4 (args.map SV.enc) .sh),(6,.ip none [aI c.kind,aI c.n,.aE 4 (c.list.map SV.enc) .sh,eP c.arr])] rfl (by simp only[List.map_cons,List.map_nil,cT,cg,cx]) (by omega) (by simp[bu,a7,Go.Av.look]) eL ?_ ?_
  ·have ry:=(D0 c (List.mem_of_getElem? Bt)).aN;rw[SV.fI]at ry;simp only[aw,ae.upto,true_and,and_true]at ry;have DR:=SV.ai D0;simp[ae.upto,aw,<-dL,gK,eK,az,ry,DR];simp[dL,ry,DR]
  refine aX ?_;simp -dsimp only[simprocAttr,↓aa,zp,hd]
  repeat(refine⟨by omega,?_⟩)
  refine⟨ob (by kernel_rfl),?_⟩;refine ah ?_;refine cE rfl ?_;refine dc ?_;refine .inr (.inl ⟨_,_,iV,.inl (au ?_)⟩);simp -dsimp only[simprocAttr,↓aa,zp,dL]
  (refine bd ?_;simp -dsimp only[bX,ne_eq,Nat.reduceEqDiff,reduceCtorEq])
  skip
  simp -dsimp only[simprocAttr,↓aa,zp,zr,Try.results61,iz,List.length_set,dL];exact⟨fY,trivial⟩
 exact af h (by omega)
theorem tt{u:bR}{m:Mach}{O:List ak}(bC:∀o∈O,o.upto O.length)(h0:O[2]?=some (.cells (aC u m)))(f:Fr)(r:List Fr)(dh:m.frames=f::r)(hf:O[f.bP]?=some (.cells (aV f)))(tJ:f.bP≠2)
  {cs:List ae} (dD:O[m.sid]?=some (.cells cs)) (eZ:cs[r.length]?=some (.mp f.bP 0)) (uH:r.length<=2 ^ 40) (F:Func) (hF:u.fns[f.fn.toNat]?=some F) (jr:0<=f.fn) (B:Block) (hB:F.blocks[f.blk.toNat]?=some B) (iI:0<=f.blk) (hv:O[f.di]?=some (.map (.int .i64) (f.vals.map gi))) (pH:f.bP≠f.di) (hu:∀e∈f.vals,SV.bh O.length e.2) (i:bE) (hi:B.ins[f.pos]?=some i) (qx:f.pos<=2 ^ 41) (km:i.args.length<=4096) (f':Fr) (fg:f' = { f with pos:=f.pos+1 }) (args:List SV) (dY:args=bN f.vals i.args) (O1:List ak) (dW:O1=O.set f.bP (.cells (aV f'))) (iT:i.op=14) (c:SV) (Bt:args[0]?=some c) (hk:c.kind=2) (yV:0<=c.n) (G:Func) (hG:u.fns[c.n.toNat]?=some G) (D:Block) (hD:G.blocks[0]?=some D) (Ai:D.params.length≠args.length) (D0:∀v∈args,SV.bh O1.length v) (lL:O1[2]?=some (.cells (aC u m))) :
  bc Try.prog 61 O [.mp 2 0] (fun r O2=>r=.df []∧O2=O1.set 2 (.cells (aC u (m.stop 5 0)))):=by
 have gK:=I hf;have eK:=I h0;have dU:=hf;unfold aV at dU;have kB:O[2]?=some (.cells [a9 u.fns,aI u.main,.os m.sid (r.length+1) 1,aI m.left,.v (.bool m.short),.v (.bool m.over),.aE 1 (m.out.map aI) (.tok 3),aI m.fin,aI m.val]):=by
  rw[h0];unfold aC;rw[dh];rfl
 have oZ:((r.length+1:Nat):Int)-1=(r.length:Nat):=by omega
 have z9:=I hi;have hs:=dA hf;have dL:O.length=O1.length:=by rw[dW];simp
 have mZ:[aI f.fn,aI f.blk,aI ((f.pos:Int)+1),aI f.to,.mm f.di]=aV f':=by
  rw[fg];simp[aV]
 have kr:O1[f'.bP]?=some (.cells (aV f')):=by rw[dW,fg];exact hs _
 have sT:O1[f'.di]?=some (.map (.int .i64) (f'.vals.map gi)):=by rw[dW,fg];exact bx hv pH
 have eL:∀o∈O1,o.upto O1.length:=by
  rw[<-dL,dW];refine bq bC hf fun h=>?_;simp only[aV,aw,ae.upto,true_and,and_true]at h ⊢;rw[fg];exact h
 have gn:=iH eL kr sT (by rw[fg,<-dL];exact hu) i.args km;have iS:f'.bP=f.bP:=by rw[fg]
 have j9:f'.vals=f.vals:=by rw[fg]
 rw[iS,j9,<-dY]at gn;rw[iS]at kr;have gT:O.length<=O.length:=Nat.le_refl _;have iV:=ju eL lL 5 0;have fY:=bq eL lL (ds:=aC u (m.stop 5 0)) (fun h=>b9 h rfl);have iz:=cG (O:=O1) (k:=2) (x:=.cells (aC u (m.stop 5 0)));unfold aC at lL;have hd:decide (c.kind=2)=true:=decide_eq_true hk;have mv:decide ((D.params.length:Int)=args.length)=false:=decide_eq_false (by omega);refine gb hT true (O.length) Try.func61 rfl (by kernel_rfl) (by simp[Try.ntmps61]) (by assumption) ?_;show cc Try.prog _ _ _ ⟨137,_,_⟩;dsimp only[Tmp,TypeId,ax];refine aX ?_;simp -dsimp only[simprocAttr,↓aa,zp,kB,oZ,Nat.mul_one,dD,eZ]
 repeat(refine⟨by omega,?_⟩)
 refine⟨ob (by kernel_rfl),?_⟩;refine ah ?_;refine aX ?_;simp -dsimp only[simprocAttr,↓aa,zp,kB,dU,hF,hB,mV]
 repeat(refine⟨by omega,?_⟩)
 refine⟨cm [2,f.bP] O.length [.pure,.pure,.pure,.pure,.rd 0,.pure,.pure,.pure,.rd 1,.pure,.pure,.pure,.pure,.pure,.pure,.rd 1,.pure,.pure,.wr 2 [],.wr 3 [2]] (by simp;omega) (by simp;omega) rfl rfl (by kernel_rfl),bd ?_⟩;simp -dsimp only[bX,ne_eq,Nat.reduceEqDiff,reduceCtorEq];refine aO 3 ([a6 B.params,bD B.ins,aI B.term.kind,aI B.term.arg,aI B.term.n,a6 B.term.cases,aJ B.term.to]) [(0,.mp 2 0),(2,.mp f.bP 0),(3,.ip none [a6 B.params,bD B.ins,aI B.term.kind,aI B.term.arg,aI B.term.n,a6 B.term.cases,aJ B.term.to])] rfl (by rfl) (by omega) (by simp[bu,a7,Go.Av.look]) ?_ ?_ ?_
 ·exact bC
 ·simp[ae.upto,aw,gK,eK,az,Edge.ai,bE.ai]
 refine dd ?_;simp -dsimp only[simprocAttr,↓aa,zp,dU];refine⟨ob (by kernel_rfl),?_⟩;refine ah ?_;apply aP rfl<;>intro h
 ·exact ab h (by omega)
 refine cA ?_;refine aX ?_;simp -dsimp only[simprocAttr,↓aa,zp,dU,hi,Int.toNat_natCast]
 repeat(refine⟨by omega,?_⟩)
 refine⟨cm [f.bP] O.length [.pure,.pure,.pure,.pure,.pure,.rd 0,.pure,.pure,.wr 1 [],.wr 2 [1]] (by simp) (by simp;omega) rfl rfl (by kernel_rfl),bd ?_⟩;simp -dsimp only[bX,ne_eq,Nat.reduceEqDiff,reduceCtorEq];refine aO 4 ([aI i.to,aI i.op,aI i.n,a6 i.args]) [(0,.mp 2 0),(2,.mp f.bP 0),(4,.ip none [aI i.to,aI i.op,aI i.n,a6 i.args])] rfl (by rfl) (by omega) (by simp[bu,a7,Go.Av.look]) ?_ ?_ ?_
 ·exact bC
 ·simp[ae.upto,aw,gK,eK,az]
 refine aX ?_;simp -dsimp only[simprocAttr,↓aa,zp,dU,hs,mZ,<-dW]
 repeat(refine⟨by omega,?_⟩)
 refine ah ?_;refine aA ?_;refine .inr (.inr ⟨_,gn,au (zj ?_)⟩);refine ah ?_;refine aA (ah ?_);refine aj ?_;refine aA (ah ?_);apply aP rfl<;>intro h
 ·exact ab h (by omega)
 refine aA (ah ?_);apply aP rfl<;>intro h
 ·refine aX ?_;simp -dsimp only[simprocAttr,↓aa,zp,Bt];refine ah ?_;refine aO 6 [aI c.kind,aI c.n,.aE 4 (c.list.map SV.enc) .sh,eP c.arr] [(0,.mp 2 0),(2,.mp f.bP 0),(4,.ip none [aI i.to,aI i.op,aI i.n,a6 i.args]),(5,.aE 4 (args.map SV.enc) .sh),(6,.ip none [aI c.kind,aI c.n,.aE 4 (c.list.map SV.enc) .sh,eP c.arr])] rfl (by simp only[List.map_cons,List.map_nil,cT,cg,cx]) (by omega) (by simp[bu,a7,Go.Av.look]) eL ?_ ?_
  ·have ry:=(D0 c (List.mem_of_getElem? Bt)).aN;rw[SV.fI]at ry;simp only[aw,ae.upto,true_and,and_true]at ry;have DR:=SV.ai D0;simp[ae.upto,aw,<-dL,gK,eK,az,ry,DR];simp[dL,ry,DR]
  refine aX ?_;simp -dsimp only[simprocAttr,↓aa,zp,hd,lL,hG,hD,mv]
  repeat(refine⟨by omega,?_⟩)
  refine⟨ob (by kernel_rfl),?_⟩;refine ah ?_;refine cE rfl ?_;refine dc ?_;refine .inr (.inl ⟨_,_,iV,.inl (au ?_)⟩);simp -dsimp only[simprocAttr,↓aa,zp,dL]
  (refine bd ?_;simp -dsimp only[bX,ne_eq,Nat.reduceEqDiff,reduceCtorEq])
  skip
  simp -dsimp only[simprocAttr,↓aa,zp,zr,Try.results61,iz,List.length_set,dL];exact⟨fY,trivial⟩
 exact af h (by omega)
theorem yJ{u:bR}{m:Mach}{O:List ak}(bC:∀o∈O,o.upto O.length)(h0:O[2]?=some (.cells (aC u m)))(f:Fr)(r:List Fr)(dh:m.frames=f::r)(hf:O[f.bP]?=some (.cells (aV f)))(tJ:f.bP≠2)
  {cs:List ae} (dD:O[m.sid]?=some (.cells cs)) (eZ:cs[r.length]?=some (.mp f.bP 0)) (uH:r.length<=2 ^ 40) (F:Func) (hF:u.fns[f.fn.toNat]?=some F) (jr:0<=f.fn) (B:Block) (hB:F.blocks[f.blk.toNat]?=some B) (iI:0<=f.blk) (hv:O[f.di]?=some (.map (.int .i64) (f.vals.map gi))) (pH:f.bP≠f.di) (hu:∀e∈f.vals,SV.bh O.length e.2) (i:bE) (hi:B.ins[f.pos]?=some i) (qx:f.pos<=2 ^ 41) (km:i.args.length<=4096) (f':Fr) (fg:f' = { f with pos:=f.pos+1 }) (args:List SV) (dY:args=bN f.vals i.args) (O1:List ak) (dW:O1=O.set f.bP (.cells (aV f'))) (iT:i.op≠13∧i.op≠14) {O2:List ak} (v:SV) (t:Int) (hC:bc Try.prog 75 O1 [.mp 2 0,i.enc,.aE 4 (args.map SV.enc) .sh] (fun r O3=>r=.df [v.enc,aI t]∧O3=O2)) (hlen:O.length<=O2.length) (fY:∀o∈O2,o.upto O2.length) (m8:SV.bh O2.length v) (m2:Mach) (Gd:O2[2]?=some (.cells (aC u m2)))
  (wi:O2[f.bP]?=some (.cells (aV f'))) (E3:O2[f.di]?=some (.map (.int .i64) (f.vals.map gi))) (oI:∀e∈f.vals,SV.bh O2.length e.2) (Ja:f.di≠2) (ht:t=0) :
  bc Try.prog 61 O [.mp 2 0] (fun r O3=>r=.df []∧O3=O2.set f.di (.map (.int .i64) ((cK f.vals i.to v).map gi))):=by
 have gK:=I hf;have eK:=I h0;have dU:=hf;unfold aV at dU;have kB:O[2]?=some (.cells [a9 u.fns,aI u.main,.os m.sid (r.length+1) 1,aI m.left,.v (.bool m.short),.v (.bool m.over),.aE 1 (m.out.map aI) (.tok 3),aI m.fin,aI m.val]):=by
  rw[h0];unfold aC;rw[dh];rfl
 have oZ:((r.length+1:Nat):Int)-1=(r.length:Nat):=by omega
 have z9:=I hi;have hs:=dA hf;have dL:O.length=O1.length:=by rw[dW];simp
 have mZ:[aI f.fn,aI f.blk,aI ((f.pos:Int)+1),aI f.to,.mm f.di]=aV f':=by
  rw[fg];simp[aV]
 have kr:O1[f'.bP]?=some (.cells (aV f')):=by rw[dW,fg];exact hs _
 have sT:O1[f'.di]?=some (.map (.int .i64) (f'.vals.map gi)):=by rw[dW,fg];exact bx hv pH
 have eL:∀o∈O1,o.upto O1.length:=by
  rw[<-dL,dW];refine bq bC hf fun h=>?_;simp only[aV,aw,ae.upto,true_and,and_true]at h ⊢;rw[fg];exact h
 have gn:=iH eL kr sT (by rw[fg,<-dL];exact hu) i.args km;have iS:f'.bP=f.bP:=by rw[fg]
 have j9:f'.vals=f.vals:=by rw[fg]
 rw[iS,j9,<-dY]at gn;rw[iS]at kr;have EH:=I wi;have EP:=I Gd;have E5:=m8.aN;rw[SV.fI]at E5;simp only[aw,ae.upto,true_and,and_true]at E5;have hd:decide (t=0)=true:=decide_eq_true ht;have GM:aV f'=[aI f.fn,aI f.blk,aI ((f.pos:Int)+1),aI f.to,.mm f.di]:=mZ.symm;have Ac:kc O2.length ((cK f.vals i.to v).map gi):=uh fun x hx=>by
  rcases iD hx with q|q
  ·exact oI x q
  rw[q];exact m8
 rw[GM]at wi;have uJ:=bF (k:=f.di) (x:=.map (.int .i64) ((cK f.vals i.to v).map gi)) fY Ac;have iz:=cG (O:=O2) (k:=f.di) (x:=.map (.int .i64) ((cK f.vals i.to v).map gi));refine gb hT true (O2.length) Try.func61 rfl (by kernel_rfl) (by simp[Try.ntmps61]) (by assumption) ?_;show cc Try.prog _ _ _ ⟨137,_,_⟩;dsimp only[Tmp,TypeId,ax];refine aX ?_;simp -dsimp only[simprocAttr,↓aa,zp,kB,oZ,Nat.mul_one,dD,eZ]
 repeat(refine⟨by omega,?_⟩)
 refine⟨ob (by kernel_rfl),?_⟩;refine ah ?_;refine aX ?_;simp -dsimp only[simprocAttr,↓aa,zp,kB,dU,hF,hB,mV]
 repeat(refine⟨by omega,?_⟩)
 refine⟨cm [2,f.bP] O.length [.pure,.pure,.pure,.pure,.rd 0,.pure,.pure,.pure,.rd 1,.pure,.pure,.pure,.pure,.pure,.pure,.rd 1,.pure,.pure,.wr 2 [],.wr 3 [2]] (by simp;omega) (by simp;omega) rfl rfl (by kernel_rfl),bd ?_⟩;simp -dsimp only[bX,ne_eq,Nat.reduceEqDiff,reduceCtorEq];refine aO 3 ([a6 B.params,bD B.ins,aI B.term.kind,aI B.term.arg,aI B.term.n,a6 B.term.cases,aJ B.term.to]) [(0,.mp 2 0),(2,.mp f.bP 0),(3,.ip none [a6 B.params,bD B.ins,aI B.term.kind,aI B.term.arg,aI B.term.n,a6 B.term.cases,aJ B.term.to])] rfl (by rfl) (by omega) (by simp[bu,a7,Go.Av.look]) ?_ ?_ ?_
 ·exact bC
 ·simp[ae.upto,aw,gK,eK,az,Edge.ai,bE.ai]
 refine dd ?_;simp -dsimp only[simprocAttr,↓aa,zp,dU];refine⟨ob (by kernel_rfl),?_⟩;refine ah ?_;apply aP rfl<;>intro h
 ·exact ab h (by omega)
 refine cA ?_;refine aX ?_;simp -dsimp only[simprocAttr,↓aa,zp,dU,hi,Int.toNat_natCast]
 repeat(refine⟨by omega,?_⟩)
 refine⟨cm [f.bP] O.length [.pure,.pure,.pure,.pure,.pure,.rd 0,.pure,.pure,.wr 1 [],.wr 2 [1]] (by simp) (by simp;omega) rfl rfl (by kernel_rfl),bd ?_⟩;simp -dsimp only[bX,ne_eq,Nat.reduceEqDiff,reduceCtorEq];refine aO 4 ([aI i.to,aI i.op,aI i.n,a6 i.args]) [(0,.mp 2 0),(2,.mp f.bP 0),(4,.ip none [aI i.to,aI i.op,aI i.n,a6 i.args])] rfl (by rfl) (by omega) (by simp[bu,a7,Go.Av.look]) ?_ ?_ ?_
 ·exact bC
 ·simp[ae.upto,aw,gK,eK,az]
 refine aX ?_;simp -dsimp only[simprocAttr,↓aa,zp,dU,hs,mZ,<-dW]
 repeat(refine⟨by omega,?_⟩)
 refine ah ?_;refine aA ?_;refine .inr (.inr ⟨_,gn,au (zj ?_)⟩);refine ah ?_;refine aA (ah ?_);refine aj ?_;refine aA (ah ?_);apply aP rfl<;>intro h
 ·exact ab h (by omega)
 refine aA (ah ?_);apply aP rfl<;>intro h
 ·exact ab h (by omega)
 refine aA ?_;refine .inr (.inl ⟨_,_,hC,.inl (au (zj ?_))⟩);refine ah ?_;refine aO 7 [aI v.kind,aI v.n,.aE 4 (v.list.map SV.enc) .sh,eP v.arr] [(0,.mp 2 0),(2,.mp f.bP 0),(4,.ip none [aI i.to,aI i.op,aI i.n,a6 i.args]),(7,.ip none [aI v.kind,aI v.n,.aE 4 (v.list.map SV.enc) .sh,eP v.arr]),(8,aI t)] rfl (by simp only[List.map_cons,List.map_nil,cT,cg,cx]) (by omega) (by simp[bu,a7,Go.Av.look]) fY ?_ ?_
 ·simp[ae.upto,aw,EH,EP,az,E5]
 refine dd ?_;simp -dsimp only[simprocAttr,↓aa,zp,hd];refine ah ?_;refine cE rfl ?_;refine cA ?_;refine j1 ?_;simp -dsimp only[simprocAttr,↓aa,zp,wi,E3,nY];refine⟨ob (by kernel_rfl),?_⟩
 (refine bd ?_;simp -dsimp only[bX,ne_eq,Nat.reduceEqDiff,reduceCtorEq])
 skip
 simp -dsimp only[simprocAttr,↓aa,zp,zr,Try.results61,iz,List.length_set];exact⟨uJ,trivial⟩
theorem yK{u:bR}{m:Mach}{O:List ak}(bC:∀o∈O,o.upto O.length)(h0:O[2]?=some (.cells (aC u m)))(f:Fr)(r:List Fr)(dh:m.frames=f::r)(hf:O[f.bP]?=some (.cells (aV f)))(tJ:f.bP≠2)
  {cs:List ae} (dD:O[m.sid]?=some (.cells cs)) (eZ:cs[r.length]?=some (.mp f.bP 0)) (uH:r.length<=2 ^ 40) (F:Func) (hF:u.fns[f.fn.toNat]?=some F) (jr:0<=f.fn) (B:Block) (hB:F.blocks[f.blk.toNat]?=some B) (iI:0<=f.blk) (hv:O[f.di]?=some (.map (.int .i64) (f.vals.map gi))) (pH:f.bP≠f.di) (hu:∀e∈f.vals,SV.bh O.length e.2) (i:bE) (hi:B.ins[f.pos]?=some i) (qx:f.pos<=2 ^ 41) (km:i.args.length<=4096) (f':Fr) (fg:f' = { f with pos:=f.pos+1 }) (args:List SV) (dY:args=bN f.vals i.args) (O1:List ak) (dW:O1=O.set f.bP (.cells (aV f'))) (iT:i.op≠13∧i.op≠14) {O2:List ak} (v:SV) (t:Int) (hC:bc Try.prog 75 O1 [.mp 2 0,i.enc,.aE 4 (args.map SV.enc) .sh] (fun r O3=>r=.df [v.enc,aI t]∧O3=O2)) (hlen:O.length<=O2.length) (fY:∀o∈O2,o.upto O2.length) (m8:SV.bh O2.length v) (m2:Mach) (Gd:O2[2]?=some (.cells (aC u m2)))
  (wi:O2[f.bP]?=some (.cells (aV f'))) (E3:O2[f.di]?=some (.map (.int .i64) (f.vals.map gi))) (oI:∀e∈f.vals,SV.bh O2.length e.2) (Ja:f.di≠2) (ht:t≠0) :
  bc Try.prog 61 O [.mp 2 0] (fun r O3=>r=.df []∧O3=(O2.set 2 (.cells (aC u (m2.stop t 0)))).set f.di (.map (.int .i64) ((cK f.vals i.to v).map gi))):=by
 have gK:=I hf;have eK:=I h0;have dU:=hf;unfold aV at dU;have kB:O[2]?=some (.cells [a9 u.fns,aI u.main,.os m.sid (r.length+1) 1,aI m.left,.v (.bool m.short),.v (.bool m.over),.aE 1 (m.out.map aI) (.tok 3),aI m.fin,aI m.val]):=by
  rw[h0];unfold aC;rw[dh];rfl
 have oZ:((r.length+1:Nat):Int)-1=(r.length:Nat):=by omega
 have z9:=I hi;have hs:=dA hf;have dL:O.length=O1.length:=by rw[dW];simp
 have mZ:[aI f.fn,aI f.blk,aI ((f.pos:Int)+1),aI f.to,.mm f.di]=aV f':=by
  rw[fg];simp[aV]
 have kr:O1[f'.bP]?=some (.cells (aV f')):=by rw[dW,fg];exact hs _
 have sT:O1[f'.di]?=some (.map (.int .i64) (f'.vals.map gi)):=by rw[dW,fg];exact bx hv pH
 have eL:∀o∈O1,o.upto O1.length:=by
  rw[<-dL,dW];refine bq bC hf fun h=>?_;simp only[aV,aw,ae.upto,true_and,and_true]at h ⊢;rw[fg];exact h
 have gn:=iH eL kr sT (by rw[fg,<-dL];exact hu) i.args km;have iS:f'.bP=f.bP:=by rw[fg]
 have j9:f'.vals=f.vals:=by rw[fg]
 rw[iS,j9,<-dY]at gn;rw[iS]at kr;have EH:=I wi;have EP:=I Gd;have E5:=m8.aN;rw[SV.fI]at E5;simp only[aw,ae.upto,true_and,and_true]at E5;have hd:decide (t=0)=false:=decide_eq_false ht;have GM:aV f'=[aI f.fn,aI f.blk,aI ((f.pos:Int)+1),aI f.to,.mm f.di]:=mZ.symm;have Ac:kc O2.length ((cK f.vals i.to v).map gi):=uh fun x hx=>by
  rcases iD hx with q|q
  ·exact oI x q
  rw[q];exact m8
 have iV:=ju fY Gd t 0;obtain⟨O3,Gh⟩:∃O3,O3=O2.set 2 (.cells (aC u (m2.stop t 0))):=⟨_,rfl⟩
 have DP:O2.length=O3.length:=by rw[Gh];simp
 rw[<-Gh]at iV ⊢;have IM:O3[f.bP]?=some (.cells (aV f')):=by rw[Gh];exact bx wi tJ.symm
 have JM:O3[f.di]?=some (.map (.int .i64) (f.vals.map gi)):=by rw[Gh];exact bx E3 Ja.symm
 rw[GM]at IM;have uJ:∀o∈O3.set f.di (.map (.int .i64) ((cK f.vals i.to v).map gi)),o.upto O3.length:=by
  rw[<-DP];refine bF ?_ Ac;rw[Gh];exact bq fY Gd (fun h=>b9 h rfl)
 have iz:=cG (O:=O3) (k:=f.di) (x:=.map (.int .i64) ((cK f.vals i.to v).map gi));refine gb hT true (O2.length) Try.func61 rfl (by kernel_rfl) (by simp[Try.ntmps61]) (by assumption) ?_;show cc Try.prog _ _ _ ⟨137,_,_⟩;dsimp only[Tmp,TypeId,ax];refine aX ?_;simp -dsimp only[simprocAttr,↓aa,zp,kB,oZ,Nat.mul_one,dD,eZ]
 repeat(refine⟨by omega,?_⟩)
 refine⟨ob (by kernel_rfl),?_⟩;refine ah ?_;refine aX ?_;simp -dsimp only[simprocAttr,↓aa,zp,kB,dU,hF,hB,mV]
 repeat(refine⟨by omega,?_⟩)
 refine⟨cm [2,f.bP] O.length [.pure,.pure,.pure,.pure,.rd 0,.pure,.pure,.pure,.rd 1,.pure,.pure,.pure,.pure,.pure,.pure,.rd 1,.pure,.pure,.wr 2 [],.wr 3 [2]] (by simp;omega) (by simp;omega) rfl rfl (by kernel_rfl),bd ?_⟩;simp -dsimp only[bX,ne_eq,Nat.reduceEqDiff,reduceCtorEq];refine aO 3 ([a6 B.params,bD B.ins,aI B.term.kind,aI B.term.arg,aI B.term.n,a6 B.term.cases,aJ B.term.to]) [(0,.mp 2 0),(2,.mp f.bP 0),(3,.ip none [a6 B.params,bD B.ins,aI B.term.kind,aI B.term.arg,aI B.term.n,a6 B.term.cases,aJ B.term.to])] rfl (by rfl) (by omega) (by simp[bu,a7,Go.Av.look]) ?_ ?_ ?_
 ·exact bC
 ·simp[ae.upto,aw,gK,eK,az,Edge.ai,bE.ai]
 refine dd ?_;simp -dsimp only[simprocAttr,↓aa,zp,dU];refine⟨ob (by kernel_rfl),?_⟩;refine ah ?_;apply aP rfl<;>intro h
 ·exact ab h (by omega)
 refine cA ?_;refine aX ?_;simp -dsimp only[simprocAttr,↓aa,zp,dU,hi,Int.toNat_natCast]
 repeat(refine⟨by omega,?_⟩)
 refine⟨cm [f.bP] O.length [.pure,.pure,.pure,.pure,.pure,.rd 0,.pure,.pure,.wr 1 [],.wr 2 [1]] (by simp) (by simp;omega) rfl rfl (by kernel_rfl),bd ?_⟩;simp -dsimp only[bX,ne_eq,Nat.reduceEqDiff,reduceCtorEq];refine aO 4 ([aI i.to,aI i.op,aI i.n,a6 i.args]) [(0,.mp 2 0),(2,.mp f.bP 0),(4,.ip none [aI i.to,aI i.op,aI i.n,a6 i.args])] rfl (by rfl) (by omega) (by simp[bu,a7,Go.Av.look]) ?_ ?_ ?_
 ·exact bC
 ·simp[ae.upto,aw,gK,eK,az]
 refine aX ?_;simp -dsimp only[simprocAttr,↓aa,zp,dU,hs,mZ,<-dW]
 repeat(refine⟨by omega,?_⟩)
 refine ah ?_;refine aA ?_;refine .inr (.inr ⟨_,gn,au (zj ?_)⟩);refine ah ?_;refine aA (ah ?_);refine aj ?_;refine aA (ah ?_);apply aP rfl<;>intro h
 ·exact ab h (by omega)
 refine aA (ah ?_);apply aP rfl<;>intro h
 ·exact ab h (by omega)
 refine aA ?_;refine .inr (.inl ⟨_,_,hC,.inl (au (zj ?_))⟩);refine ah ?_;refine aO 7 [aI v.kind,aI v.n,.aE 4 (v.list.map SV.enc) .sh,eP v.arr] [(0,.mp 2 0),(2,.mp f.bP 0),(4,.ip none [aI i.to,aI i.op,aI i.n,a6 i.args]),(7,.ip none [aI v.kind,aI v.n,.aE 4 (v.list.map SV.enc) .sh,eP v.arr]),(8,aI t)] rfl (by simp only[List.map_cons,List.map_nil,cT,cg,cx]) (by omega) (by simp[bu,a7,Go.Av.look]) fY ?_ ?_
 ·simp[ae.upto,aw,EH,EP,az,E5]
 refine dd ?_;simp -dsimp only[simprocAttr,↓aa,zp,hd];refine ah ?_;refine cS rfl ?_;refine dc ?_;refine .inr (.inl ⟨_,_,iV,.inl (au (zj ?_))⟩);refine ah ?_;refine j1 ?_;simp -dsimp only[simprocAttr,↓aa,zp,IM,JM,nY];refine⟨ob (by kernel_rfl),?_⟩
 (refine bd ?_;simp -dsimp only[bX,ne_eq,Nat.reduceEqDiff,reduceCtorEq])
 skip
 simp -dsimp only[simprocAttr,↓aa,zp,zr,Try.results61,DP,iz,List.length_set];exact⟨uJ,trivial⟩
end Go.Proofs.Ytkhnjeblbiocaaa
namespace Go.Proofs.Ytkhnjeblbiocaaa
open Go.Av
def Holds(L:List (Nat×ak))(O:List ak):Prop:=∀p∈L,O[p.1]?=some p.2
def ed(L:List (Nat×ak)):List Nat:=L.map Prod.fst
theorem dX(A B:List (Nat×ak)):ed (A++B)=ed A++ed B:=by simp[ed]
theorem iA(p:Nat×ak)(B:List (Nat×ak)):ed (p::B)=p.1::ed B:=rfl
theorem gm{L:List (Nat×ak)}{p:Nat×ak}(h:p∈L):p.1∈ed L:=List.mem_map.2 ⟨p,h,rfl⟩
theorem gl{A B:List (Nat×ak)}{id:Nat}{y x:ak}{O:List ak}(h:Holds (A++(id,y)::B) O)(hn:(ed (A++(id,y)::B)).Nodup):Holds (A++(id,x)::B) (O.set id x):=by
 rw[dX,iA,List.nodup_append]at hn;obtain⟨_,hB,Ji⟩:=hn;rw[List.nodup_cons]at hB;intro p hp;rcases List.mem_append.1 hp with q|q
 ·have cj:id≠p.1:=fun e=>Ji p.1 (gm q) id List.mem_cons_self e.symm;exact bx (h p (by simp[q])) cj
 rcases List.mem_cons.1 q with rfl|q
 ·exact vz (h (id,y) (by simp))
 have cj:id≠p.1:=fun e=>hB.1 (by
  show id∈ed B;rw[e];exact gm q)
 exact bx (h p (by simp[q])) cj
theorem iB(A B:List (Nat×ak))(id:Nat)(y x:ak):ed (A++(id,y)::B)=ed (A++(id,x)::B):=by simp[ed]
theorem Holds.sub{L M:List (Nat×ak)}{O:List ak}(h:Holds L O)(hs:∀p∈M,p∈L):Holds M O:=fun p hp=>h p (hs p hp)
theorem Holds.lt{L:List (Nat×ak)}{O:List ak}(h:Holds L O):∀k∈ed L,k<O.length:=fun k hk=>by
 obtain⟨p,hp,rfl⟩:=List.mem_map.1 hk;exact I (h p hp)
def kN:List Fr->List (Nat×ak)
 | []=>[]
 | f::r=>(f.bP,.cells (aV f))::(f.di,.map (.int .i64) (f.vals.map gi))::kN r
def dC:List vp->List (Nat×ak)
 | []=>[]
 | a::r=>(a.kd,.cells [.ms a.bW 0 a.l.length a.l.length])::(a.bW,.cells (ao (a.l.map SV.enc)))::dC r
theorem mT(A B:List vp):dC (A++B)=dC A++dC B:=by
 induction A with
 | nil=>rfl
 | cons a r ih=>simp[dC,ih]
def ck(u:bR)(m:Mach)(rest:List ae):List (Nat×ak) :=
 (1,.cells [.aE 1 [] .ex,aI 0,aI 0])::(2,.cells (aC u m))::(3,.spare m.out.length)::(m.sid,.cells (eO m.frames++rest))::(kN m.frames++dC m.heap)
structure Tl(u:bR)(m:Mach)(rest:List ae)(O:List ak):Prop where
 len:O.length=m.next
 upto:∀o∈O,o.upto O.length
 holds:Holds (ck u m rest) O
 nodup:(ed (ck u m rest)).Nodup
namespace Tl
variable {u:bR} {m:Mach} {rest:List ae} {O:List ak}
theorem fZ(h:Tl u m rest O):O[2]?=some (.cells (aC u m)):=h.holds (2,_) (by simp[ck])
theorem outs(h:Tl u m rest O):O[3]?=some (.spare m.out.length):=h.holds (3,_) (by simp[ck])
theorem stack(h:Tl u m rest O):O[m.sid]?=some (.cells (eO m.frames++rest)):=h.holds (m.sid,_) (by simp[ck])
theorem mq{l:List Fr}{f:Fr}(hf:f∈l):(f.bP,ak.cells (aV f))∈kN l∧(f.di,ak.map (.int .i64) (f.vals.map gi))∈kN l:=by
 induction l with
 | nil=>simp at hf
 | cons g r ih =>
  rcases List.mem_cons.1 hf with rfl|hf
  ·simp[kN]
  simp[kN,ih hf]
theorem so{l:List vp}{a:vp}(ha:a∈l):(a.kd,ak.cells [.ms a.bW 0 a.l.length a.l.length])∈dC l∧(a.bW,ak.cells (ao (a.l.map SV.enc)))∈dC l:=by
 induction l with
 | nil=>simp at ha
 | cons g r ih =>
  rcases List.mem_cons.1 ha with rfl|ha
  ·simp[dC]
  simp[dC,ih ha]
theorem frame(h:Tl u m rest O){f:Fr}(hf:f∈m.frames):O[f.bP]?=some (.cells (aV f))∧O[f.di]?=some (.map (.int .i64) (f.vals.map gi)) :=
 ⟨h.holds (f.bP,_) (by simp[ck,mq hf]),h.holds (f.di,_) (by simp[ck,mq hf])⟩
theorem arr(h:Tl u m rest O){a:vp}(ha:a∈m.heap):O[a.kd]?=some (.cells [.ms a.bW 0 a.l.length a.l.length])∧O[a.bW]?=some (.cells (ao (a.l.map SV.enc))) :=
 ⟨h.holds (a.kd,_) (by simp[ck,so ha]),h.holds (a.bW,_) (by simp[ck,so ha])⟩
theorem under(h:Tl u m rest O){v:SV}(hv:fW u m v):SV.bh O.length v :=
 SV.Wf.under (fun id ⟨a,ha,e⟩=>by
  rw[<-e];exact I (h.arr ha).1) hv
theorem mD(h:Tl u m rest O)(m':Mach)(h1:m'.sid=m.sid)(h2:m'.frames=m.frames)(h3:m'.heap=m.heap)(h4:m'.out.length=m.out.length)(h5:m'.next=m.next):Tl u m' rest (O.set 2 (.cells (aC u m'))):=by
 have e:ck u m' rest=[(1,.cells [.aE 1 [] .ex,aI 0,aI 0])]++(2,.cells (aC u m'))::((3,.spare m.out.length)::(m.sid,.cells (eO m.frames++rest))::(kN m.frames++dC m.heap)):=by
  simp[ck,h1,h2,h3,h4]
 refine⟨by simp[h.len,h5],?_,?_,?_⟩
 ·rw[List.length_set];exact bq h.upto h.fZ (fun q=>b9 q h1)
 ·rw[e];exact gl (A:=[_]) (y:=.cells (aC u m)) h.holds h.nodup
 rw[e,<-iB _ _ _ (.cells (aC u m))];exact h.nodup
theorem Fa(h:Tl u m rest O)(m':Mach)(h1:m'.sid=m.sid)(h2:m'.frames=m.frames)(h3:m'.heap=m.heap)(h5:m'.next=m.next):Tl u m' rest ((O.set 3 (.spare m'.out.length)).set 2 (.cells (aC u m'))):=by
 have e:ck u m' rest=[(1,.cells [.aE 1 [] .ex,aI 0,aI 0])]++(2,.cells (aC u m'))::((3,.spare m'.out.length)::(m.sid,.cells (eO m.frames++rest))::(kN m.frames++dC m.heap)):=by
  simp[ck,h1,h2,h3]
 have hs:=gl (A:=[(1,.cells [.aE 1 [] .ex,aI 0,aI 0]),(2,.cells (aC u m))]) (x:=.spare m'.out.length) (y:=.spare m.out.length) h.holds h.nodup;have hk:=iB [(1,.cells [.aE 1 [] .ex,aI 0,aI 0]),(2,.cells (aC u m))] ((m.sid,.cells (eO m.frames++rest))::(kN m.frames++dC m.heap)) 3 (.spare m.out.length) (.spare m'.out.length);have hn:(ed ([(1,.cells [.aE 1 [] .ex,aI 0,aI 0]),(2,.cells (aC u m))]++(3,.spare m'.out.length)::((m.sid,.cells (eO m.frames++rest))::(kN m.frames++dC m.heap)))).Nodup:=by
  rw[<-hk];exact h.nodup
 refine⟨by simp[h.len,h5],?_,?_,?_⟩
 ·rw[List.length_set,List.length_set];exact bq (bF h.upto trivial) (bx h.fZ (by omega)) (fun q=>b9 q h1)
 ·rw[e];exact gl (A:=[_]) (y:=.cells (aC u m)) hs hn
 rw[e,<-iB _ _ _ (.cells (aC u m))];exact hn
theorem bf(h:Tl u m rest O){f f':Fr}{r:List Fr}(dh:m.frames=f::r)(h1:f'.bP=f.bP)(h2:f'.di=f.di)(h3:f'.vals=f.vals):Tl u (m.bf f') rest (O.set f.bP (.cells (aV f'))):=by
 have hm:aC u (m.bf f')=aC u m:=by simp[aC,Mach.bf,dh]
 have hp:eO (f'::r)=eO (f::r):=by simp[eO,h1]
 have e:ck u (m.bf f') rest=[(1,.cells [.aE 1 [] .ex,aI 0,aI 0]),(2,.cells (aC u m)),(3,.spare m.out.length),(m.sid,.cells (eO m.frames++rest))]++(f.bP,.cells (aV f'))::((f.di,.map (.int .i64) (f.vals.map gi))::(kN r++dC m.heap)):=by
  unfold ck;rw[hm];simp[Mach.bf,dh,kN,h1,h2,h3,hp]
 have e0:ck u m rest=[(1,.cells [.aE 1 [] .ex,aI 0,aI 0]),(2,.cells (aC u m)),(3,.spare m.out.length),(m.sid,.cells (eO m.frames++rest))]++(f.bP,.cells (aV f))::((f.di,.map (.int .i64) (f.vals.map gi))::(kN r++dC m.heap)):=by
  simp[ck,dh,kN]
 have hh:=h.holds;have hn:=h.nodup;rw[e0]at hh hn;refine⟨by simp[h.len,Mach.bf],?_,?_,?_⟩
 ·rw[List.length_set];refine bq h.upto (h.frame (f:=f) (by rw[dh];simp)).1 (fun q=>?_);simp only[aV,aw,ae.upto,true_and,and_true,h2]at q ⊢;exact q
 ·rw[e];exact gl hh hn
 rw[e,<-iB _ _ _ (.cells (aV f))];exact hn
theorem tp(h:Tl u m rest O){f f':Fr}{r:List Fr}(dh:m.frames=f::r)(h1:f' = { f with vals:=f'.vals })(hu:∀e∈f'.vals,SV.bh O.length e.2):Tl u (m.bf f') rest (O.set f.di (.map (.int .i64) (f'.vals.map gi))):=by
 have hm:aC u (m.bf f')=aC u m:=by simp[aC,Mach.bf,dh]
 have iS:f'.bP=f.bP:=by rw[h1]
 have rB:f'.di=f.di:=by rw[h1]
 have z6:aV f'=aV f:=by rw[h1];rfl
 have hp:eO (f'::r)=eO (f::r):=by simp[eO,iS]
 have e:ck u (m.bf f') rest=[(1,.cells [.aE 1 [] .ex,aI 0,aI 0]),(2,.cells (aC u m)),(3,.spare m.out.length),(m.sid,.cells (eO m.frames++rest)),(f.bP,.cells (aV f))]++(f.di,.map (.int .i64) (f'.vals.map gi))::(kN r++dC m.heap):=by
  unfold ck;rw[hm];simp[Mach.bf,dh,kN,iS,rB,z6,hp]
 have e0:ck u m rest=[(1,.cells [.aE 1 [] .ex,aI 0,aI 0]),(2,.cells (aC u m)),(3,.spare m.out.length),(m.sid,.cells (eO m.frames++rest)),(f.bP,.cells (aV f))]++(f.di,.map (.int .i64) (f.vals.map gi))::(kN r++dC m.heap):=by
  simp[ck,dh,kN]
 have hh:=h.holds;have hn:=h.nodup;rw[e0]at hh hn;refine⟨by simp[h.len,Mach.bf],?_,?_,?_⟩
 ·rw[List.length_set];exact bF h.upto (uh hu)
 ·rw[e];exact gl hh hn
 rw[e,<-iB _ _ _ (.map (.int .i64) (f.vals.map gi))];exact hn
theorem pop(h:Tl u m rest O){f g g':Fr}{r:List Fr}(dh:m.frames=f::g::r)(h1:g' = { g with vals:=g'.vals })(hu:∀e∈g'.vals,SV.bh O.length e.2)(m':Mach)(fm:m' = { m with frames:=g'::r }) :
  Tl u m' (.mp f.bP 0::rest) ((O.set 2 (.cells (aC u m'))).set g.di (.map (.int .i64) (g'.vals.map gi))):=by
 have iS:g'.bP=g.bP:=by rw[h1]
 have rB:g'.di=g.di:=by rw[h1]
 have z6:aV g'=aV g:=by rw[h1];rfl
 have hp:eO (f::g::r)++rest=eO (g'::r)++.mp f.bP 0::rest:=by simp[eO,iS]
 have e0:ck u m rest=[(1,.cells [.aE 1 [] .ex,aI 0,aI 0])]++(2,.cells (aC u m))::((3,.spare m.out.length)::(m.sid,.cells (eO (g'::r)++.mp f.bP 0::rest))::(f.bP,.cells (aV f))::(f.di,.map (.int .i64) (f.vals.map gi))::(g.bP,.cells (aV g))::(g.di,.map (.int .i64) (g.vals.map gi))::(kN r++dC m.heap)):=by
  simp[ck,dh,kN,<-hp]
 have e1:ck u m' (.mp f.bP 0::rest)=[(1,.cells [.aE 1 [] .ex,aI 0,aI 0]),(2,.cells (aC u m')),(3,.spare m.out.length),(m.sid,.cells (eO (g'::r)++.mp f.bP 0::rest)),(g.bP,.cells (aV g))]++(g.di,.map (.int .i64) (g'.vals.map gi))::(kN r++dC m.heap):=by
  rw[fm];simp[ck,kN,iS,rB,z6]
 have hh:=h.holds;have hn:=h.nodup;rw[e0]at hh hn;have h2:=gl (x:=.cells (aC u m')) hh hn;have kC:∀p∈[(1,ak.cells [.aE 1 [] .ex,aI 0,aI 0]),(2,.cells (aC u m')),(3,.spare m.out.length),(m.sid,.cells (eO (g'::r)++.mp f.bP 0::rest)),(g.bP,.cells (aV g))]++(g.di,.map (.int .i64) (g.vals.map gi))::(kN r++dC m.heap),p∈[(1,.cells [.aE 1 [] .ex,aI 0,aI 0])]++(2,.cells (aC u m'))::((3,.spare m.out.length)::(m.sid,.cells (eO (g'::r)++.mp f.bP 0::rest))::(f.bP,.cells (aV f))::(f.di,.map (.int .i64) (f.vals.map gi))::(g.bP,.cells (aV g))::(g.di,.map (.int .i64) (g.vals.map gi))::(kN r++dC m.heap)):=by
  intro p hp;simp only[List.cons_append,List.nil_append,List.mem_cons]at hp ⊢;rcases hp with q|q|q|q|q|q|q
  all_goals simp[q]
 have IY:(ed ([(1,ak.cells [.aE 1 [] .ex,aI 0,aI 0]),(2,.cells (aC u m')),(3,.spare m.out.length),(m.sid,.cells (eO (g'::r)++.mp f.bP 0::rest)),(g.bP,.cells (aV g))]++(g.di,.map (.int .i64) (g.vals.map gi))::(kN r++dC m.heap))).Nodup:=by
  refine List.Nodup.sublist ?_ hn;simp only[ed,List.map_cons,List.map_append,List.map_nil,List.cons_append,List.nil_append];exact((((List.Sublist.refl _).cons _).cons _).cons₂ _ |>.cons₂ _ |>.cons₂ _ |>.cons₂ _)
 have hg:=h2.sub kC;refine⟨by rw[fm];simp[h.len],?_,?_,?_⟩
 ·rw[List.length_set,List.length_set];refine bF (bq h.upto h.fZ (fun q=>b9 q (by rw[fm]))) (uh hu)
 ·rw[e1];exact gl hg IY
 rw[e1,<-iB _ _ _ (.map (.int .i64) (g.vals.map gi))];exact IY
theorem last(h:Tl u m rest O){f:Fr}(dh:m.frames=[f])(m':Mach)(h1:m'.sid=m.sid)(h2:m'.frames=[])(h3:m'.heap=m.heap)(h4:m'.out.length=m.out.length)(h5:m'.next=m.next):Tl u m' (.mp f.bP 0::rest) (O.set 2 (.cells (aC u m'))):=by
 have e0:ck u m rest=[(1,.cells [.aE 1 [] .ex,aI 0,aI 0])]++(2,.cells (aC u m))::((3,.spare m.out.length)::(m.sid,.cells (.mp f.bP 0::rest))::(f.bP,.cells (aV f))::(f.di,.map (.int .i64) (f.vals.map gi))::dC m.heap):=by
  simp[ck,dh,kN,eO]
 have e1:ck u m' (.mp f.bP 0::rest)=[(1,.cells [.aE 1 [] .ex,aI 0,aI 0]),(2,.cells (aC u m')),(3,.spare m.out.length),(m.sid,.cells (.mp f.bP 0::rest))]++dC m.heap:=by
  simp[ck,h1,h2,h3,h4,kN,eO]
 have hh:=h.holds;have hn:=h.nodup;rw[e0]at hh hn;refine⟨by simp[h.len,h5],?_,?_,?_⟩
 ·rw[List.length_set];exact bq h.upto h.fZ (fun q=>b9 q h1)
 ·rw[e1];refine(gl (x:=.cells (aC u m')) hh hn).sub fun p hp=>?_;simp only[List.cons_append,List.nil_append,List.mem_cons]at hp ⊢;rcases hp with q|q|q|q|q
  all_goals simp[q]
 rw[e1];refine List.Nodup.sublist ?_ hn;simp only[ed,List.map_cons,List.map_append,List.map_nil,List.cons_append,List.nil_append];exact((((List.Sublist.refl _).cons _).cons _).cons₂ _ |>.cons₂ _ |>.cons₂ _ |>.cons₂ _)
end Tl
end Go.Proofs.Ytkhnjeblbiocaaa
namespace Go.Proofs.Ytkhnjeblbiocaaa
open Go.Av
namespace Tl
variable {u:bR} {m:Mach} {rest:List ae} {O:List ak}
theorem keys(u:bR)(m:Mach)(rest:List ae):ed (ck u m rest)=1::2::3::m.sid::ed (kN m.frames++dC m.heap):=rfl
theorem others(h:Tl u m rest O):Holds (kN m.frames++dC m.heap) O∧(∀k∈ed (kN m.frames++dC m.heap),k≠1∧k≠2∧k≠3∧k≠m.sid∧k<O.length)∧(ed (kN m.frames++dC m.heap)).Nodup∧m.sid≠1∧m.sid≠2∧m.sid≠3∧m.sid<O.length∧3<O.length:=by
 have hn:=h.nodup;have aZ:=h.holds.lt;rw[keys]at hn aZ;simp only[List.nodup_cons,List.mem_cons,not_or]at hn;obtain⟨⟨a1,a2,a3,a4⟩,⟨b1,b2,b3⟩,⟨c1,c2⟩,d,e⟩:=hn;refine⟨fun p hp=>h.holds p (by simp only[ck,List.mem_cons];exact .inr (.inr (.inr (.inr hp)))),fun k hk=>⟨?_,?_,?_,?_,aZ k (by simp[hk])⟩,e,fun q=>a3 q.symm,fun q=>b2 q.symm,fun q=>c1 q.symm,aZ _ (by simp),aZ 3 (by simp)⟩
 ·rintro rfl;exact a4 hk
 ·rintro rfl;exact b3 hk
 ·rintro rfl;exact c2 hk
 rintro rfl;exact d hk
theorem push(h:Tl u m rest O)(fn to:Int)(args:List SV)(m':Mach)(fm:m'=m.enter u fn args to)(hu:∀v∈args,SV.bh O.length v) :
  Tl u m' [] (((O.set m.sid .gone).set 2 (.cells (aC u m'))) ++
   [.map (.int .i64) ((cH [] (aD (aL u fn) 0).params args).map gi),.cells [aI fn,aI 0,aI 0,aI to,.mm O.length],.cells (kF (eO m.frames++rest) m.frames.length (O.length+1))]):=by
 obtain⟨ho,hk,wv,s1,s2,s3,s4,s5⟩:=h.others;have hN:=h.len;have qx:(eO m.frames).length=m.frames.length:=by simp[eO]
 obtain⟨O2,rY⟩:∃O2,O2=(O.set m.sid .gone).set 2 (.cells (aC u m')):=⟨_,rfl⟩
 have uE:O2.length=O.length:=by rw[rY];simp
 have DS:kF (eO m.frames++rest) m.frames.length (O.length+1)=eO m'.frames++[]:=by
  rw[fm];unfold kF;rw[List.take_append_of_le_length (by omega),List.take_of_length_le (by omega)];simp[eO,Mach.enter,hN]
 rw[DS,<-rY];have e1:ck u m' []=(1,.cells [.aE 1 [] .ex,aI 0,aI 0])::(2,.cells (aC u m'))::(3,.spare m.out.length)::(O.length+2,.cells (eO m'.frames++[]))::(O.length+1,.cells [aI fn,aI 0,aI 0,aI to,.mm O.length])::(O.length,.map (.int .i64) ((cH [] (aD (aL u fn) 0).params args).map gi))::(kN m.frames++dC m.heap):=by
  rw[fm];simp[ck,Mach.enter,kN,hN,aV]
 have hold:∀k o,O[k]?=some o->k≠m.sid->k≠2->∀X,(O2++X)[k]?=some o:=fun k o hk h1 h2 X=>by
  refine bJ ?_;rw[rY];exact bx (bx hk (Ne.symm h1)) (Ne.symm h2)
 refine⟨by rw[fm];simp[uE,Mach.enter,hN],?_,?_,?_⟩
 ·have hlen:(O2++[ak.map (.int .i64) ((cH [] (aD (aL u fn) 0).params args).map gi),.cells [aI fn,aI 0,aI 0,aI to,.mm O.length],.cells (eO m'.frames++[])]).length=O.length+3:=by simp[uE]
  rw[hlen];intro o ic;rcases List.mem_append.1 ic with q|q
  ·rw[rY]at q;refine bq (n:=O.length+3) (ds:=aC u m') (bF (k:=m.sid) (x:=.gone) (fun o ho=>ak.cu (by omega) (h.upto o ho)) trivial) (bx h.fZ s2) (fun q=>?_) o q;simp only[aC,aw,ae.upto,az,Func.ai,true_and,and_true,fm,Mach.enter]at q ⊢;omega
  simp only[List.mem_cons,List.mem_nil_iff,or_false]at q;rcases q with rfl|rfl|rfl
  ·refine uh fun x hx=>?_;rcases jt hx with q|q
   ·simp at q
   exact(hu _ q).mono (by omega)
  ·simp[ak.upto,aw,ae.upto]
  simp only[ak.upto,List.append_nil,aY];intro x hx;simp only[eO,List.mem_map,List.mem_reverse]at hx;obtain⟨f,hf,rfl⟩:=hx;rw[fm]at hf;simp only[Mach.enter,List.mem_cons]at hf;rcases hf with rfl|hf
  ·simp[ae.upto,hN]
  have:=I (h.frame hf).1;simp only[ae.upto];omega
 ·rw[e1];intro p hp;simp only[List.mem_cons]at hp;rcases hp with rfl|rfl|rfl|rfl|rfl|rfl|hp
  ·exact hold 1 _ (h.holds (1,_) (by simp[ck])) (fun e=>s1 e.symm) (by omega) _
  ·refine bJ ?_;rw[rY];exact vz (bx h.fZ s2)
  ·exact hold 3 _ h.outs (fun e=>s3 e.symm) (by omega) _
  ·show(O2++_)[O.length+2]?=_;rw[<-uE,j3];rfl
  ·show(O2++_)[O.length+1]?=_;rw[<-uE,j3];rfl
  ·show(O2++_)[O.length]?=_;rw[<-uE,xn];rfl
  have:=hk p.1 (gm hp);exact hold p.1 _ (ho p hp) this.2.2.2.1 this.2.1 _
 rw[e1];simp only[iA,List.nodup_cons,List.mem_cons,not_or];refine⟨⟨by omega,by omega,by omega,by omega,by omega,fun q=>(hk 1 q).1 rfl⟩,⟨by omega,by omega,by omega,by omega,fun q=>(hk 2 q).2.1 rfl⟩,⟨by omega,by omega,by omega,fun q=>(hk 3 q).2.2.1 rfl⟩,⟨by omega,by omega,fun q=>?_⟩,⟨by omega,fun q=>?_⟩,fun q=>?_,wv⟩
 ·have:=(hk _ q).2.2.2.2;omega
 ·have:=(hk _ q).2.2.2.2;omega
 have:=(hk _ q).2.2.2.2;omega
theorem og:∀(l:List vp) (a:vp) (x:List SV),a∈l->(ed (dC l)).Nodup->∃X Y,l=X++a::Y∧Mach.jf l (some a.kd) x=X++⟨a.kd,a.bW,x⟩::Y
 | [],_,_,h,_=>by simp at h
 | b::r,a,x,h,hn=>by
  unfold Mach.jf;rcases List.mem_cons.1 h with rfl|h
  ·exact⟨[],r,rfl,by simp⟩
  have cj:some a.kd≠some b.kd:=fun e=>by
   simp only[Option.some.injEq]at e;simp only[dC,iA,List.nodup_cons,List.mem_cons,not_or]at hn;exact hn.1.2 (by
    rw[<-e];exact gm (so h).1)
  rw[if_neg cj];simp only[dC,iA,List.nodup_cons]at hn;obtain⟨X,Y,h1,h2⟩:=og r a x h hn.2.2;exact⟨b::X,Y,by simp[h1],by simp[h2]⟩
theorem CG(h:Tl u m rest O){a:vp}(ha:a∈m.heap)(l:List SV)(hl:l.length=a.l.length)(hu:∀v∈l,SV.bh O.length v)(m':Mach)(fm:m' = { m with heap:=Mach.jf m.heap (some a.kd) l }):Tl u m' rest (O.set a.bW (.cells (ao (l.map SV.enc)))):=by
 obtain⟨ho,hk,wv,s1,s2,s3,s4,s5⟩:=h.others;obtain⟨X,Y,e1,e2⟩:=og m.heap a l ha (by
  rw[dX,List.nodup_append]at wv;exact wv.2.1)
 have xz:aC u m'=aC u m:=by rw[fm];rfl
 have e0:ck u m rest=((1,.cells [.aE 1 [] .ex,aI 0,aI 0])::(2,.cells (aC u m))::(3,.spare m.out.length)::(m.sid,.cells (eO m.frames++rest))::(kN m.frames++(dC X++[(a.kd,.cells [.ms a.bW 0 a.l.length a.l.length])])))++(a.bW,.cells (ao (a.l.map SV.enc)))::dC Y:=by
  unfold ck;rw[e1,mT];simp[dC]
 have e3:ck u m' rest=((1,.cells [.aE 1 [] .ex,aI 0,aI 0])::(2,.cells (aC u m))::(3,.spare m.out.length)::(m.sid,.cells (eO m.frames++rest))::(kN m.frames++(dC X++[(a.kd,.cells [.ms a.bW 0 a.l.length a.l.length])])))++(a.bW,.cells (ao (l.map SV.enc)))::dC Y:=by
  unfold ck;rw[xz,fm];simp only[e2,mT];simp[dC,hl]
 have hh:=h.holds;have hn:=h.nodup;rw[e0]at hh hn;refine⟨by rw[fm];simp[h.len],?_,?_,?_⟩
 ·rw[List.length_set];exact bF h.upto (SV.ir hu)
 ·rw[e3];exact gl hh hn
 rw[e3,<-iB _ _ _ (.cells (ao (a.l.map SV.enc)))];exact hn
theorem BF(h:Tl u m rest O)(l:List SV)(m':Mach)(J:List ak)(hJ:J.length=7)(Jm:∀o∈J,o.upto (O.length+9))(hu:∀v∈l,SV.bh O.length v)(h1:m'.sid=m.sid)(h2:m'.frames=m.frames)(h3:m'.heap=m.heap++[⟨m.next+8,m.next+7,l⟩])(h4:m'.out=m.out)(h5:m'.next=m.next+9) :
  Tl u m' rest (O.set 2 (.cells (aC u m'))++(J++[.cells (ao (l.map SV.enc)),.cells [.ms (O.length+7) 0 l.length l.length]])):=by
 obtain⟨ho,hk,wv,s1,s2,s3,s4,s5⟩:=h.others;have hN:=h.len;obtain⟨O2,rY⟩:∃O2,O2=O.set 2 (.cells (aC u m')):=⟨_,rfl⟩
 have uE:O2.length=O.length:=by rw[rY];simp
 rw[<-rY];have e1:ck u m' rest=(1,.cells [.aE 1 [] .ex,aI 0,aI 0])::(2,.cells (aC u m'))::(3,.spare m.out.length)::(m.sid,.cells (eO m.frames++rest))::((kN m.frames++dC m.heap)++[(O.length+8,.cells [.ms (O.length+7) 0 l.length l.length]),(O.length+7,.cells (ao (l.map SV.enc)))]):=by
  simp[ck,h1,h2,h3,h4,mT,dC,hN]
 have hold:∀k o,O[k]?=some o->k≠2->∀X,(O2++X)[k]?=some o:=fun k o hk h2 X=>by
  refine bJ ?_;rw[rY];exact bx hk (Ne.symm h2)
 refine⟨by simp[uE,h5,hN,hJ],?_,?_,?_⟩
 ·have hlen:(O2++(J++[ak.cells (ao (l.map SV.enc)),.cells [.ms (O.length+7) 0 l.length l.length]])).length=O.length+9:=by simp[uE,hJ]
  rw[hlen];intro o ic;rcases List.mem_append.1 ic with q|q
  ·rw[rY]at q;exact bq (fun o ho=>ak.cu (by omega) (h.upto o ho)) h.fZ (fun q=>b9 q h1) o q
  rcases List.mem_append.1 q with q|q
  ·exact Jm o q
  simp only[List.mem_cons,List.mem_nil_iff,or_false]at q;rcases q with rfl|rfl
  ·exact SV.ir fun v hv=>(hu v hv).mono (by omega)
  simp[ak.upto,aw,ae.upto]
 ·rw[e1];intro p hp;simp only[List.mem_cons,List.mem_append,List.mem_nil_iff,or_false]at hp;have IE:∀k,(J++[ak.cells (ao (l.map SV.enc)),.cells [.ms (O.length+7) 0 l.length l.length]])[7+k]?=[ak.cells (ao (l.map SV.enc)),.cells [.ms (O.length+7) 0 l.length l.length]][k]?:=fun k=>by
   rw[<-hJ];exact j3
  rcases hp with rfl|rfl|rfl|rfl|hp|rfl|rfl
  ·exact hold 1 _ (h.holds (1,_) (by simp[ck])) (by omega) _
  ·refine bJ ?_;rw[rY];exact vz h.fZ
  ·exact hold 3 _ h.outs (by omega) _
  ·exact hold m.sid _ h.stack s2 _
  ·have:=hk p.1 (gm (List.mem_append.2 hp));exact hold p.1 _ (ho p (List.mem_append.2 hp)) this.2.1 _
  ·show(O2++_)[O.length+8]?=_;have hx:O.length+8=O2.length+8:=by omega
   rw[hx,j3];exact IE 1
  show(O2++_)[O.length+7]?=_;have hx:=j3 (O:=O2) (k:=7) (X:=J++[ak.cells (ao (l.map SV.enc)),.cells [.ms (O.length+7) 0 l.length l.length]]);rw[uE]at hx;rw[hx];exact IE 0
 rw[e1];simp only[iA,dX,List.nodup_cons,List.mem_cons,not_or,List.mem_append];have mw:∀k,(k∈ed (kN m.frames)∨k∈ed (dC m.heap))->k≠1∧k≠2∧k≠3∧k≠m.sid∧k<O.length:=fun k q=>hk k (by rw[dX];exact List.mem_append.2 q);refine⟨⟨by omega,by omega,by omega,⟨fun q=>(mw 1 (.inl q)).1 rfl,fun q=>(mw 1 (.inr q)).1 rfl⟩,by omega,by omega,by simp[ed]⟩,⟨by omega,by omega,⟨fun q=>(mw 2 (.inl q)).2.1 rfl,fun q=>(mw 2 (.inr q)).2.1 rfl⟩,by omega,by omega,by simp[ed]⟩,⟨by omega,⟨fun q=>(mw 3 (.inl q)).2.2.1 rfl,fun q=>(mw 3 (.inr q)).2.2.1 rfl⟩,by omega,by omega,by simp[ed]⟩,⟨⟨fun q=>(mw _ (.inl q)).2.2.2.1 rfl,fun q=>(mw _ (.inr q)).2.2.2.1 rfl⟩,by omega,by omega,by simp[ed]⟩,?_⟩;rw[List.nodup_append];rw[dX]at wv;refine⟨wv,by simp[ed],?_⟩;intro x hx y hy e;have:=(mw x (List.mem_append.1 hx)).2.2.2.2;simp only[ed,List.map_nil,List.mem_cons,List.mem_nil_iff,or_false]at hy;omega
end Tl
end Go.Proofs.Ytkhnjeblbiocaaa
namespace Go.Proofs.Ytkhnjeblbiocaaa
open Go.Av
theorem jy{l:List SV}{n:Nat}(h:l.length=n){k:Nat}(hk:k<n):∃x,l[k]?=some x:=⟨l[k]'(by omega),List.getElem?_eq_getElem _⟩
theorem xe{l:List SV}(h:l.length=2):∃x y,l=[x,y]:=by
 match l,h with
 | [x,y],_=>exact⟨x,y,rfl⟩
theorem vy{O:List ak}{u:bR}{m:Mach}{rest:List ae}(ht:Tl u m rest O)(hm:bG u m){v:SV}(hv:fW u m v)(id:Option Nat)(h:id=v.arr):∀x∈Mach.gR m.heap id,SV.bh O.length x:=fun x hx=>by
 subst h;cases G0:v.arr with
 | none =>
  rw[G0]at hx;have:∀l:List vp,Mach.gR l none=[]:=fun l=>by
   induction l with
   | nil=>rfl
   | cons a r ih=>simp[Mach.gR,ih]
  rw[this]at hx;simp at hx
 | some id =>
  obtain⟨a,ha,h1,h2⟩:=mh m.heap id (SV.Wf.ref hv id G0);rw[G0,h2]at hx;exact ht.under ((hm.gk a ha).2 x hx)
theorem vZ{u:bR}{m:Mach}{rest:List ae}{O:List ak}(ht:Tl u m rest O)(hm:bG u m)(iy:m.short=false){i:bE}(hi:y2 u i)(nj:i.op≠13)(oE:i.op≠14){args:List SV}(km:args.length=i.args.length)(ha:∀v∈args,fW u m v) :
  ∃O2,bc Try.prog 75 O [.mp 2 0,i.enc,.aE 4 (args.map SV.enc) .sh] (fun r O3=>r=.df [(m.exec i args).2.1.enc,aI (m.exec i args).2.2]∧O3=O2)∧Tl u (m.exec i args).1 rest O2∧O.length<=O2.length:=by
 have bC:=ht.upto;have hl:∀v∈args,SV.bh O.length v:=fun v hv=>ht.under (ha v hv);have D3:∀v∈args,v.kind=0->fp v.n:=fun v hv hk=>SV.Wf.num (ha v hv) (.inl hk);have mv:m.left<=2 ^ 40:=by have:=hm.depth;omega
 have iT:=hi.op;have stay:∀{v:SV} {t:Int},m.exec i args=(m,v,t)->bc Try.prog 75 O [.mp 2 0,i.enc,.aE 4 (args.map SV.enc) .sh] (fun r O3=>r=.df [(m.exec i args).2.1.enc,aI (m.exec i args).2.2]∧O3=O) ->
   ∃O2,bc Try.prog 75 O [.mp 2 0,i.enc,.aE 4 (args.map SV.enc) .sh] (fun r O3=>r=.df [(m.exec i args).2.1.enc,aI (m.exec i args).2.2]∧O3=O2)∧Tl u (m.exec i args).1 rest O2∧O.length<=O2.length:=fun e hC =>
  ⟨O,hC,by rw[e];exact ht,Nat.le_refl _⟩
 by_cases h0:i.op=0
 ·exact stay (v:=.word i.n) (t:=0) (by simp[Mach.exec,h0]) (zN (u:=u) bC i args hl h0)
 by_cases h1:1<=i.op∧i.op<=7
 ·have uE:=hi.c2 (.inl h1);obtain⟨x,hx⟩:=jy (km.trans uE) (k:=0) (by omega);obtain⟨y,hy⟩:=jy (km.trans uE) (k:=1) (by omega);have hC:=vY (u:=u) (m:=m) bC i args hl h1 x y hx hy (D3 x (List.mem_of_getElem? hx)) (D3 y (List.mem_of_getElem? hy));refine⟨O,hC,?_,Nat.le_refl _⟩;have e:(m.exec i args).1=m:=by
   unfold Mach.exec;rw[if_neg h0,if_pos h1];split<;>rfl
  rw[e];exact ht
 by_cases h8:i.op=8
 ·exact stay (v:=.mk 1 i.n args none) (t:=0) (by simp[Mach.exec,h8]) (zM (u:=u) bC i args hl h8)
 by_cases h9:i.op=9
 ·exact stay (v:=.mk 2 i.n args none) (t:=0) (by simp[Mach.exec,h9]) (x7 (u:=u) bC i args hl h9)
 by_cases rW:i.op=10∨i.op=11∨i.op=12∨i.op=21
 ·have hlen:0<args.length∧(i.op=21->args.length=2):=by
   rcases rW with q|q|q|q
   ·have:=hi.c1 (by omega);omega
   ·have:=hi.c1 (by omega);omega
   ·have:=hi.c1 (by omega);omega
   have:=hi.c2 (by omega);omega
  obtain⟨x,hx⟩:=jy rfl hlen.1;obtain⟨q1,q2⟩:=qC (i:=i) ha;have hC:=uT bC i args hl x hx (fun a b c=>jy (hlen.2 (by omega)) (by omega)) (fun e=>hi.G' (.inl e));refine stay (v:=(c8 i args).1) (t:=(c8 i args).2) ?_ (zO (u:=u) (m:=m) bC i args hl rW hC (ht.under q1));unfold Mach.exec;rw[if_neg h0,if_neg h1,if_neg h8,if_neg h9,if_pos rW]
 by_cases v7:i.op=22∨i.op=23∨i.op=24
 ·have h2:i.op≠22->i.op≠24->∃x y,args=[x,y]:=fun a b=>xe (km.trans (hi.c2 (by omega)));obtain⟨q1,q2⟩:=qW (i:=i) ha (fun e=>by have:=hi.pack e;omega) h2;have hC:=vh bC i args hl (fun e=>jy (km.trans (hi.c1 (by omega))) (by omega)) h2 (fun e=>hi.G' (.inr e)) (fun v hv hk=>oR (ha v hv) hk);refine stay (v:=(dn i args).1) (t:=(dn i args).2) ?_ (zP (u:=u) (m:=m) bC i args hl v7 hC (ht.under q1));unfold Mach.exec;rw[if_neg h0,if_neg h1,if_neg h8,if_neg h9,if_neg rW,if_pos v7]
 by_cases gB:i.op=100
 ·obtain⟨x,hx⟩:=jy (km.trans (hi.c1 (by omega))) (k:=0) (by omega);refine stay (v:=ca args 0) (t:=0) (by simp[Mach.exec,gB]) (x8 (u:=u) (m:=m) bC i args hl gB x hx)
 have yf:i.op≠10∧i.op≠11∧i.op≠12∧i.op≠21:=by omega
 have yg:i.op≠22∧i.op≠23∧i.op≠24:=by omega
 have kB:2<O.length:=I ht.fZ;have Cd:=uk m i args h0 h1 h8 h9 yf yg gB;have jJ:=rR hm (i:=i) ha;by_cases rX:i.op=16
 ·obtain⟨x,y,e⟩:=xe (km.trans (hi.c2 (by omega)));subst e;have xD:=hl x (by simp);have G3:=hl y (by simp);have he:m.exec i [x,y]=m.bt x y:=by
   rw[Cd];simp[Mach.effect,rX,ca]
  rw[he];by_cases Bw:x.kind=0∧0<=x.n∧x.n<=1024∧x.n<=m.left
  ·obtain⟨g1,g2,g3,g4⟩:=Bw;have pF:(m.cR x.n).short=false:=by simp[Mach.cR,show ¬m.left<x.n by omega,iy]
   have eg:m.bt x y=({ m.cR x.n with heap:=m.heap++[⟨m.next+8,m.next+7,List.replicate x.n.toNat y⟩],next:=m.next+9 },.mk 3 0 [] (some (m.next+8)),0):=by
    unfold Mach.bt;rw[if_neg (by omega),if_neg (by omega),if_neg (by simp[pF])]
   have hC:=BX bC ht.fZ i x y xD G3 rX hm.left mv iy g1 g2 g3 g4;rw[eg];obtain⟨p1,p2,p3,p4,p5,p6,p7⟩:=gg m x.n;have xz:aC u ({ m.cR x.n with heap:=m.heap++[⟨m.next+8,m.next+7,List.replicate x.n.toNat y⟩],next:=m.next+9 }:Mach)=aC u (m.cR x.n):=rfl;have iq:=ht.BF (List.replicate x.n.toNat y) ({ m.cR x.n with heap:=m.heap++[⟨m.next+8,m.next+7,List.replicate x.n.toNat y⟩],next:=m.next+9 }:Mach)
    [.gone,.cells [aI 3,aI 0,.aE 4 [] .sh,.mp (O.length+8) 0],.gone,.cells [aI 3,aI 0,.aE 4 [] .sh,.mp (O.length+8) 0],.gone,.gone,.cells [aI 3,aI 0,.aE 4 [] .ex,.mp (O.length+8) 0]] rfl (fun o ho=>by
     simp only[List.mem_cons,List.mem_nil_iff,or_false]at ho;rcases ho with rfl|rfl|rfl|rfl|rfl|rfl|rfl
     all_goals simp[ak.upto,aw,ae.upto]) (fun v hv=>by
     rw[(List.mem_replicate.1 hv).2];exact G3) p6 p1 rfl p3 rfl
   rw[xz]at iq;simp only[List.length_replicate]at iq;have HO:(SV.mk 3 0 [] (some (m.next+8))).enc=.agg [aI 3,aI 0,.aE 4 [] .sh,.mp (O.length+8) 0]:=by
    rw[SV.iu,ht.len];rfl
   refine⟨_,?_,iq,by simp⟩;simp only[HO];exact hC
  have fo:(m.bt x y).2.1=.zero∧(m.bt x y).1.sid=m.sid∧(m.bt x y).1.frames=m.frames∧(m.bt x y).1.heap=m.heap∧(m.bt x y).1.out=m.out∧(m.bt x y).1.next=m.next:=by
   obtain⟨p1,p2,p3,p4,p5,p6,p7⟩:=gg m x.n;unfold Mach.bt;split
   ·simp
   split
   ·simp
   split
   ·exact⟨rfl,p6,p1,p2,p3,p7⟩
   rename_i a1 a2 a3;exfalso;refine Bw ⟨by omega,by omega,by omega,?_⟩;by_cases q:m.left<x.n
   ·exact absurd (show(m.cR x.n).short=true by simp[Mach.cR,q]) a3
   omega
  obtain⟨b0,b1,b2,b3,b4,b5⟩:=fo;have hC:=ue bC ht.fZ i x y xD G3 rX hm.left mv iy (fun z=>by rw[b0];simp[SV.zero,SV.arr]);have iq:=ht.mD (m.bt x y).1 b1 b2 b3 (by rw[b4]) b5;exact⟨_,lR bC i [x,y] hl h0 h1 h8 h9 yf yg gB kB _ _ (by rw[b0];exact nh _) hC (by simp) iq.upto,iq,by simp⟩
 rw[Cd];by_cases sJ:i.op=15
 ·obtain⟨x,hx⟩:=jy (km.trans (hi.c1 (by omega))) (k:=0) (by omega);have hC:=sG bC ht.fZ ht.outs i args hl sJ x hx hm.out;have fo:(m.effect i args).1.sid=m.sid∧(m.effect i args).1.frames=m.frames∧(m.effect i args).1.heap=m.heap∧(m.effect i args).1.next=m.next:=by
   unfold Mach.effect;rw[if_pos sJ];split
   ·simp
   split<;>simp
  obtain⟨b1,b2,b3,b4⟩:=fo;have iq:=ht.Fa (m.effect i args).1 b1 b2 b3 b4;have hv:SV.bh O.length (m.effect i args).2.1:=ht.under (jJ.val.of_heap (by rw[b3]));exact⟨_,lR bC i args hl h0 h1 h8 h9 yf yg gB kB _ _ hv hC (by simp) iq.upto,iq,by simp⟩
 by_cases tH:i.op=18
 ·obtain⟨x,y,e⟩:=xe (km.trans (hi.c2 (by omega)));subst e;have hC:=sF (u:=u) (m:=m) bC i x y (hl x (by simp)) (hl y (by simp)) kB tH;have fo:(m.effect i [x,y]).1=m:=by
   unfold Mach.effect;rw[if_neg (by omega),if_neg (by omega),if_pos tH];split
   ·rfl
   split<;>rfl
  have hv:SV.bh O.length (m.effect i [x,y]).2.1:=ht.under (jJ.val.of_heap (by rw[fo]));exact⟨O,lR bC i [x,y] hl h0 h1 h8 h9 yf yg gB kB _ _ hv hC rfl bC,by rw[fo];exact ht,Nat.le_refl _⟩
 have hlen:0<args.length∧(i.op≠17->2<=args.length)∧(i.op≠17->i.op≠19->3<=args.length):=by
  rcases(show i.op=17∨i.op=19∨i.op=20 by omega)with q|q|q
  ·have:=hi.c1 (by omega);omega
  ·have:=hi.c2 (by omega);omega
  have:=hi.c3 (by omega);omega
 obtain⟨x,hx⟩:=jy rfl hlen.1;have uN:=List.mem_of_getElem? hx;obtain⟨O',hC,dD⟩:=vV (m:=m) bC i args hl x hx sJ rX tH (fun a=>jy rfl (hlen.2.1 a)) (fun a b=>jy rfl (hlen.2.2 a b)) (vy ht hm (ha x uN) _ rfl) (fun hk=>by
  obtain⟨a,yT,e1,e2⟩:=y7 hm (ha x uN) hk;obtain⟨r1,r2⟩:=ht.arr yT;refine⟨a.kd,a.bW,e1,?_,?_⟩
  ·rw[e2];exact r1
  rw[e2];exact r2)
 rcases dD with⟨e1,e2⟩|⟨kd,bW,k,z,l,e1,e2,e3,e4,e5,e6,e7,e8⟩
 ·have hv:SV.bh O.length (m.effect i args).2.1:=ht.under (jJ.val.of_heap (by rw[e2]));subst e1;exact⟨O',lR bC i args hl h0 h1 h8 h9 yf yg gB kB _ _ hv hC rfl bC,by rw[e2];exact ht,Nat.le_refl _⟩
 obtain⟨a,yT,f1,f2⟩:=mh m.heap kd (SV.Wf.ref (ha x uN) kd e1);have IW:l=a.l:=by rw[e5,e1,f2]
 obtain⟨r1,r2⟩:=ht.arr yT;have hb:bW=a.bW:=by
  rw[f1,e2]at r1;simp only[Option.some.injEq,ak.cells.injEq,List.cons.injEq,ae.ms.injEq]at r1;exact r1.1.1
 have iq:=ht.CG yT (l.set k z) (by rw[List.length_set,IW]) (fun v hv=>by
  rcases List.mem_or_eq_of_mem_set hv with q|q
  ·rw[IW]at q;exact ht.under ((hm.gk a yT).2 v q)
  rw[q];exact e6) (m.effect i args).1 (by rw[e8,e1,f1])
 rw[<-hb,<-e7]at iq;have IV:O.length=O'.length:=by rw[e7];simp
 have hv:SV.bh O.length (m.effect i args).2.1:=by
  have:=iq.under jJ.val;rw[<-IV]at this;exact this
 exact⟨O',lR bC i args hl h0 h1 h8 h9 yf yg gB kB _ _ hv hC IV iq.upto,iq,by omega⟩
theorem Tl.of_eq{u:bR}{m m':Mach}{rest:List ae}{O O':List ak}(h:Tl u m rest O)(e:m'=m)(e':O'=O):Tl u m' rest O':=by
 subst e;subst e';exact h
theorem iY{f:Fr}{r:List Fr}{rest:List ae}:(eO (f::r)++rest)[r.length]?=some (.mp f.bP 0):=by
 have h:eO (f::r)=r.reverse.map (fun f=>ae.mp f.bP 0)++[.mp f.bP 0]:=by simp[eO]
 rw[h,List.append_assoc];have hl:(r.reverse.map (fun f=>ae.mp f.bP 0)).length=r.length:=by simp
 rw[List.getElem?_append_right (by omega),hl,Nat.sub_self];rfl
theorem yH{f g:Fr}{r:List Fr}{rest:List ae}:(eO (f::g::r)++rest)[r.length]?=some (.mp g.bP 0):=by
 have h:eO (f::g::r)++rest=eO (g::r)++(.mp f.bP 0::rest):=by simp[eO]
 rw[h];exact iY
theorem Tl.apart{u:bR}{m:Mach}{rest:List ae}{O:List ak}(ht:Tl u m rest O){f:Fr}{r:List Fr}(dh:m.frames=f::r):f.bP≠2∧f.di≠2∧f.bP≠f.di:=by
 obtain⟨_,hk,wv,_⟩:=ht.others;rw[dh]at hk wv;refine⟨(hk f.bP ?_).2.1,(hk f.di ?_).2.1,?_⟩
 ·rw[dX];exact List.mem_append.2 (.inl (gm (Tl.mq (f:=f) (by simp)).1))
 ·rw[dX];exact List.mem_append.2 (.inl (gm (Tl.mq (f:=f) (by simp)).2))
 simp only[kN,List.cons_append,iA,List.nodup_cons,List.mem_cons,not_or]at wv;exact wv.1.1
theorem Tl.Ee{u:bR}{m:Mach}{rest:List ae}{O:List ak}(ht:Tl u m rest O){g:Fr}(hg:g∈m.frames):g.bP≠2∧g.di≠2:=by
 obtain⟨_,hk,wv,_⟩:=ht.others;refine⟨(hk g.bP ?_).2.1,(hk g.di ?_).2.1⟩
 ·rw[dX];exact List.mem_append.2 (.inl (gm (Tl.mq hg).1))
 rw[dX];exact List.mem_append.2 (.inl (gm (Tl.mq hg).2))
theorem rK(m:Mach)(f g:Fr):(m.bf f).bf g=m.bf g:=rfl
theorem nJ{u:bR}{m:Mach}{rest:List ae}{O:List ak}(ht:Tl u m rest O)(hm:bG u m){f:Fr}{r:List Fr}(dh:m.frames=f::r){e:Edge}(he:sg (aL u f.fn) e) :
  ∃O',bc Try.prog 92 O [.mp 2 0,.mp f.bP 0,e.enc] (fun r O1=>r=.df []∧O1=O')∧Tl u (m.follow u f e) rest O'∧O.length=O'.length:=by
 have dU:=hm.frames f (by rw[dh];simp);obtain⟨t1,t2⟩:=ht.frame (f:=f) (by rw[dh];simp);obtain⟨n1,n2,n3⟩:=ht.apart dh;have hu:∀e∈f.vals,SV.bh O.length e.2:=fun e he=>ht.under (dU.vals e he);obtain⟨f',fg⟩:∃f',f' = { f with blk:=e.block,pos:=0,vals:=cH f.vals (aD (aL u f.fn) e.block).params (bN f.vals e.args) }:=⟨_,rfl⟩
 have hC:=uo ht.upto ht.fZ f t1 t2 hu n1.symm n2.symm n3 dU.fn e he f' fg;have h1:=ht.bf (f':={ f' with vals:=f.vals }) dh (by rw[fg]) (by rw[fg]) rfl;have z6:aV { f' with vals:=f.vals }=aV f':=rfl;rw[z6]at h1;have h2:=h1.tp (f:={ f' with vals:=f.vals }) (f':=f') (r:=r) (by simp[Mach.bf,dh]) rfl (by
  rw[List.length_set,fg];intro x hx;rcases jt hx with q|q
  ·exact hu x q
  exact l9 hu e.args _ q)
 rw[rK]at h2;have rB:f'.di=f.di:=by rw[fg]
 have eg:m.follow u f e=m.bf f':=by rw[fg];rfl
 rw[eg];refine⟨_,hC,?_,by simp⟩;exact h2.of_eq rfl (by rw[<-rB])
theorem sH{u:bR}{m:Mach}{rest:List ae}{O:List ak}(ht:Tl u m rest O)(hm:bG u m){f:Fr}{r:List Fr}(dh:m.frames=f::r){t:Term}(m7:sj (aL u f.fn) t) :
  ∃O' uX,bc Try.prog 72 O [.mp 2 0,.mp f.bP 0,t.enc] (fun r O1=>r=.df []∧O1=O')∧Tl u (m.finish u f t) uX O'∧O.length=O'.length:=by
 have dU:=hm.frames f (by rw[dh];simp);obtain⟨t1,t2⟩:=ht.frame (f:=f) (by rw[dh];simp);obtain⟨n1,n2,n3⟩:=ht.apart dh;obtain⟨_,_,_,s1,s2,s3,s4,s5⟩:=ht.others;have hu:∀e∈f.vals,SV.bh O.length e.2:=fun e he=>ht.under (dU.vals e he);have hk:=m7.kind;unfold Mach.finish;by_cases h4:t.kind=4
 ·rw[if_pos h4];exact⟨_,rest,zJ ht.upto ht.fZ f t1 t2 hu n3 t h4,ht.mD (m.stop t.n 0) rfl rfl rfl rfl rfl,by simp⟩
 rw[if_neg h4];by_cases h1:t.kind=1
 ·rw[if_pos h1];have hl:=m7.rE h1;have he:t.to[0]?=some (t.to[0]'(by omega)):=List.getElem?_eq_getElem _;obtain⟨O',q1,q2,q3⟩:=nJ ht hm dh (m7.db _ (List.mem_of_getElem? he));refine⟨O',rest,zI ht.upto ht.fZ f t1 t2 hu n3 t h1 _ he q1 q3 q2.upto,?_,q3⟩;rw[he];exact q2
 rw[if_neg h1];by_cases h0:t.kind=0
 ·rw[if_pos h0];have hv:=sI dU.vals t.arg;have m8:=ht.under hv;cases hr:r with
  | nil =>
   subst hr;have hC:=wJ ht.upto ht.fZ f dh (I t1) _ m8;have iq:=ht.last dh (m.leave f (cZ f.vals t.arg)) (by simp[Mach.leave,dh,Mach.stop]) (by simp[Mach.leave,dh,Mach.stop]) (by simp[Mach.leave,dh,Mach.stop]) (by simp[Mach.leave,dh,Mach.stop]) (by simp[Mach.leave,dh,Mach.stop]);exact⟨_,_,xu ht.upto ht.fZ f t1 t2 hu n3 t h0 hC (by simp) iq.upto,iq,by simp⟩
  | cons g r' =>
   subst hr;have hg:g∈m.frames:=by rw[dh];simp
   obtain⟨g1,g2⟩:=ht.frame hg;obtain⟨k1,k2⟩:=ht.Ee hg;have Ho:∀e∈g.vals,SV.bh O.length e.2:=fun e he=>ht.under ((hm.frames g hg).vals e he);have jP:r'.length<=2 ^ 40:=by
    have h1:=hm.depth;have h2:=hm.left;rw[dh]at h1;simp only[List.length_cons]at h1;omega
   have dD:=ht.stack;rw[dh]at dD;have hC:=wK ht.upto ht.fZ f g r' dh t1 g1 g2 Ho dD yH s2 jP n1 k1 k2 _ m8;have eg:m.leave f (cZ f.vals t.arg) = { m with frames:={ g with vals:=cK g.vals f.to (cZ f.vals t.arg) }::r' }:=by
    unfold Mach.leave;rw[dh];rfl
   have iq:=ht.pop (g':={ g with vals:=cK g.vals f.to (cZ f.vals t.arg) }) dh rfl (fun x hx=>by
    rcases iD hx with q|q
    ·exact Ho x q
    rw[q];exact m8) _ eg
   exact⟨_,_,xu ht.upto ht.fZ f t1 t2 hu n3 t h0 hC (by simp) iq.upto,iq,by simp⟩
 rw[if_neg h0];by_cases hV:(cZ f.vals t.arg).kind=0
 ·rw[if_neg (by simp[hV])];obtain⟨e,he⟩:=mi m7 h0 h1 h4 (cZ f.vals t.arg).n;obtain⟨O',q1,q2,q3⟩:=nJ ht hm dh (m7.db _ (List.mem_of_getElem? he));refine⟨O',rest,vW ht.upto ht.fZ f t1 t2 hu n3 t ⟨h0,h1,h4⟩ hV (by have:=m7.cl;omega) e he q1 q3 q2.upto,?_,q3⟩;rw[he];exact q2
 rw[if_pos hV];exact⟨_,rest,zK ht.upto ht.fZ f t1 t2 hu n3 t ⟨h0,h1,h4⟩ hV,ht.mD (m.stop 5 0) rfl rfl rfl rfl rfl,by simp⟩
theorem xa{u:bR}{m:Mach}{rest:List ae}{O:List ak}(hu:ep u)(ht:Tl u m rest O)(hm:bG u m)(ho:m.over=false)(hd:m.frames.length+m.left+1<=2 ^ 40) :
  ∃O' uX,bc Try.prog 61 O [.mp 2 0] (fun r O1=>r=.df []∧O1=O')∧Tl u (m.step u) uX O'∧O.length<=O'.length:=by
 obtain⟨cj,iy⟩:=hm.over ho;unfold Mach.step;cases dh:m.frames with
 | nil=>exact absurd dh cj
 | cons f r =>
  have dU:=hm.frames f (by rw[dh];simp);obtain⟨t1,t2⟩:=ht.frame (f:=f) (by rw[dh];simp);obtain⟨n1,n2,n3⟩:=ht.apart dh;obtain⟨_,_,_,s1,s2,s3,s4,s5⟩:=ht.others;have E0:∀e∈f.vals,SV.bh O.length e.2:=fun e he=>ht.under (dU.vals e he);have dD:=ht.stack;rw[dh]at dD;have jP:r.length<=2 ^ 40:=by
   have h2:=hm.left;rw[dh]at hd;simp only[List.length_cons]at hd;omega
  have hF:=jm dU.fn.1 dU.fn.2;have hB:=dy dU.blk.1 dU.blk.2;have Ew:=hu.blocks _ (fN dU.fn.1 dU.fn.2) _ (fh dU.blk.1 dU.blk.2);simp only;cases hi:(aD (aL u f.fn) f.blk).ins[f.pos]? with
  | none =>
   have lV:f.pos=(aD (aL u f.fn) f.blk).ins.length:=by
    have:=List.getElem?_eq_none_iff.1 hi;have:=dU.pos;omega
   obtain⟨O',uX,q1,q2,q3⟩:=sH ht hm dh Ew.term;exact⟨O',uX,step_end ht.upto ht.fZ f r dh t1 n1 dD iY jP _ hF dU.fn.1 _ hB dU.blk.1 lV q1 (by omega) q2.upto,q2,by omega⟩
  | some i =>
   simp only;have rz:=Ew.ins i (List.mem_of_getElem? hi);have aZ:=I hi;have iI:=Ew.len;obtain⟨f',fg⟩:∃f',f' = { f with pos:=f.pos+1 }:=⟨_,rfl⟩
   rw[<-fg];have FT:f'.vals=f.vals:=by rw[fg]
   have iS:f'.bP=f.bP:=by rw[fg]
   have rB:f'.di=f.di:=by rw[fg]
   obtain⟨O1,dW⟩:∃O1,O1=O.set f.bP (.cells (aV f')):=⟨_,rfl⟩
   have h1:=ht.bf (f':=f') dh iS rB FT;rw[<-dW]at h1;have dL:O.length=O1.length:=by rw[dW];simp
   have kr:kf u m f':=by
    rw[fg];exact⟨dU.fn,dU.blk,aZ,dU.vals⟩
   have lL:bG u (m.bf f'):=hm.bf cj kr;have Ch:(m.bf f').frames=f'::r:=by simp[Mach.bf,dh]
   have xz:aC u (m.bf f')=aC u m:=by simp[aC,Mach.bf,dh]
   have py:O1[2]?=some (.cells (aC u m)):=by rw[<-xz];exact h1.fZ
   obtain⟨args,dY⟩:∃args,args=bN f.vals i.args:=⟨_,rfl⟩
   rw[<-dY];have km:args.length=i.args.length:=by rw[dY];exact kH _ _
   have Hl:∀v∈args,fW u (m.bf f') v:=by
    rw[dY];exact fun v hv=>(kI dU.vals i.args v hv).of_heap (by rfl)
   have Et:∀v∈args,SV.bh O1.length v:=fun v hv=>h1.under (Hl v hv);have EY:=h1.stack;have HN:(m.bf f').frames.length<=2 ^ 41:=by
    rw[Ch];simp only[List.length_cons];omega
   have DU:∀fn:Int,0<=fn∧fn<u.fns.length->(aD (aL u fn) 0).params.length=args.length ->
     ∃O',bc Try.prog 59 O1 [.mp 2 0,aI fn,.aE 4 (args.map SV.enc) .sh,aI i.to] (fun r O2=>r=.df []∧O2=O')∧Tl u ((m.bf f').enter u fn args i.to) [] O'∧O.length<=O'.length:=fun fn jr hp=>by
    have hC:=vX h1.upto h1.fZ EY (by simp[eO]) s2 h1.len HN fn jr (hu.ne _ (fN jr.1 jr.2)).1 args Et hp i.to;have iq:=h1.push fn i.to args _ rfl Et;exact⟨_,hC,iq,by simp;omega⟩
   unfold Mach.act;by_cases nj:i.op=13
   ·rw[if_pos nj];obtain⟨c1,c2,c3⟩:=rz.call nj;obtain⟨O',q1,q2,q3⟩:=DU i.n ⟨c1,c2⟩ (by rw[km];exact c3);exact⟨O',[],yI ht.upto ht.fZ f r dh t1 n1 dD iY jP _ hF dU.fn.1 _ hB dU.blk.1 t2 n3 E0 i hi (by omega) rz.len f' fg args dY O1 dW nj q1 q3 q2.upto,q2,q3⟩
   rw[if_neg nj];by_cases oE:i.op=14
   ·rw[if_pos oE];obtain⟨c,hc⟩:=jy (km.trans rfl) (k:=0) (by have:=rz.app oE;omega);have Jp:=fF hc;rw[Jp];have Bt:=Hl c (List.mem_of_getElem? hc);have iq:=h1.mD ((m.bf f').stop 5 0) rfl rfl rfl rfl rfl;have iV:aC u ((m.bf f').stop 5 0)=aC u (m.stop 5 0):=by simp[aC,Mach.bf,Mach.stop,dh]
    by_cases hk:c.kind=2
    ·obtain⟨k1,k2⟩:=SV.Wf.fn Bt hk;have hG:=jm k1 k2;have hD:(aL u c.n).blocks[0]?=some (aD (aL u c.n) 0):=by
      obtain⟨z1,z2⟩:=F9 hu k1 k2;exact dy z1 z2
     by_cases hp:(aD (aL u c.n) 0).params.length=args.length
     ·rw[if_pos ⟨hk,hp⟩];obtain⟨O',q1,q2,q3⟩:=DU c.n ⟨k1,k2⟩ hp;exact⟨O',[],AS ht.upto ht.fZ f r dh t1 n1 dD iY jP _ hF dU.fn.1 _ hB dU.blk.1 t2 n3 E0 i hi (by omega) rz.len f' fg args dY O1 dW oE c hc hk k1 _ hG _ hD hp Et q1 q3 q2.upto py,q2,q3⟩
     rw[if_neg (fun q=>hp q.2)];refine⟨_,rest,tt ht.upto ht.fZ f r dh t1 n1 dD iY jP _ hF dU.fn.1 _ hB dU.blk.1 t2 n3 E0 i hi (by omega) rz.len f' fg args dY O1 dW oE c hc hk k1 _ hG _ hD hp Et py,?_,by simp;omega⟩;rw[<-iV];exact iq
    rw[if_neg (fun q=>hk q.1)];refine⟨_,rest,rM ht.upto ht.fZ f r dh t1 n1 dD iY jP _ hF dU.fn.1 _ hB dU.blk.1 t2 n3 E0 i hi (by omega) rz.len f' fg args dY O1 dW oE c hc hk Et py,?_,by simp;omega⟩;rw[<-iV];exact iq
   rw[if_neg oE];have H7:(m.bf f').short=false:=iy;obtain⟨O2,q1,q2,q3⟩:=vZ h1 lL H7 rz nj oE km Hl;have jJ:=nG lL rz km Hl;generalize (m.bf f').exec i args=R at *;have oG:R.1.frames=f'::r:=by rw[jJ.frames,Ch]
   obtain⟨w1,w2⟩:=q2.frame (f:=f') (by rw[oG];simp);rw[iS]at w1;rw[rB,FT]at w2;have m8:=q2.under jJ.val;have oI:∀e∈f.vals,SV.bh O2.length e.2:=fun e he=>(E0 e he).mono (by omega);have I5:∀e∈cK f.vals i.to R.2.1,SV.bh O2.length e.2:=fun x hx=>by
    rcases iD hx with q|q
    ·exact oI x q
    rw[q];exact m8
   unfold Mach.settle;rw[FT];by_cases y0:R.2.2=0
   ·rw[if_neg (by simp[y0])];have hC:=yJ ht.upto ht.fZ f r dh t1 n1 dD iY jP _ hF dU.fn.1 _ hB dU.blk.1 t2 n3 E0 i hi (by omega) rz.len f' fg args dY O1 dW ⟨nj,oE⟩ R.2.1 R.2.2 q1 (by omega) q2.upto m8 R.1 q2.fZ w1 w2 oI n2 y0;have iq:=q2.tp (f':={ f' with vals:=cK f.vals i.to R.2.1 }) oG rfl I5;exact⟨_,rest,hC,iq.of_eq rfl (by rw[rB]),by simp;omega⟩
   rw[if_pos y0];have hC:=yK ht.upto ht.fZ f r dh t1 n1 dD iY jP _ hF dU.fn.1 _ hB dU.blk.1 t2 n3 E0 i hi (by omega) rz.len f' fg args dY O1 dW ⟨nj,oE⟩ R.2.1 R.2.2 q1 (by omega) q2.upto m8 R.1 q2.fZ w1 w2 oI n2 y0;have q4:=q2.mD (R.1.stop R.2.2 0) rfl rfl rfl rfl rfl;have iq:=q4.tp (f':={ f' with vals:=cK f.vals i.to R.2.1 }) oG rfl (by
    rw[List.length_set];exact I5)
   exact⟨_,rest,hC,iq.of_eq rfl (by rw[rB]),by simp;omega⟩
def BB.enc(a:BB):ae:=.df [.agg [.aE 1 (a.out.map aI) .sh,aI a.fin,aI a.val],aI a.n,aI a.e]
theorem vT{f:FuncId}{O:List ak}{a b d:ae}{sz:Nat}{R:ae->List ak->Prop}(h:bc Try.prog f O [a,b,.aE sz [] .sh,d] R):bc Try.prog f O [a,b,.v (.slice none 0 0),d] R :=
 ⟨h.1,fun g vs hg ho ha=>h.2 g vs hg ho ⟨ha.1,fun i c u hc hu=>by
  match i,hc,hu with
  | 0,hc,hu=>exact ha.2 0 c u hc hu
  | 1,hc,hu=>exact ha.2 1 c u hc hu
  | 2,hc,hu =>
   simp only[List.getElem?_cons_succ,List.getElem?_cons_zero,Option.some.injEq]at hc;subst hc;have:=(ha.2 2 _ u rfl hu).cq.1;subst this;exact .nil (fun id e=>by cases e) (by simp)
  | 3,hc,hu=>exact ha.2 3 c u hc hu
  | i+4,hc,_=>simp at hc⟩⟩
theorem l8{u:bR}(hu:ep u){fuel:Int}(h0:0<=fuel)(h1:fuel<=1000000):bG u ((Mach.start fuel).enter u u.main [] 0):=by
 have hs:bG u { Mach.start fuel with over:=true } :=
  ⟨by simp[Mach.start],by simp[Mach.start],h0,by simp[Mach.start];omega,by simp[Mach.start],by simp[Mach.start],by simp[Mach.start],by simp[Mach.start,fp],by simp[Mach.start],by simp⟩
 have h:=hs.enter hu (by simp) (by simp[Mach.start];omega) hu.main (args:=[]) (by simp) 0;exact⟨fun f hf=>(h.frames f hf).of_heap (by rfl),fun a ha=>by simp[Mach.start,Mach.enter]at ha,h.left,h.depth,h.out,h.words,h.fin,h.val,h.done,fun _=>⟨by simp[Mach.enter],rfl⟩⟩
theorem vd{u:bR}(hu:ep u){fuel:Int}(hp:(aD (aL u u.main) 0).params=[]):Tl u ((Mach.start fuel).enter u u.main [] 0) [] [.gone,.cells [.aE 1 [] .ex,aI 0,aI 0],.cells (aC u ((Mach.start fuel).enter u u.main [] 0)),.spare 0,.map (.int .i64) [],.cells [aI u.main,aI 0,aI 0,aI 0,.mm 4],.cells [.mp 5 0]] where
 len:=rfl
 upto:=by simp[ak.upto,aw,kc,ae.upto,aC,Func.ai,Mach.enter,Mach.start]
 holds:=by
  intro p FP;simp only[ck,Mach.enter,Mach.start,kN,dC,hp,cH,List.append_nil,List.mem_cons,List.mem_nil_iff,or_false,List.mem_append]at FP;rcases FP with rfl|rfl|rfl|rfl|rfl|rfl
  all_goals rfl
 nodup:=by
  simp[ed,ck,Mach.enter,Mach.start,kN,dC]
theorem AI{u:bR}{m:Mach}(h:m.over=true)(k:Nat):Mach.run u k m=m:=by
 cases k with
 | zero=>rfl
 | succ k=>simp[Mach.run,h]
theorem nX{u:bR}(hu:ep u){fuel:Int}(GH:0<=fuel)(kr:fuel<=1000000):bw Try.prog 34 [u.enc,aI fuel] (bm u fuel).enc:=by
 have hp:=hu.none;have uy:=vT (ui (fuel:=fuel) hu.main (hu.ne _ (fN hu.main.1 hu.main.2)).1 hp 4 .sh);have dD:=vd hu (fuel:=fuel) hp;have H9:=l8 hu GH kr;obtain⟨K,hK⟩:∃K,K=fuel.toNat+2:=⟨_,rfl⟩
 obtain⟨E,hE⟩:∃E,E=Mach.run u K ((Mach.start fuel).enter u u.main [] 0):=⟨_,rfl⟩
 have eg:bm u fuel=if E.short then⟨[],0,0,0,13⟩else⟨E.out,E.fin,E.val,fuel-E.left,0⟩:=by
  rw[hE,hK];rfl
 rw[eg];have DO:((Mach.start fuel).enter u u.main [] 0).left=fuel:=rfl;unfold sZ at uy;generalize kB:(Mach.start fuel).enter u u.main [] 0=m0 at *;refine zf true 0 Try.func34 Try.ntmps34 ?_;dsimp only[Tmp,TypeId,ax];refine aA (ah ?_);refine aH 2 0 (.ip none [a9 u.fns,aI u.main]) rfl (by simp[ak.aF]) trivial rfl ?_ ?_;rotate_left;simp -dsimp only[simprocAttr,↓aa,zp]
 ·refine aA (ah ?_);refine gS 2 6 rfl rfl ?_;simp -dsimp only[simprocAttr,↓aa,zp];refine aA ?_;refine .inr (.inl ⟨_,_,uy,.inl (au (zj ?_))⟩);refine ah ?_;refine aK (aj (aU (ι:={p:Mach×List ae×List ak // bG u p.1∧Tl u p.1 p.2.1 p.2.2∧p.1.left<=fuel∧∃k,p.1.left.toNat+2<=k∧Mach.run u k p.1=E}) (fun p=>⟨45,[(1,aI fuel),(4,.mp 1 0),(5,aI 0),(6,aI 0),(7,.mp 2 0)],p.1.2.2⟩) (fun p=>p.1.1.left.toNat) ⟨(m0,[],_),H9,dD,by simp only[DO];omega,K,by simp only[DO];omega,hE.symm⟩ ?_ ?_))
  ·refine zq rfl ?_ ?_;simp -dsimp only[simprocAttr,↓aa,zp,zc];rfl
  rintro⟨⟨m,rest,O⟩,hm,ht,HY,k,hk,bz⟩;simp only at hm ht HY hk bz;have Ae:=ht.fZ;unfold aC at Ae;have Ju:=hm.depth;have EN:=hm.left;have oZ:O[1]?=some (.cells [.aE 1 [] .ex,aI 0,aI 0]):=ht.holds (1,_) (by simp[ck]);have pG:=dA oZ;have uF:=I ht.fZ;have rC:=qE ht.upto ht.fZ 1 EN (by omega) (by omega);cases lF:m.over with
  | true =>
   rw[AI lF]at bz;subst bz;rw[lF]at Ae;refine dd ?_;simp -dsimp only[simprocAttr,↓aa,zp,Ae];refine ah ?_;refine cE rfl ?_;refine aR ?_;simp -dsimp only[bX,ne_eq,Nat.reduceEqDiff,reduceCtorEq];cases iy:m.short with
   | true =>
    rw[iy]at Ae;refine dd ?_;simp -dsimp only[simprocAttr,↓aa,zp,Ae];refine ah ?_;refine cS rfl ?_;refine aX ?_;simp -dsimp only[simprocAttr,↓aa,zp,oZ];refine ah ?_;refine aq ?_;simp -dsimp only[simprocAttr,↓aa,zp,zr,Try.results34,pG];exact⟨by simp[aw,ae.upto],rfl⟩
   | false =>
    rw[iy]at Ae;refine dd ?_;simp -dsimp only[simprocAttr,↓aa,zp,Ae];refine ah ?_;refine cE rfl ?_;refine cA ?_;refine aX ?_;simp -dsimp only[simprocAttr,↓aa,zp,Ae,oZ]
    repeat(refine⟨by omega,?_⟩)
    refine⟨cm [1,2] O.length [.pure,.pure,.pure,.rd 1,.pure,.pure,.pure,.pure,.rd 1,.pure,.wr 2 [0],.pure,.pure] (by simp) (by simp;omega) rfl rfl (by kernel_rfl),bd ?_⟩;simp -dsimp only[bX,ne_eq,Nat.reduceEqDiff,reduceCtorEq];refine aq ?_;simp -dsimp only[simprocAttr,↓aa,zp,zr,Try.results34,pG];exact⟨by simp[aw,ae.upto,az],rfl⟩
  | false =>
   obtain⟨k,rfl⟩:∃j,k=j+1:=⟨k-1,by omega⟩
   have xB:(if(m.cR 1).short then m.cR 1 else Mach.run u k (Mach.step u (m.cR 1)))=E:=by
    rw[<-bz];simp[Mach.run,lF]
   have GY:=ht.mD (m.cR 1) (gg m 1).2.2.2.2.2.1 (gg m 1).1 (gg m 1).2.1 (by rw[(gg m 1).2.2.1]) (gg m 1).2.2.2.2.2.2;have py:=GY.fZ;have Cr:(O.set 2 (.cells (aC u (m.cR 1))))[1]?=some (.cells [.aE 1 [] .ex,aI 0,aI 0]):=GY.holds (1,_) (by simp[ck]);have GU:=dA Cr;rw[lF]at Ae;by_cases FQ:m.left<1
   ·have pF:(m.cR 1).short=true:=by simp[Mach.cR,FQ]
    rw[pF,if_pos rfl]at xB;have Jj:E.short=true:=by
     rw[<-xB];exact pF
    obtain⟨O1,dW⟩:∃O1,O1=O.set 2 (.cells (aC u (m.cR 1))):=⟨_,rfl⟩
    rw[<-dW]at rC py Cr;simp only[<-dW]at GU;unfold aC at py;rw[pF]at py;refine dd ?_;simp -dsimp only[simprocAttr,↓aa,zp,Ae];refine ah ?_;refine cS rfl ?_;refine cA ?_;refine aj ?_;refine aA ?_;refine .inr (.inl ⟨_,_,rC,.inl (au (zj ?_))⟩);refine ah ?_;refine dd ?_;simp -dsimp only[simprocAttr,↓aa,zp,py];refine ah ?_;refine cS rfl ?_;refine aX ?_;simp -dsimp only[simprocAttr,↓aa,zp,Cr];refine ah ?_;refine aq ?_;simp -dsimp only[simprocAttr,↓aa,zp,zr,Try.results34,GU,Jj];exact⟨by simp[aw,ae.upto],rfl⟩
   have wu:m.cR 1 = { m with left:=m.left-1 }:=by simp[Mach.cR,FQ]
   have pF:(m.cR 1).short=false:=by
    rw[wu];exact(hm.over lF).2
   have ES:(m.cR 1).over=false:=by
    rw[wu];exact lF
   have lL:bG u (m.cR 1):=by
    rw[wu];exact⟨fun f hf=>(hm.frames f hf).of_heap (by rfl),fun a ha=>⟨(hm.gk a ha).1,fun v hv=>((hm.gk a ha).2 v hv).of_heap (by rfl)⟩,by simp;omega,by simp;omega,hm.out,hm.words,hm.fin,hm.val,hm.done,fun h=>hm.over h⟩
   have nN:(m.cR 1).frames.length+(m.cR 1).left+1<=2 ^ 40:=by
    rw[wu];simp;omega
   obtain⟨O2,G9,q1,q2,q3⟩:=xa hu GY lL ES nN;have DX:=lL.step hu ES nN;have o5:(Mach.step u (m.cR 1)).left<=m.left-1:=by
    have:=oP u (m.cR 1) lL hu ES;rw[wu]at this ⊢;exact this
   have JL:=DX.left;rw[pF,if_neg (by simp)]at xB;obtain⟨O1,dW⟩:∃O1,O1=O.set 2 (.cells (aC u (m.cR 1))):=⟨_,rfl⟩
   rw[<-dW]at rC py q1;unfold aC at py;rw[pF]at py;refine dd ?_;simp -dsimp only[simprocAttr,↓aa,zp,Ae];refine ah ?_;refine cS rfl ?_;refine cA ?_;refine aj ?_;refine aA ?_;refine .inr (.inl ⟨_,_,rC,.inl (au (zj ?_))⟩);refine ah ?_;refine dd ?_;simp -dsimp only[simprocAttr,↓aa,zp,py];refine ah ?_;refine cE rfl ?_;refine cA ?_;refine dc ?_;refine .inr (.inl ⟨_,_,q1,.inl (au (zj ?_))⟩);refine Jc ?_;refine⟨⟨(Mach.step u (m.cR 1),G9,O2),DX,q2,by simp only;omega,k,by simp only;omega,xB⟩,by simp only;omega,?_⟩;refine zq rfl ?_ ?_;simp -dsimp only[simprocAttr,↓aa,zp,zc];rfl
 exact cw.mp rfl rfl
theorem pT{u:bR}:∀{l:List bE},kX u l=0->∀i∈l,fH u i=0
 | [],_,f,h=>by simp at h
 | g::r,h,f,hf=>by
  have:=hZ h;rcases List.mem_cons.1 hf with q|q
  ·subst q;exact this.1
  exact pT this.2 f q
theorem pS{u:bR}:∀{l:List Block},jA u l=0->∀b∈l,∀i∈b.ins,fH u i=0
 | [],_,f,h=>by simp at h
 | g::r,h,f,hf=>by
  have:=hZ h;rcases List.mem_cons.1 hf with q|q
  ·subst q;exact pT this.1
  exact pS this.2 f q
theorem kW{u:bR}:∀{l:List Func},gv u l=0->∀f∈l,∀b∈f.blocks,∀i∈b.ins,fH u i=0
 | [],_,f,h=>by simp at h
 | g::r,h,f,hf=>by
  have:=hZ h;rcases List.mem_cons.1 hf with q|q
  ·subst q;exact pS this.1
  exact kW this.2 f q
theorem tR{u:bR}{i:bE}(h:fH u i=0):(i.op=13∨i.op=9->i.n<u.fns.length)∧(i.op=13->(aD (aL u i.n) 0).params.length=i.args.length)∧(i.op=9->(aD (aL u i.n) 0).params.length≠0):=by
 unfold fH at h;split at h
 ·exact⟨by omega,by omega,by omega⟩
 split at h
 ·simp at h
 split at h
 ·simp at h
 exact⟨by omega,by omega,by omega⟩
structure F2(u:bR):Prop where
 few:u.fns.length<=256
 main:0<=u.main∧u.main<u.fns.length
 none:(aD (aL u u.main) 0).params=[]
 fns:∀f∈u.fns,DC f
 calls:∀f∈u.fns,∀b∈f.blocks,∀i∈b.ins,fH u i=0
theorem tZ{u:bR}(bB:u.fit)(h:dr u=0):F2 u:=by
 unfold dr at h;split at h
 ·simp at h
 split at h
 ·simp at h
 split at h
 ·simp at h
 rename_i h3;have h4:=hZ h;have h5:=h4.2;split at h5
 ·simp at h5
 rename_i h6;have hw:0<=u.main∧u.main<=(u.fns.length:Int)-1:=by simpa[within]using h3
 refine⟨by omega,by omega,List.length_eq_zero_iff.1 (by omega),fun f hf=>dV (bB.2.2 f hf) (k8 h4.1 f hf),kW h5⟩
theorem pJ{u:bR}(bB:u.fit)(h:dr u=0):ep u:=by
 have hw:=tZ bB h;refine⟨hw.main,hw.few,hw.none,fun f hf=>⟨(hw.fns f hf).ne,by have:=(hw.fns f hf).few;omega⟩,fun f hf b hb=>?_⟩;have hF:=hw.fns f hf;have hB:=hF.blk b hb;have hE:=jE hB.fin;refine⟨fun i hi=>?_,⟨hE.kind,?_,hE.rE,hE.cond,hE.switch,fun e he=>?_,by have:=hE.cases;omega⟩,by have:=hF.ins b hb;omega⟩
 ·have fL:=nK (hB.uu i hi);have hc:=tR (hw.calls f hf b hb i hi);have EL:=((bB.2.2 f hf).2.2 b hb).2.2.2.1 i hi;have hlen:=fL.len;refine⟨.inl fL.op,by omega,⟨EL.1,EL.2.2.1⟩,fun q=>(fL.c0 q).1,fL.c2,fun q=>fL.c1 (by have:=fL.op;omega),fL.c3,fun q=>⟨?_,hlen⟩,fun q=>?_,fun q=>?_,fL.app,fL.G',fun _=>hlen,fL.vec⟩
  ·have:=fL.F' q;unfold fp;omega
  ·have:=fL.call (.inl q);have:=hc.1 (.inr q);exact⟨by omega,by omega,hlen⟩
  have:=fL.call (.inr q);exact⟨by omega,hc.1 (.inl q),hc.2.1 q⟩
 ·by_cases h4:b.term.kind=4
  ·have:=hE.ve h4;omega
  have:=hE.n h4;omega
 have m5:=hE.db e he;have hm:=fh (f:=f) (k:=e.block) (by omega) (by omega);have:=(hF.blk _ hm).few;exact⟨by omega,by omega,m5.2,by omega⟩
def runM(u:bR)(fuel:Int):BB :=
 if dr u≠0 then⟨[],0,0,0,dr u⟩
 else if within fuel 1 1000000=false then⟨[],0,0,0,4⟩
 else bm u fuel
theorem u6(u:bR)(bB:u.fit)(fuel:Int):bw Try.prog 12 [u.enc,aI fuel] (runM u fuel).enc:=by
 have oF:=mY u bB;have hw:=dN fuel 1 1000000;obtain⟨R,hR⟩:∃R,R=runM u fuel:=⟨_,rfl⟩
 rw[<-hR];unfold runM at hR;by_cases hc:dr u=0
 ·rw[if_neg (by simp[hc])]at hR;have hu:=pJ bB hc;rw[hc]at oF;cases wD:within fuel 1 1000000 with
  | false =>
   rw[if_pos wD]at hR;rw[wD]at hw;refine zf true 0 Try.func12 Try.ntmps12 ?_;dsimp only[Tmp,TypeId,ax];refine aA (ah ?_);refine aH 2 0 (.ip none [a9 u.fns,aI u.main]) rfl (by simp[ak.aF]) trivial rfl ?_ ?_;rotate_left;simp -dsimp only[simprocAttr,↓aa,zp]
   ·refine b8 ?_;refine zi oF ?_;refine ah ?_;refine aA (ah ?_);refine cE rfl ?_;refine cA ?_;refine b8 ?_;refine zi hw ?_;refine ah ?_;refine cS rfl ?_;refine aA (ah ?_);refine aq ?_;simp -dsimp only[simprocAttr,↓aa,zp,zr,Try.results12];rw[hR];exact⟨by simp[aw,ae.upto],rfl⟩
   exact cw.mp rfl rfl
  | true =>
   rw[if_neg (by simp[wD])]at hR;have JQ:=fa.1 wD;have wB:=nX hu (fuel:=fuel) (by omega) JQ.2;rw[<-hR]at wB;unfold BB.enc at wB;rw[wD]at hw;refine zf true 0 Try.func12 Try.ntmps12 ?_;dsimp only[Tmp,TypeId,ax];refine aA (ah ?_);refine aH 2 0 (.ip none [a9 u.fns,aI u.main]) rfl (by simp[ak.aF]) trivial rfl ?_ ?_;rotate_left;simp -dsimp only[simprocAttr,↓aa,zp]
   ·refine b8 ?_;refine zi oF ?_;refine ah ?_;refine aA (ah ?_);refine cE rfl ?_;refine cA ?_;refine b8 ?_;refine zi hw ?_;refine ah ?_;refine cE rfl ?_;refine cA ?_;refine aA ?_;refine zi wB ?_;refine ah ?_;refine aq ?_;simp -dsimp only[simprocAttr,↓aa,zp,zr,Try.results12];exact⟨by simp[aw,ae.upto,az],rfl⟩
   exact cw.mp rfl rfl
 rw[if_pos hc]at hR;obtain⟨e,he⟩:∃e,e=dr u:=⟨_,rfl⟩
 rw[<-he]at hc oF hR;have jn:decide (e=0)=false:=decide_eq_false hc;refine zf true 0 Try.func12 Try.ntmps12 ?_;dsimp only[Tmp,TypeId,ax];refine aA (ah ?_);refine aH 2 0 (.ip none [a9 u.fns,aI u.main]) rfl (by simp[ak.aF]) trivial rfl ?_ ?_;rotate_left;simp -dsimp only[simprocAttr,↓aa,zp]
 ·refine b8 ?_;refine zi oF ?_;refine ah ?_;refine aX ?_;simp -dsimp only[simprocAttr,↓aa,zp,jn];refine ah ?_;refine cS rfl ?_;refine aA (ah ?_);refine aq ?_;simp -dsimp only[simprocAttr,↓aa,zp,zr,Try.results12];rw[hR];exact⟨by simp[aw,ae.upto],rfl⟩
 exact cw.mp rfl rfl
theorem rJ(l m:List Int):bw Try.prog 36 [a6 l,a6 m] (.v (.bool (decide (l=m)))):=by
 by_cases hlen:l.length=m.length
 ·have jP:decide ((l.length:Int)=m.length)=true:=decide_eq_true (by omega);obtain⟨R,hR⟩:∃R,R=decide (l=m):=⟨_,rfl⟩
  rw[<-hR];refine zf true 0 Try.func36 Try.ntmps36 ?_;dsimp only[Tmp,TypeId,ax];refine aA (ah ?_);refine ff 0 rfl (fun wo=>?_);simp only[List.length_map]at wo;refine dd ?_;simp -dsimp only[simprocAttr,↓aa,zp,jP];refine ah ?_;apply aP rfl<;>intro h
  ·cases h
  refine cA ?_;refine b8 (ah ?_);refine aj (aU (ι:={k:Nat // k<=l.length∧R=decide (l.drop k=m.drop k)}) (fun k=>⟨26,[(0,a6 l),(1,a6 m),(4,.v (.bool false)),(12,a6 l),(13,aI l.length),(14,aI k.1)],[]⟩) (fun k=>l.length-k.1) ⟨0,by omega,hR⟩ ?_ ?_)
  ·refine zq rfl ?_ ?_;simp -dsimp only[simprocAttr,↓aa,zp,zc];rfl
  rintro⟨k,hk,cO⟩;refine aA (ah ?_);apply gW rfl<;>intro h
  ·refine cA ?_;have aZ:k<l.length:=by simpa using h
   obtain⟨a,ha⟩:∃a,l[k]?=some a:=⟨l[k],by simp[aZ]⟩
   obtain⟨b,hb⟩:∃b,m[k]?=some b:=⟨m[k]'(by omega),List.getElem?_eq_getElem _⟩
   rw[bS ha,bS hb]at cO;simp only[List.cons.injEq,Bool.decide_and]at cO;refine aK (aj ?_);refine aX ?_;simp -dsimp only[simprocAttr,↓aa,zp,ha];refine ah ?_;by_cases Bq:b=a
   ·have EB:decide (b=a)=true:=decide_eq_true Bq;rw[decide_eq_true Bq.symm,Bool.true_and]at cO;refine aX ?_;simp -dsimp only[simprocAttr,↓aa,zp,hb,EB]
    repeat(refine⟨by omega,?_⟩)
    refine ah ?_;refine cE rfl ?_;refine jR ?_;refine dc ?_
    repeat(refine⟨by omega,?_⟩)
    refine fV ?_;refine⟨⟨k+1,aZ,cO⟩,by simp;omega,?_⟩;refine zq rfl ?_ ?_;simp -dsimp only[simprocAttr,↓aa,zp,zc]
    ·exact Sub.int (by simp)
    rfl
   have EB:decide (b=a)=false:=decide_eq_false Bq;rw[decide_eq_false (fun e=>Bq e.symm),Bool.false_and]at cO;refine aX ?_;simp -dsimp only[simprocAttr,↓aa,zp,hb,EB]
   repeat(refine⟨by omega,?_⟩)
   refine ah ?_;refine cS rfl ?_;refine aA (ah ?_);refine aq ?_;simp -dsimp only[simprocAttr,↓aa,zp,zr,Try.results36];rw[cO]
  refine aR ?_;simp -dsimp only[bX,ne_eq,Nat.reduceEqDiff,reduceCtorEq];have gT:k=l.length:=by simp at h;omega
  subst gT;rw[List.drop_length,hlen,List.drop_length]at cO;refine aA (ah ?_);refine aq ?_;simp -dsimp only[simprocAttr,↓aa,zp,zr,Try.results36];rw[cO];rfl
 have jP:decide ((l.length:Int)=m.length)=false:=decide_eq_false (by omega);rw[decide_eq_false (fun e=>hlen (by rw[e]))];refine zf true 0 Try.func36 Try.ntmps36 ?_;dsimp only[Tmp,TypeId,ax];refine aA (ah ?_);refine dd ?_;simp -dsimp only[simprocAttr,↓aa,zp,jP];refine ah ?_;refine cS rfl ?_;refine aA (ah ?_);refine aq ?_;simp -dsimp only[simprocAttr,↓aa,zp,zr,Try.results36]
abbrev BW(out:List Int)(fin val:Int):ae:=.agg [.aE 1 (out.map aI) .sh,aI fin,aI val]
theorem lD(l m:List Int)(e f v w:Int):bw Try.prog 16 [BW l e v,BW m f w] (.v (.bool ((decide (e=f)&&decide (v=w))&&decide (l=m)))):=by
 have hs:=rJ l m;cases h1:decide (e=f)
 ·refine zf true 0 Try.func16 Try.ntmps16 ?_;dsimp only[Tmp,TypeId,ax];refine aA (ah ?_);refine aX ?_;simp -dsimp only[simprocAttr,↓aa,zp,h1];refine ah ?_;refine aq ?_;simp -dsimp only[simprocAttr,↓aa,zp,zr,Try.results16]
 cases h2:decide (v=w)
 ·refine zf true 0 Try.func16 Try.ntmps16 ?_;dsimp only[Tmp,TypeId,ax];refine aA (ah ?_);refine aX ?_;simp -dsimp only[simprocAttr,↓aa,zp,h1,h2];refine ah ?_;refine aq ?_;simp -dsimp only[simprocAttr,↓aa,zp,zr,Try.results16]
 refine zf true 0 Try.func16 Try.ntmps16 ?_;dsimp only[Tmp,TypeId,ax];refine aA (ah ?_);refine aX ?_;simp -dsimp only[simprocAttr,↓aa,zp,h1,h2];refine .inl ⟨_,hs,by simp only[aw,ae.upto,zt,zu,az],au ?_⟩;simp -dsimp only[simprocAttr,↓aa,zp,h1,h2];refine ah ?_;refine aq ?_;simp -dsimp only[simprocAttr,↓aa,zp,zr,Try.results16]
theorem lh(to op n:Int)(l:List Int):bw Try.prog 57 [aI to,aI op,aI n,a6 l] (.agg [aI to,aI op,aI n,a6 l]):=by
 refine zf true 0 Try.func57 Try.ntmps57 ?_;dsimp only[Tmp,TypeId,ax];refine aA (ah ?_);refine aA (ah ?_);refine aq ?_;simp -dsimp only[simprocAttr,↓aa,zp,zr,Try.results57];simp[aw,ae.upto,az]
theorem o9(k:Int)(l:List Int):bw Try.prog 58 [aI k,a6 l] (.agg [aI 1,aI 0,aI 0,a6 [],.aE 2 [.agg [aI k,a6 l]] .sh]):=by
 refine zf true 0 Try.func58 Try.ntmps58 ?_;dsimp only[Tmp,TypeId,ax];refine aA (ah ?_);refine aA (ah ?_);refine aq ?_;simp -dsimp only[simprocAttr,↓aa,zp,zr,Try.results58];simp[aw,ae.upto,az]
theorem oL(to op n:Int):bw Try.prog 57 [aI to,aI op,aI n,.v (.slice none 0 0)] (.agg [aI to,aI op,aI n,a6 []]):=by
 have h:=lh to op n [];exact⟨h.1,fun g vs hg ho ha=>h.2 g vs hg ho ⟨ha.1,fun i c u hc hu=>by
  match i,hc,hu with
  | 0,hc,hu=>exact ha.2 0 c u hc hu
  | 1,hc,hu=>exact ha.2 1 c u hc hu
  | 2,hc,hu=>exact ha.2 2 c u hc hu
  | 3,hc,hu =>
   simp only[List.getElem?_cons_succ,List.getElem?_cons_zero,Option.some.injEq]at hc;subst hc;have:=(ha.2 3 _ u rfl hu).cq.1;subst this;exact .nil (fun id e=>by cases e) (by simp)
  | i+4,hc,_=>simp at hc⟩⟩
def oB:bR:=⟨[⟨-1,[
 ⟨[],[⟨0,0,0,[]⟩],⟨1,0,0,[],[⟨1,[0]⟩]⟩⟩,
 ⟨[1],[⟨2,0,3,[]⟩,⟨3,6,0,[1,2]⟩],⟨2,3,0,[],[⟨2,[]⟩,⟨3,[]⟩]⟩⟩,
 ⟨[],[⟨4,15,0,[1]⟩,⟨5,0,1,[]⟩,⟨6,1,0,[1,5]⟩],⟨1,0,0,[],[⟨1,[6]⟩]⟩⟩,
 ⟨[],[],⟨0,1,0,[],[]⟩⟩]⟩],0⟩
theorem xX:runM oB 27=⟨[0,1,2],0,3,27,0⟩:=by kernel_rfl
theorem vP:bw Try.prog 32 [] oB.enc:=by
 refine zf true 0 Try.func32 Try.ntmps32 ?_;dsimp only[Tmp,TypeId,ax];refine aA (ah ?_);refine aA (ah ?_);refine aA (ah ?_);refine aA ?_;refine zi ((oL 0 0 0)) ?_;refine zi ((o9 1 [0])) ?_;refine zi ((oL 2 0 3)) ?_;refine zi ((lh 3 6 0 [1,2])) ?_;refine zi ((lh 4 15 0 [1])) ?_;refine zi ((oL 5 0 1)) ?_;refine zi ((lh 6 1 0 [1,5])) ?_;refine zi ((o9 1 [6])) ?_;refine ah ?_;refine aq ?_;simp -dsimp only[simprocAttr,↓aa,zp,zr,Try.results32];exact⟨by simp[aw,ae.upto,az],rfl⟩
theorem vO:oB.fit:=by
 simp[oB,bR.fit,Func.fit,Block.fit,bE.fit,Term.fit,Edge.fit,gX,nI]
theorem xj:bw Try.prog 11 [] (.v (.bool true)):=by
 have bz:=u6 oB vO 27;rw[xX]at bz;have EX:=lD [0,1,2] [0,1,2] 0 0 3 3;have Gw:=vP;unfold BB.enc at bz;unfold BW at EX;simp only[List.map_cons,List.map_nil,decide_true,Bool.and_self]at bz EX;generalize oB=u at *;refine zf true 0 Try.func11 Try.ntmps11 ?_;dsimp only[Tmp,TypeId,ax];refine aA (ah ?_);refine aA ?_;refine zi Gw ?_;refine zi bz ?_;refine ah ?_;refine aA ?_;refine zi EX ?_;refine ah ?_;refine aq ?_;simp -dsimp only[simprocAttr,↓aa,zp,zr,Try.results11]
end Go.Proofs.Ytkhnjeblbiocaaa
