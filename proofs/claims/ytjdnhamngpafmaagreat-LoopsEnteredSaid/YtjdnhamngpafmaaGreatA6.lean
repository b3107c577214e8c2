/-
  Texts bound together by a program of mine: YtjdnhamngpafmaaGreatPzr, YtjdnhamngpafmaaGreatT130, YtjdnhamngpafmaaGreatT131, YtjdnhamngpafmaaGreatT132, YtjdnhamngpafmaaGreatT170, YtjdnhamngpafmaaGreatPuy, YtjdnhamngpafmaaGreatT121, YtjdnhamngpafmaaGreatT122, YtjdnhamngpafmaaGreatT123, YtjdnhamngpafmaaGreatT126, YtjdnhamngpafmaaGreatPwd, YtjdnhamngpafmaaGreatPwe, YtjdnhamngpafmaaGreatT171, YtjdnhamngpafmaaGreatT172.
-/
import Derived.Test.YtjdnhamngpafmaaGreatA5
set_option linter.all false
set_option maxRecDepth 100000
set_option maxHeartbeats 4000000

namespace Go.Proofs.YtjdnhamngpafmaaGreat
open Go.Av
theorem uP{p k:Nat}:∀(es:List Edge) {ls:List (List Int)} {l:List Int},ls[k]?=some l->(∀e∈es,0<=e.block)->(gD p ls es)[k]?=some (l++FC p (k:Int) es)
 | [],ls,l,h,_=>by
  simpa[gD,FC]using h
 | e::r,ls,l,h,h0=>by
  show(gD p (gm p ls e) r)[k]?=_;have he:=h0 e List.mem_cons_self;have hr:=fun x hx=>h0 x (List.mem_cons_of_mem _ hx);have aZ:=I h;by_cases q:e.block=(k:Int)
  ·have h2:(gm p ls e)[k]?=some (l++[(p:Int)]):=by
    unfold gm;rw[q,Int.toNat_natCast,h,List.getElem?_set_self aZ];rfl
   rw[uP r h2 hr];unfold FC;rw[List.filter_cons,if_pos (decide_eq_true q),List.map_cons,List.append_assoc];rfl
  have h2:(gm p ls e)[k]?=some l:=by
   unfold gm;rw[List.getElem?_set_ne (by omega)];exact h
  rw[uP r h2 hr];unfold FC;rw[List.filter_cons,if_neg (by simpa using q)]
theorem Bg{k:Nat}:∀(bs:List Block) (p:Nat) {ls:List (List Int)} {l:List Int},ls[k]?=some l->(∀b∈bs,∀e∈b.term.to,0<=e.block)->(ju p ls bs)[k]?=some (l++zg (k:Int) p bs)
 | [],p,ls,l,h,_=>by simpa[ju,zg]using h
 | b::r,p,ls,l,h,h0=>by
  have h2:=uP (p:=p) b.term.to h (h0 b List.mem_cons_self);have h3:=Bg r (p+1) h2 (fun x hx=>h0 x (List.mem_cons_of_mem _ hx));simp only[ju,zg];rw[h3,List.append_assoc]
theorem J0{g:Func}{k:Int}(h0:0<=k)(h1:k<g.blocks.length)(he:∀b∈g.blocks,∀e∈b.term.to,0<=e.block):(dj g)[k.toNat]?=some (HX g k):=by
 have:=Bg (k:=k.toNat) g.blocks 0 (ls:=List.replicate g.blocks.length []) (l:=[]) (by rw[List.getElem?_replicate,if_pos (by omega)]) he;rw[Int.toNat_of_nonneg h0]at this;exact this
theorem FE{k:Int}:∀(bs:List Block) (p:Nat) {q:Int},q∈zg k p bs->∃j:Nat,q=(j:Int)∧j<p+bs.length
 | [],_,_,h=>by cases h
 | b::r,p,q,h=>by
  simp only[zg,List.mem_append]at h;rcases h with h|h
  ·unfold FC at h;obtain⟨_,_,rfl⟩:=List.mem_map.1 h;exact⟨p,rfl,by simp⟩
  obtain⟨j,h1,h2⟩:=FE r (p+1) h;exact⟨j,h1,by simp only[List.length_cons];omega⟩
def A'(bl:List Int)(ps:List Int)(z:Nat):Nat:=((ps.take z).filter fun q=>!mZ bl q).length
theorem Ha{bl ps:List Int}{z:Nat}{p:Int}(h:ps[z]?=some p):A' bl ps (z+1)=A' bl ps z+(if mZ bl p=true then 0 else 1):=by
 unfold A';rw[List.take_add_one,h,Option.toList_some,List.filter_append,List.length_append];by_cases q:mZ bl p=true
 ·rw[if_pos q,List.filter_cons,if_neg (by simp[q])];rfl
 rw[if_neg q,List.filter_cons,if_pos (by simp[q])];rfl
theorem JP{bl ps:List Int}{z:Nat}(h:ps.length<=z):A' bl ps z=(ps.filter fun q=>!mZ bl q).length:=by
 unfold A';rw[List.take_of_length_le h]
theorem Ap(l:List Int)(n:Int):mZ l n=dK l n:=by
 rw[Bool.eq_iff_iff,I5,fA]
theorem Gi{f:Func}(hv:xF f)(gf:gb (bu f)){y:aX}(hy:y∈cS (bu f)):((HX (bu f) y.head).filter fun q=>!mZ y.blocks q).length=1 ∧
  ∀p∈HX (bu f) y.head,mZ y.blocks p=false->(fY (bu f) p).length=1:=by
 obtain⟨k,h1,h2⟩:=wM hv gf hy;have he:(fun q=>!mZ y.blocks q)=fun q=>!dK y.blocks q:=by
  funext q
  rw[Ap]
 rw[he,h1];refine⟨rfl,fun p hp hq=>?_⟩;have:p∈[k]:=by
  rw[<-h1,List.mem_filter];exact⟨hp,by rw[<-Ap,hq];rfl⟩
 rw[List.mem_singleton.1 this];exact h2
theorem mj(l:List Int):bh Tryz.prog 42 [aT l,aT l] (.v (.bool true)):=by
 have h:=oQ l l;rw[decide_eq_true rfl]at h;exact h
theorem yH(i:Ins):bh Tryz.prog 44 [i.enc,i.enc] (.v (.bool true)):=by
 have hs:=mj i.args;refine zf true 0 Tryz.func44 Tryz.ntmps44 ?_;dsimp only[Tmp,TypeId,slotsOf];refine ay (ah ?_);refine aS ?_;simp -dsimp only[simprocAttr,↓aa,zp,decide_true];refine .inl ⟨_,hs,by simp only[au,ae.upto,zt,zu,av],an ?_⟩;simp -dsimp only[simprocAttr,↓aa,zp,decide_true];refine ah ?_;refine aq ?_;simp -dsimp only[simprocAttr,↓aa,zp,zr,Tryz.results44]
theorem wg(t:Term)(hl:t.to.length<=2 ^ 47):bh Tryz.prog 43 [t.enc,t.enc] (.v (.bool true)):=by
 have hs:=mj t.cases;refine zf true 0 Tryz.func43 Tryz.ntmps43 ?_;dsimp only[Tmp,TypeId,slotsOf];refine ay (ah ?_);refine aA 2 0 (.ip none [aI t.kind,aI t.arg,aI t.n,aT t.cases,aE t.to]) rfl (by simp[al.aC]) trivial rfl ?_ ?_;rotate_left;simp -dsimp only[simprocAttr,↓aa,zp]
 ·refine aA 3 1 (.ip none [aI t.kind,aI t.arg,aI t.n,aT t.cases,aE t.to]) rfl (by simp[al.aC]) trivial rfl ?_ ?_;rotate_left;simp -dsimp only[simprocAttr,↓aa,zp]
  ·refine cJ ?_;simp -dsimp only[simprocAttr,↓aa,zp,decide_true];refine .inl ⟨_,hs,by simp only[au,ae.upto,zt,zu,av],an ?_⟩;simp -dsimp only[simprocAttr,↓aa,zp,decide_true];refine ah ?_;apply aM rfl<;>intro h
   ·cases h
   refine cm ?_;refine cb (ah ?_);refine ai (aO (ι:={k:Nat // k<=t.to.length}) (fun k=>⟨73,[(3,.ip none [aI t.kind,aI t.arg,aI t.n,aT t.cases,aE t.to]),(44,aE t.to),(45,aI t.to.length),(46,aI k.1)],[.gone,.gone]⟩) (fun k=>t.to.length-k.1) ⟨0,by omega⟩ ?_ ?_)
   ·refine zq rfl ?_ ?_;simp -dsimp only[simprocAttr,↓aa,zp,zc]
    all_goals rfl
   rintro⟨k,hk⟩;refine ay (ah ?_);apply ib rfl<;>intro h
   ·refine cm ?_;have aZ:k<t.to.length:=by simpa using h
    obtain⟨e,he⟩:∃e,t.to[k]?=some e:=⟨t.to[k],by simp[aZ]⟩
    have zb:=mj e.args;refine aH (ai ?_);refine aS ?_;simp -dsimp only[simprocAttr,↓aa,zp,he];refine ah ?_;refine aA 6 2 (.ip none [aI e.block,aT e.args]) rfl (by simp[al.aC]) trivial rfl ?_ ?_;rotate_left;simp -dsimp only[simprocAttr,↓aa,zp]
    ·refine bF 2 [(3,.ip none [aI t.kind,aI t.arg,aI t.n,aT t.cases,aE t.to]),(44,aE t.to),(45,aI t.to.length),(46,aI k),(5,aI k),(6,.ip none [aI e.block,aT e.args])] (by simp) (by omega) [.gone,.gone] ?_ ?_ ?_ ?_ ?_
     ·rfl
     ·simp[al.upto,au,ae.upto,av,Edge.ag]
     ·simp[fL,St.get,bq,aY,Go.Av.look,Sub.refl]
     ·simp[al.upto,au,ae.upto,av,Edge.ag]
     refine aS ?_;simp -dsimp only[simprocAttr,↓aa,zp,he,decide_true]
     repeat(refine⟨by omega,?_⟩)
     refine .inl ⟨_,zb,by simp only[au,ae.upto,zt,zu,av],an ?_⟩;simp -dsimp only[simprocAttr,↓aa,zp,decide_true];refine⟨ob (by kernel_rfl),?_⟩;refine ah ?_;refine cd rfl ?_;refine kA ?_;refine cF ?_
     repeat(refine⟨by omega,?_⟩)
     refine fw ?_;refine⟨⟨k+1,aZ⟩,by simp;omega,?_⟩;refine zq rfl ?_ ?_;simp -dsimp only[simprocAttr,↓aa,zp,zc]
     ·exact Sub.int (by simp)
     rfl
    exact bT.mp rfl rfl
   refine aG ?_;simp -dsimp only[bD,ne_eq,Nat.reduceEqDiff,reduceCtorEq];refine ay (ah ?_);refine aq ?_;simp -dsimp only[simprocAttr,↓aa,zp,zr,Tryz.results43]
  exact bT.mp rfl rfl
 exact bT.mp rfl rfl
theorem we(f:Func)(bt:f.fit):bh Tryz.prog 16 [f.enc,f.enc] (.v (.bool true)):=by
 have hN:f.blocks.length<=2 ^ 47:=bt.2.1;refine zf true 0 Tryz.func16 Tryz.ntmps16 ?_;dsimp only[Tmp,TypeId,slotsOf];refine ay (ah ?_);refine aA 2 0 (.ip none [aI f.name,aw f.blocks]) rfl (by simp[al.aC]) trivial rfl ?_ ?_;rotate_left;simp -dsimp only[simprocAttr,↓aa,zp]
 ·refine aA 3 1 (.ip none [aI f.name,aw f.blocks]) rfl (by simp[al.aC]) trivial rfl ?_ ?_;rotate_left;simp -dsimp only[simprocAttr,↓aa,zp]
  ·refine cJ ?_;simp -dsimp only[simprocAttr,↓aa,zp,decide_true];refine ah ?_;apply aM rfl<;>intro h
   ·cases h
   refine cm ?_;refine cb (ah ?_);refine ai (aO (ι:={k:Nat // k<=f.blocks.length}) (fun k=>⟨78,[(3,.ip none [aI f.name,aw f.blocks]),(25,aw f.blocks),(26,aI f.blocks.length),(27,aI k.1)],[.gone,.gone]⟩) (fun k=>f.blocks.length-k.1) ⟨0,by omega⟩ ?_ ?_)
   ·refine zq rfl ?_ ?_;simp -dsimp only[simprocAttr,↓aa,zp,zc]
    all_goals rfl
   rintro⟨k,hk⟩;refine ay (ah ?_);apply ib rfl<;>intro h
   ·refine cm ?_;have aZ:k<f.blocks.length:=by simpa using h
    obtain⟨b,hb⟩:∃b,f.blocks[k]?=some b:=⟨f.blocks[k],by simp[aZ]⟩
    have vS:=mj b.params;obtain⟨_,_,Xt,_,Vy⟩:=bt.2.2 b (List.mem_of_getElem? hb);have My:=wg b.term Vy.2.2.2.2.2.1;unfold Term.enc at My;refine aH (ai ?_);refine aS ?_;simp -dsimp only[simprocAttr,↓aa,zp,hb];refine ah ?_;refine aA 6 2 (.ip none [aT b.params,bP b.ins,aI b.term.kind,aI b.term.arg,aI b.term.n,aT b.term.cases,aE b.term.to]) rfl (by simp[al.aC]) trivial rfl ?_ ?_;rotate_left;simp -dsimp only[simprocAttr,↓aa,zp]
    ·refine aS ?_;simp -dsimp only[simprocAttr,↓aa,zp,hb]
     repeat(refine⟨by omega,?_⟩)
     refine ah ?_;refine aA 7 3 (.ip none [aT b.params,bP b.ins,aI b.term.kind,aI b.term.arg,aI b.term.n,aT b.term.cases,aE b.term.to]) rfl (by simp[al.aC]) trivial rfl ?_ ?_;rotate_left;simp -dsimp only[simprocAttr,↓aa,zp]
     ·refine cJ ?_;simp -dsimp only[simprocAttr,↓aa,zp,decide_true];refine .inl ⟨_,vS,by simp only[au,ae.upto,zt,zu,av],an ?_⟩;simp -dsimp only[simprocAttr,↓aa,zp,decide_true];refine .inl ⟨_,My,by simp only[au,ae.upto,zt,zu,av],an ?_⟩;simp -dsimp only[simprocAttr,↓aa,zp,decide_true];refine ah ?_;apply aM rfl<;>intro h
      ·cases h
      refine cm ?_;refine bF 2 [(3,.ip none [aI f.name,aw f.blocks]),(25,aw f.blocks),(26,aI f.blocks.length),(27,aI k),(6,.ip none [aT b.params,bP b.ins,aI b.term.kind,aI b.term.arg,aI b.term.n,aT b.term.cases,aE b.term.to]),(7,.ip none [aT b.params,bP b.ins,aI b.term.kind,aI b.term.arg,aI b.term.n,aT b.term.cases,aE b.term.to])] (by simp) (by omega) [.gone,.gone] ?_ ?_ ?_ ?_ ?_
      ·rfl
      ·simp[al.upto,au,ae.upto,av,Edge.ag,Ins.ag,Block.ag]
      ·simp[fL,St.get,bq,aY,Go.Av.look,Sub.refl]
      ·simp[al.upto,au,ae.upto,av,Edge.ag,Ins.ag,Block.ag]
      refine ay (ah ?_);refine ai (aO (ι:={j:Nat // j<=b.ins.length}) (fun j=>⟨78,[(3,.ip none [aI f.name,aw f.blocks]),(25,aw f.blocks),(26,aI f.blocks.length),(27,aI k),(7,.ip none [aT b.params,bP b.ins,aI b.term.kind,aI b.term.arg,aI b.term.n,aT b.term.cases,aE b.term.to]),(61,bP b.ins),(62,aI b.ins.length),(63,aI j.1)],[.gone,.gone]⟩) (fun j=>b.ins.length-j.1) ⟨0,by omega⟩ ?_ ?_)
      ·refine zq rfl ?_ ?_;simp -dsimp only[simprocAttr,↓aa,zp,zc]
       all_goals rfl
      rintro⟨j,hj⟩;refine ay (ah ?_);apply ib rfl<;>intro h
      ·refine cm ?_;have AF:j<b.ins.length:=by simpa using h
       obtain⟨i,hi⟩:∃i,b.ins[j]?=some i:=⟨b.ins[j],by simp[AF]⟩
       have X5:=yH i;unfold Ins.enc at X5;refine aH (ai ?_);refine aS ?_;simp -dsimp only[simprocAttr,↓aa,zp,hi];refine ah ?_;refine aA 9 2 (.ip none [aI i.to,aI i.op,aI i.n,aT i.args]) rfl (by simp[al.aC]) trivial rfl ?_ ?_;rotate_left;simp -dsimp only[simprocAttr,↓aa,zp]
       ·refine bF 2 [(3,.ip none [aI f.name,aw f.blocks]),(25,aw f.blocks),(26,aI f.blocks.length),(27,aI k),(7,.ip none [aT b.params,bP b.ins,aI b.term.kind,aI b.term.arg,aI b.term.n,aT b.term.cases,aE b.term.to]),(61,bP b.ins),(62,aI b.ins.length),(63,aI j),(8,aI j),(9,.ip none [aI i.to,aI i.op,aI i.n,aT i.args])] (by simp) (by omega) [.gone,.gone] ?_ ?_ ?_ ?_ ?_
        ·rfl
        ·simp[al.upto,au,ae.upto,av,Edge.ag,Ins.ag,Block.ag]
        ·simp[fL,St.get,bq,aY,Go.Av.look,Sub.refl]
        ·simp[al.upto,au,ae.upto,av,Edge.ag,Ins.ag,Block.ag]
        refine aS ?_;simp -dsimp only[simprocAttr,↓aa,zp,hi]
        repeat(refine⟨by omega,?_⟩)
        refine zi X5 ?_;refine⟨ob (by kernel_rfl),?_⟩;refine ah ?_;refine cd rfl ?_;refine kA ?_;refine cF ?_
        repeat(refine⟨by omega,?_⟩)
        refine fw ?_;refine⟨⟨j+1,AF⟩,by simp;omega,?_⟩;refine zq rfl ?_ ?_;simp -dsimp only[simprocAttr,↓aa,zp,zc]
        ·exact Sub.int (by simp)
        rfl
       exact bT.mp rfl rfl
      refine aG ?_;simp -dsimp only[bD,ne_eq,Nat.reduceEqDiff,reduceCtorEq];refine cF ?_
      repeat(refine⟨by omega,?_⟩)
      refine fw ?_;refine⟨⟨k+1,aZ⟩,by simp;omega,?_⟩;refine zq rfl ?_ ?_;simp -dsimp only[simprocAttr,↓aa,zp,zc]
      ·exact Sub.int (by simp)
      rfl
     exact bT.mp rfl rfl
    exact bT.mp rfl rfl
   refine aG ?_;simp -dsimp only[bD,ne_eq,Nat.reduceEqDiff,reduceCtorEq];refine ay (ah ?_);refine aq ?_;simp -dsimp only[simprocAttr,↓aa,zp,zr,Tryz.results16]
  exact bT.mp rfl rfl
 exact bT.mp rfl rfl
def qA:List Block->Nat
 | []=>0
 | b::r=>b.ins.length+1+qA r
def oO:List Func->Nat
 | []=>0
 | f::r=>qA f.blocks+oO r
def FG(u:cf):Bool:=decide ((oO u.fns:Int)<=400)&&decide ((u.fns.length:Int)<=8)
theorem AT:∀{l:List Block} {c:Nat},(∀b∈l,b.ins.length<=c)->qA l<=l.length*(c+1)
 | [],c,_=>Nat.zero_le _
 | b::r,c,h=>by
  have:=AT (l:=r) (c:=c) fun x hx=>h x (List.mem_cons_of_mem _ hx);have:=h b List.mem_cons_self;simp only[qA,List.length_cons];rw[Nat.add_mul];omega
theorem AU:∀{l:List Func} {c:Nat},(∀f∈l,qA f.blocks<=c)->oO l<=l.length*c
 | [],c,_=>Nat.zero_le _
 | f::r,c,h=>by
  have:=AU (l:=r) (c:=c) fun x hx=>h x (List.mem_cons_of_mem _ hx);have:=h f List.mem_cons_self;simp only[oO,List.length_cons];rw[Nat.add_mul];omega
theorem Bw(u:cf)(hl:u.fns.length<=256)(hb:∀f∈u.fns,f.blocks.length<=128∧∀b∈f.blocks,b.ins.length<=1024):bh Tryz.prog 10 [u.enc] (.v (.bool (FG u))):=by
 have hB:∀f∈u.fns,qA f.blocks<=131200:=fun f hf=>by
  have:=AT (l:=f.blocks) (c:=1024) (hb f hf).2;have:=(hb f hf).1;have:f.blocks.length*(1024+1)<=128*(1024+1):=Nat.mul_le_mul_right _ this;omega
 have hF:oO u.fns<=33587200:=by
  have:=AU hB;have:u.fns.length*131200<=256*131200:=Nat.mul_le_mul_right _ hl;omega
 obtain⟨R,hR⟩:∃R,R=oO u.fns:=⟨_,rfl⟩
 unfold FG;rw[<-hR]at hF ⊢;refine zf true 0 Tryz.func10 Tryz.ntmps10 ?_;dsimp only[Tmp,TypeId,slotsOf];refine ay (ah ?_);refine aA 1 0 (.ip none [a7 u.fns,aI u.main]) rfl (by simp[al.aC]) trivial rfl ?_ ?_;rotate_left;simp -dsimp only[simprocAttr,↓aa,zp]
 ·refine ay (ah ?_);refine cb (ah ?_);refine ai (aO (ι:={x:Nat×Nat // x.1<=u.fns.length∧R=x.2+oO (u.fns.drop x.1)}) (fun x=>⟨38,[(1,.ip none [a7 u.fns,aI u.main]),(3,aI x.1.2),(9,a7 u.fns),(10,aI u.fns.length),(11,aI x.1.1)],[.gone]⟩) (fun x=>u.fns.length-x.1.1) ⟨(0,0),by omega,by simp[hR]⟩ ?_ ?_)
  ·refine zq rfl ?_ ?_;simp -dsimp only[simprocAttr,↓aa,zp,zc]
   all_goals rfl
  rintro⟨⟨k,n⟩,hk,hn⟩;simp only at hk hn;refine ay (ah ?_);apply ib rfl<;>intro h
  ·refine cm ?_;have aZ:k<u.fns.length:=by simpa using h
   obtain⟨f,hf⟩:∃f,u.fns[k]?=some f:=⟨u.fns[k],by simp[aZ]⟩
   rw[bQ hf]at hn;simp only[oO]at hn;obtain⟨Zn,Zo⟩:=hb f (List.mem_of_getElem? hf);refine aH (ai ?_);refine aS ?_;simp -dsimp only[simprocAttr,↓aa,zp,hf];refine ah ?_;refine aA 5 1 (.ip none [aI f.name,aw f.blocks]) rfl (by simp[al.aC]) trivial rfl ?_ ?_;rotate_left;simp -dsimp only[simprocAttr,↓aa,zp]
   ·refine bF 1 [(1,.ip none [a7 u.fns,aI u.main]),(3,aI n),(9,a7 u.fns),(10,aI u.fns.length),(11,aI k),(5,.ip none [aI f.name,aw f.blocks])] (by simp) (by omega) [.gone] ?_ ?_ ?_ ?_ ?_
    ·rfl
    ·simp[al.upto,au,ae.upto,av,Func.ag,Block.ag]
    ·simp[fL,St.get,bq,aY,Go.Av.look,Sub.refl]
    ·simp[al.upto,au,ae.upto,av,Func.ag,Block.ag]
    refine ay (ah ?_);refine ai (aO (ι:={y:Nat×Nat // y.1<=f.blocks.length∧R=y.2+qA (f.blocks.drop y.1)+oO (u.fns.drop (k+1))}) (fun y=>⟨38,[(1,.ip none [a7 u.fns,aI u.main]),(3,aI y.1.2),(9,a7 u.fns),(10,aI u.fns.length),(11,aI k),(16,aw f.blocks),(17,aI f.blocks.length),(18,aI y.1.1)],[.gone]⟩) (fun y=>f.blocks.length-y.1.1) ⟨(0,n),by omega,by simp only[List.drop_zero];omega⟩ ?_ ?_)
    ·refine zq rfl ?_ ?_;simp -dsimp only[simprocAttr,↓aa,zp,zc]
     all_goals rfl
    rintro⟨⟨j,m⟩,hj,hm⟩;simp only at hj hm;refine ay (ah ?_);apply ib rfl<;>intro h
    ·refine cm ?_;have AF:j<f.blocks.length:=by simpa using h
     obtain⟨b,hb⟩:∃b,f.blocks[j]?=some b:=⟨f.blocks[j],by simp[AF]⟩
     have Xt:=Zo b (List.mem_of_getElem? hb);rw[bQ hb]at hm;simp only[qA]at hm;refine aH (ai ?_);refine aS ?_;simp -dsimp only[simprocAttr,↓aa,zp,hb];refine ah ?_;refine aA 7 1 (.ip none [aT b.params,bP b.ins,aI b.term.kind,aI b.term.arg,aI b.term.n,aT b.term.cases,aE b.term.to]) rfl (by simp[al.aC]) trivial rfl ?_ ?_;rotate_left;simp -dsimp only[simprocAttr,↓aa,zp]
     ·refine bF 1 [(1,.ip none [a7 u.fns,aI u.main]),(3,aI m),(9,a7 u.fns),(10,aI u.fns.length),(11,aI k),(16,aw f.blocks),(17,aI f.blocks.length),(18,aI j),(7,.ip none [aT b.params,bP b.ins,aI b.term.kind,aI b.term.arg,aI b.term.n,aT b.term.cases,aE b.term.to])] (by simp) (by omega) [.gone] ?_ ?_ ?_ ?_ ?_
      ·rfl
      ·simp[al.upto,au,ae.upto,av,Func.ag,Block.ag,Edge.ag,Ins.ag]
      ·simp[fL,St.get,bq,aY,Go.Av.look,Sub.refl]
      ·simp[al.upto,au,ae.upto,av,Func.ag,Block.ag,Edge.ag,Ins.ag]
      refine cF ?_
      repeat(refine⟨by omega,?_⟩)
      refine ah ?_;refine cF ?_
      repeat(refine⟨by omega,?_⟩)
      refine fw ?_;refine⟨⟨(j+1,m+(b.ins.length+1)),AF,by simp only;omega⟩,by simp;omega,?_⟩;refine zq rfl ?_ ?_;simp -dsimp only[simprocAttr,↓aa,zp,zc]
      ·exact⟨Sub.int (by simp),Sub.int (by simp)⟩
      rfl
     exact bT.mp rfl rfl
    refine aG ?_;simp -dsimp only[bD,ne_eq,Nat.reduceEqDiff,reduceCtorEq];have ru:j=f.blocks.length:=by simp at h;omega
    subst ru;rw[List.drop_length]at hm;simp only[qA]at hm;refine cF ?_
    repeat(refine⟨by omega,?_⟩)
    refine fw ?_;refine⟨⟨(k+1,m),aZ,by simp only;omega⟩,by simp;omega,?_⟩;refine zq rfl ?_ ?_;simp -dsimp only[simprocAttr,↓aa,zp,zc]
    ·exact Sub.int (by simp)
    rfl
   exact bT.mp rfl rfl
  refine aG ?_;simp -dsimp only[bD,ne_eq,Nat.reduceEqDiff,reduceCtorEq];have gU:k=u.fns.length:=by simp at h;omega
  subst gU;rw[List.drop_length]at hn;simp only[oO]at hn;have Oo:R=n:=by omega
  subst Oo;cases h1:decide ((R:Int)<=400)
  ·refine aS ?_;simp -dsimp only[simprocAttr,↓aa,zp,h1];refine ah ?_;refine aq ?_;simp -dsimp only[simprocAttr,↓aa,zp,zr,Tryz.results10]
  refine aS ?_;simp -dsimp only[simprocAttr,↓aa,zp,h1];refine ah ?_;refine aq ?_;simp -dsimp only[simprocAttr,↓aa,zp,zr,Tryz.results10]
 exact bT.mp rfl rfl
theorem Ud(u:cf)(bt:u.fit)(n:Int)(h:(runM u n).e=0∧(runM u n).fin≠5):bh Tryz.prog 45 [u.enc,aI n] (.cK [Gb (runM u n).out (runM u n).fin (runM u n).val,aI (runM u n).n,.v (.bool true)]):=by
 have bw:=qO u bt n;generalize runM u n=A at *;obtain⟨out,fin,val,k,e⟩:=A;obtain⟨h1,h2⟩:=h;simp only at h1 h2;subst h1;unfold Lp.enc at bw;have d1:decide (fin=5)=false:=decide_eq_false h2;refine zf true 0 Tryz.func45 Tryz.ntmps45 ?_;dsimp only[Tmp,TypeId,slotsOf];refine ay (ah ?_);refine ay ?_;refine zi bw ?_;refine ah ?_;refine aA 7 2 (.ip none [.aB 1 (out.map aI) .sh,aI fin,aI val]) rfl (by simp[al.aC]) trivial rfl ?_ ?_;rotate_left;simp -dsimp only[simprocAttr,↓aa,zp]
 ·refine aS ?_;simp -dsimp only[simprocAttr,↓aa,zp,d1,decide_true];refine⟨ob (by kernel_rfl),?_⟩;refine ah ?_;refine aq ?_;simp -dsimp only[simprocAttr,↓aa,zp,zr,Tryz.results45];simp[au,ae.upto,av]
 exact bT.mp rfl rfl
theorem Uc(u:cf)(bt:u.fit)(n:Int)(h:¬((runM u n).e=0∧(runM u n).fin≠5)):∃(r:List Int×Int×Int) (m:Int),bh Tryz.prog 45 [u.enc,aI n] (.cK [Gb r.1 r.2.1 r.2.2,aI m,.v (.bool false)]):=by
 have bw:=qO u bt n;generalize runM u n=A at *;obtain⟨out,fin,val,k,e⟩:=A;simp only at h;refine⟨(out,fin,val),k,?_⟩;unfold Lp.enc at bw;simp only at bw ⊢;by_cases h1:e=0
 ·have d0:decide (e=0)=true:=decide_eq_true h1;have d1:decide (fin=5)=true:=decide_eq_true (Classical.byContradiction fun q=>h ⟨h1,q⟩);refine zf true 0 Tryz.func45 Tryz.ntmps45 ?_;dsimp only[Tmp,TypeId,slotsOf];refine ay (ah ?_);refine ay ?_;refine zi bw ?_;refine ah ?_;refine aA 7 2 (.ip none [.aB 1 (out.map aI) .sh,aI fin,aI val]) rfl (by simp[al.aC]) trivial rfl ?_ ?_;rotate_left;simp -dsimp only[simprocAttr,↓aa,zp]
  ·refine aS ?_;simp -dsimp only[simprocAttr,↓aa,zp,d0,d1];refine⟨ob (by kernel_rfl),?_⟩;refine ah ?_;refine aq ?_;simp -dsimp only[simprocAttr,↓aa,zp,zr,Tryz.results45];simp[au,ae.upto,av]
  exact bT.mp rfl rfl
 have d0:decide (e=0)=false:=decide_eq_false h1;refine zf true 0 Tryz.func45 Tryz.ntmps45 ?_;dsimp only[Tmp,TypeId,slotsOf];refine ay (ah ?_);refine ay ?_;refine zi bw ?_;refine ah ?_;refine aA 7 2 (.ip none [.aB 1 (out.map aI) .sh,aI fin,aI val]) rfl (by simp[al.aC]) trivial rfl ?_ ?_;rotate_left;simp -dsimp only[simprocAttr,↓aa,zp]
 ·refine aS ?_;simp -dsimp only[simprocAttr,↓aa,zp,d0];refine⟨ob (by kernel_rfl),?_⟩;refine ah ?_;refine aq ?_;simp -dsimp only[simprocAttr,↓aa,zp,zr,Tryz.results45];simp[au,ae.upto,av]
 exact bT.mp rfl rfl
theorem B9(u v:cf)(bt:u.fit)(EL:v.fit)(h:(runM u 1500).e=0->(runM u 1500).fin≠5->(runM v 1000000).e=13∨((runM v 1000000).e=0∧(runM v 1000000).out=(runM u 1500).out∧(runM v 1000000).fin=(runM u 1500).fin∧(runM v 1000000).val=(runM u 1500).val)) :
  bh Tryz.prog 17 [u.enc,v.enc] (.v (.bool true)):=by
 by_cases he:(runM u 1500).e=0∧(runM u 1500).fin≠5
 ·have hr:=Ud u bt 1500 he;have hv:=qO v EL 1000000;have hh:=h he.1 he.2;generalize runM u 1500=A at *;generalize runM v 1000000=B at *;obtain⟨out,fin,val,n,e⟩:=A;obtain⟨T9,Sh,Um,n2,e2⟩:=B;unfold Lp.enc at hv;simp only at hr hv hh;rcases hh with q|⟨q1,q2,q3,q4⟩
  ·subst q;refine zf true 0 Tryz.func17 Tryz.ntmps17 ?_;dsimp only[Tmp,TypeId,slotsOf];refine ay (ah ?_);refine ay ?_;refine zi hr ?_;refine ah ?_;refine cb (ah ?_);refine cd rfl ?_;refine cm ?_;refine ay ?_;refine zi hv ?_;refine ah ?_;refine aS ?_;simp -dsimp only[simprocAttr,↓aa,zp,decide_true];refine ah ?_;refine aq ?_;simp -dsimp only[simprocAttr,↓aa,zp,zr,Tryz.results17]
  subst q1 q2 q3 q4;have qw:=mC T9 T9 Sh Sh Um Um;unfold Gb at qw;simp only[decide_true,Bool.and_self]at qw;refine zf true 0 Tryz.func17 Tryz.ntmps17 ?_;dsimp only[Tmp,TypeId,slotsOf];refine ay (ah ?_);refine ay ?_;refine zi hr ?_;refine ah ?_;refine cb (ah ?_);refine cd rfl ?_;refine cm ?_;refine ay ?_;refine zi hv ?_;refine ah ?_;refine aS ?_;simp -dsimp only[simprocAttr,↓aa,zp,decide_true];refine .inl ⟨_,qw,by simp only[au,ae.upto,zt,zu,av],an ?_⟩;simp -dsimp only[simprocAttr,↓aa,zp,decide_true];refine ah ?_;refine aq ?_;simp -dsimp only[simprocAttr,↓aa,zp,zr,Tryz.results17]
 obtain⟨r,m,hr⟩:=Uc u bt 1500 he;refine zf true 0 Tryz.func17 Tryz.ntmps17 ?_;dsimp only[Tmp,TypeId,slotsOf];refine ay (ah ?_);refine ay ?_;refine zi hr ?_;refine ah ?_;refine cb (ah ?_);refine cN rfl ?_;refine ay (ah ?_);refine aq ?_;simp -dsimp only[simprocAttr,↓aa,zp,zr,Tryz.results17]
def jD(er:Func->Int):List Func->Int
 | []=>0
 | f::r=>zd (er f) (jD er r)
theorem mW{er:Func->Int}:∀{l:List Func},jD er l=0->∀f∈l,er f=0
 | [],_,f,hf=>by cases hf
 | g::r,h,f,hf=>by
  have:=pt h;rcases List.mem_cons.1 hf with q|q
  ·subst q;exact this.1
  exact mW this.2 f q
def F6(gM:Func->Func)(er:Func->Int)(f:Func):ae:=if er f=0 then .cK [(gM f).enc,aI 0]else .cK [.agg [aI 0,.aB 7 [] .sh],aI (er f)]
theorem Gc(u:cf)(C7:u.fns.length<=256)(id:Nat)(gM:Func->Func)(er:Func->Int)(h:∀f∈u.fns,bh Tryz.prog id [f.enc] (F6 gM er f)) :
  bh Tryz.prog 11 [u.enc,.fn (.func id) [] []] (if jD er u.fns=0 then .cK [(⟨u.fns.map gM,u.main⟩:cf).enc,aI 0]else .cK [.agg [.aB 2 [] .sh,aI 0],aI (jD er u.fns)]):=by
 obtain⟨R,hR⟩:∃R,R=jD er u.fns:=⟨_,rfl⟩
 rw[<-hR];have mz:∀n,ae.upto n (.fn (.func id) [] []):=fun n=>⟨trivial,trivial⟩
 refine zf true 0 Tryz.func11 Tryz.ntmps11 ?_;dsimp only[Tmp,TypeId,slotsOf];refine ay (ah ?_);refine aA 2 0 (.ip none [a7 u.fns,aI u.main]) rfl (by simp[al.aC]) trivial rfl ?_ ?_;rotate_left;simp -dsimp only[simprocAttr,↓aa,zp]
 ·refine ay (ah ?_);refine gS 2 0 rfl rfl ?_;simp -dsimp only[simprocAttr,↓aa,zp];refine cb (ah ?_);refine ai (aO (ι:={k:Nat // k<=u.fns.length∧R=jD er (u.fns.drop k)}) (fun k=>⟨39,[(1,.fn (.func id) [] []),(4,.mp 1 0),(5,aI 0),(6,.mp 2 0),(15,a7 u.fns),(16,aI u.fns.length),(17,aI k.1)],[.gone,.cells [.aB 2 [] .ex,aI 0],.cells [.aB 2 (((u.fns.take k.1).map gM).map Func.enc) (.tok 3),aI u.main],.spare k.1]⟩) (fun k=>u.fns.length-k.1) ⟨0,by omega,hR⟩ ?_ ?_)
  ·refine zq rfl ?_ ?_;simp -dsimp only[simprocAttr,↓aa,zp,zc]
   all_goals rfl
  rintro⟨k,hk,I2⟩;refine ay (ah ?_);apply ib rfl<;>intro h
  ·refine cm ?_;have aZ:k<u.fns.length:=by simpa using h
   obtain⟨f,hf⟩:∃f,u.fns[k]?=some f:=⟨u.fns[k],by simp[aZ]⟩
   rw[bQ hf]at I2;simp only[jD]at I2;rename_i dM _;have Gu:=dM f (List.mem_of_getElem? hf);unfold F6 at Gu;have jH:(((u.fns.take (k+1)).map gM).map Func.enc)=((u.fns.take k).map gM).map Func.enc++[(gM f).enc]:=by
    rw[List.take_add_one,hf];simp
   have kr:(((u.fns.take k).map gM).map Func.enc).length=k:=by
    simp;omega
   have Ss:∀n,au n (((u.fns.take k).map gM).map Func.enc):=fun n=>Func.ag n _;have Vq:∀n,au n (((u.fns.take k).map gM).map Func.enc++[(gM f).enc]):=fun n=>by
    rw[<-jH];exact Func.ag n _
   generalize ((u.fns.take k).map gM).map Func.enc=T at *;refine aH (ai ?_);refine aS ?_;simp -dsimp only[simprocAttr,↓aa,zp,hf];refine ah ?_;refine aA 8 4 (.ip none [aI f.name,aw f.blocks]) rfl (by simp[al.aC]) trivial rfl ?_ ?_;rotate_left;simp -dsimp only[simprocAttr,↓aa,zp]
   ·by_cases he:er f=0
    ·rw[if_pos he]at Gu;rw[dZ he]at I2;generalize gM f=g at *;unfold Func.enc at Gu;refine ay ?_;refine zi Gu ?_;refine ah ?_;refine aA 9 5 (.ip none [aI g.name,aw g.blocks]) rfl (by simp[al.aC]) trivial rfl ?_ ?_;rotate_left;simp -dsimp only[simprocAttr,↓aa,zp]
     ·refine cb (ah ?_);refine cd rfl ?_;refine cm ?_;refine j4 ?_;simp -dsimp only[simprocAttr,↓aa,zp,kr]
      repeat(refine⟨by omega,?_⟩)
      refine ah ?_;refine bF 4 [(1,.fn (.func id) [] []),(4,.mp 1 0),(5,aI 0),(6,.mp 2 0),(15,a7 u.fns),(16,aI u.fns.length),(17,aI k)] (by simp) (by omega) [.gone,.cells [.aB 2 [] .ex,aI 0],.cells [.aB 2 (T++[g.enc]) (.tok 3),aI u.main],.spare (k+1)] ?_ ?_ ?_ ?_ ?_
      ·rfl
      ·simp[al.upto,au,ae.upto,av,Func.ag,Block.ag,Ss,Vq]
      ·simp[fL,St.get,bq,aY,Go.Av.look,Sub.refl]
      ·simp[al.upto,au,ae.upto,av,Func.ag,Block.ag,Ss]
      refine cF ?_
      repeat(refine⟨by omega,?_⟩)
      refine fw ?_;refine⟨⟨k+1,aZ,I2⟩,by simp;omega,?_⟩;dsimp only;rw[jH];refine zq rfl ?_ ?_;simp -dsimp only[simprocAttr,↓aa,zp,zc]
      ·exact Sub.int (by simp)
      rfl
     exact bT.mp rfl rfl
    rw[if_neg he]at Gu;rw[me he]at I2;obtain⟨e,BR⟩:∃e,e=er f:=⟨_,rfl⟩
    rw[<-BR]at Gu he I2;have m5:decide (e=0)=false:=decide_eq_false he;rw[if_neg (by rw[I2];exact he)];refine ay ?_;refine zi Gu ?_;refine ah ?_;refine cJ ?_;simp -dsimp only[simprocAttr,↓aa,zp,m5];refine ah ?_;refine cN rfl ?_;refine ay (ah ?_);refine aq ?_;simp -dsimp only[simprocAttr,↓aa,zp,zr,Tryz.results11];rw[I2];simp[au,ae.upto]
   exact bT.mp rfl rfl
  refine aG ?_;simp -dsimp only[bD,ne_eq,Nat.reduceEqDiff,reduceCtorEq];have gU:k=u.fns.length:=by simp at h;omega
  subst gU;rw[List.drop_length]at I2;simp only[jD]at I2;rw[if_pos I2,List.take_length];have Ss:∀n,au n ((u.fns.map gM).map Func.enc):=fun n=>Func.ag n _;refine ay (ah ?_);refine aq ?_;simp -dsimp only[simprocAttr,↓aa,zp,zr,Tryz.results11];simp[au,ae.upto];rw[List.map_map]at Ss;exact⟨Ss 0,by simp[cf.enc]⟩
 exact bT.mp rfl rfl
theorem DH(f:Func)(x:aX)(hg:gb f)(hx:x.blocks.length<=128):bh Tryz.prog 35 [f.enc,fO x] (.aB 2 ((fa f x).map eM) .sh):=by
 have hn:f.blocks.length<=128:=hg.few;obtain⟨R,hR⟩:∃R,R=fa f x:=⟨_,rfl⟩
 have YW:R.length<=128*257:=by
  have:=yu (x:=x) (k:=0) (l:=f.blocks) hg.to;rw[hR];unfold fa;omega
 rw[<-hR];unfold fa at hR;unfold fO;refine zf true 0 Tryz.func35 Tryz.ntmps35 ?_;dsimp only[Tmp,TypeId,slotsOf];refine ay (ah ?_);refine aA 2 0 (.ip none [aI f.name,aw f.blocks]) rfl (by simp[al.aC]) trivial rfl ?_ ?_;rotate_left;simp -dsimp only[simprocAttr,↓aa,zp];rotate_left
 ·exact bT.mp rfl rfl
 refine aA 3 1 (.ip none [aI x.head,aT x.blocks,aI x.parent]) rfl (by simp[al.aC]) trivial rfl ?_ ?_;rotate_left;simp -dsimp only[simprocAttr,↓aa,zp];rotate_left
 ·exact bT.mp rfl rfl
 refine ay (ah ?_);refine Eo 5 rfl ?_;simp -dsimp only[simprocAttr,↓aa,zp];show cu Tryz.prog _ _ _ ⟨_,_,[.gone,.gone,.spare 0]⟩;refine cb (ah ?_);refine ai (aO (ι:={X:Nat×List Mv // X.1<=f.blocks.length∧R=X.2++G8 x X.1 (f.blocks.drop X.1)}) (fun X=>⟨48,[(2,.ip none [aI f.name,aw f.blocks]),(3,.ip none [aI x.head,aT x.blocks,aI x.parent]),(5,.aB 2 (X.1.2.map eM) (.tok 2)),(11,aw f.blocks),(12,aI f.blocks.length),(13,aI X.1.1)],[.gone,.gone,.spare X.1.2.length]⟩) (fun X=>f.blocks.length-X.1.1) ⟨(0,[]),Nat.zero_le _,hR⟩ ?_ ?_)
 ·refine zq rfl ?_ ?_;simp -dsimp only[simprocAttr,↓aa,zp,zc]
  all_goals rfl
 rintro⟨⟨k,acc⟩,hk,dW⟩;simp only at hk dW;refine ay (ah ?_);apply ib rfl<;>intro h
 ·refine cm ?_;have aZ:k<f.blocks.length:=by simpa using h
  obtain⟨b,hb⟩:∃b,f.blocks[k]?=some b:=⟨f.blocks[k],List.getElem?_eq_getElem aZ⟩
  rw[bQ hb,G8]at dW;have Aw:=iZ x.blocks (k:Int);obtain⟨inb,VQ⟩:∃inb,inb=dK x.blocks (k:Int):=⟨_,rfl⟩
  rw[<-VQ]at Aw dW;refine aH (ai ?_);refine aS ?_;simp -dsimp only[simprocAttr,↓aa,zp,hb];refine ah ?_;refine aA 7 3 (.ip none [aT b.params,bP b.ins,aI b.term.kind,aI b.term.arg,aI b.term.n,aT b.term.cases,aE b.term.to]) rfl (by simp[al.aC]) trivial rfl ?_ ?_;rotate_left;simp -dsimp only[simprocAttr,↓aa,zp];rotate_left
  ·exact bT.mp rfl rfl
  refine bF 3 [(2,.ip none [aI f.name,aw f.blocks]),(3,.ip none [aI x.head,aT x.blocks,aI x.parent]),(5,.aB 2 (acc.map eM) (.tok 2)),(11,aw f.blocks),(12,aI f.blocks.length),(13,aI k),(6,aI k),(7,.ip none [aT b.params,bP b.ins,aI b.term.kind,aI b.term.arg,aI b.term.n,aT b.term.cases,aE b.term.to])] (by simp) (by omega) [.gone,.gone,.spare acc.length] ?_ ?_ ?_ ?_ ?_
  ·rfl
  ·simp[al.upto]
  ·simp[fL,St.get,bq,aY,Go.Av.look,Sub.refl]
  ·simp[al.upto,au,ae.upto,av,Func.ag,Block.ag,Edge.ag,Ins.ag,nM]
  refine ay (ah ?_);obtain⟨Q,hQ⟩:∃Q,Q=acc++Fk x.head inb (k:Int) 0 b.term.to:=⟨_,rfl⟩
  have S9:R=Q++G8 x (k+1) (f.blocks.drop (k+1)):=by rw[hQ,List.append_assoc];exact dW
  have hQl:Q.length<=128*257:=by
   have:=congrArg List.length S9;rw[List.length_append]at this;omega
  have Vy:=hg.to b (List.mem_of_getElem? hb);refine ai (aO (ι:={Y:Nat×List Mv // Y.1<=b.term.to.length∧Q=Y.2++Fk x.head inb (k:Int) Y.1 (b.term.to.drop Y.1)}) (fun Y=>⟨48,[(2,.ip none [aI f.name,aw f.blocks]),(3,.ip none [aI x.head,aT x.blocks,aI x.parent]),(5,.aB 2 (Y.1.2.map eM) (.tok 2)),(11,aw f.blocks),(12,aI f.blocks.length),(13,aI k),(6,aI k),(20,aE b.term.to),(21,aI b.term.to.length),(22,aI Y.1.1)],[.gone,.gone,.spare Y.1.2.length]⟩) (fun Y=>b.term.to.length-Y.1.1) ⟨(0,acc),Nat.zero_le _,hQ⟩ ?_ ?_)
  ·refine zq rfl ?_ ?_;simp -dsimp only[simprocAttr,↓aa,zp,zc]
   all_goals rfl
  rintro⟨⟨n,acc⟩,BT,uq⟩;simp only at BT uq;refine ay (ah ?_);apply ib rfl<;>intro h
  ·refine cm ?_;have UK:n<b.term.to.length:=by simpa using h
   obtain⟨e,he⟩:∃e,b.term.to[n]?=some e:=⟨b.term.to[n],List.getElem?_eq_getElem UK⟩
   rw[bQ he,Fk]at uq;have jK:acc.length<=128*257:=by
    have:=congrArg List.length uq;rw[List.length_append]at this;omega
   refine aH (ai ?_);refine aS ?_;simp -dsimp only[simprocAttr,↓aa,zp,he];refine ah ?_;refine aA 9 3 (.ip none [aI e.block,aT e.args]) rfl (by simp[al.aC]) trivial rfl ?_ ?_;rotate_left;simp -dsimp only[simprocAttr,↓aa,zp];rotate_left
   ·exact bT.mp rfl rfl
   refine bF 3 [(2,.ip none [aI f.name,aw f.blocks]),(3,.ip none [aI x.head,aT x.blocks,aI x.parent]),(5,.aB 2 (acc.map eM) (.tok 2)),(11,aw f.blocks),(12,aI f.blocks.length),(13,aI k),(6,aI k),(20,aE b.term.to),(21,aI b.term.to.length),(22,aI n),(8,aI n),(9,.ip none [aI e.block,aT e.args])] (by simp) (by omega) [.gone,.gone,.spare acc.length] ?_ ?_ ?_ ?_ ?_
   ·rfl
   ·simp[al.upto]
   ·simp[fL,St.get,bq,aY,Go.Av.look,Sub.refl]
   ·simp[al.upto,au,ae.upto,av,Func.ag,Block.ag,Edge.ag,Ins.ag,nM]
   by_cases h1:e.block=x.head
   ·have d1:decide (e.block=x.head)=true:=decide_eq_true h1;cases inb with
    | false =>
     rw[if_pos ⟨h1,rfl⟩]at uq;have PZ:acc.map eM++[.agg [aI (k:Int),aI (n:Int)]]=(acc++[((k:Int),(n:Int))]).map eM:=by simp[eM]
     refine aS ?_;simp -dsimp only[simprocAttr,↓aa,zp,d1];refine .inl ⟨_,Aw,by simp only[au,ae.upto,zt,zu,av],an ?_⟩;simp -dsimp only[simprocAttr,↓aa,zp,d1];refine ah ?_;refine cN rfl ?_;refine j4 ?_;simp -dsimp only[simprocAttr,↓aa,zp,List.length_map]
     repeat(refine⟨by omega,?_⟩)
     refine ah ?_;rw[PZ];refine cF ?_
     repeat(refine⟨by omega,?_⟩)
     refine fw ?_;refine⟨⟨(n+1,acc++[((k:Int),(n:Int))]),UK,by rw[uq,List.append_assoc];rfl⟩,by simp;omega,?_⟩;refine zq rfl ?_ ?_;simp -dsimp only[simprocAttr,↓aa,zp,zc]
     ·exact Sub.int (by simp)
     simp
    | true =>
     rw[if_neg (by simp)]at uq;refine aS ?_;simp -dsimp only[simprocAttr,↓aa,zp,d1];refine .inl ⟨_,Aw,by simp only[au,ae.upto,zt,zu,av],an ?_⟩;simp -dsimp only[simprocAttr,↓aa,zp,d1];refine ah ?_;refine cd rfl ?_;refine kA ?_;refine cF ?_
     repeat(refine⟨by omega,?_⟩)
     refine fw ?_;refine⟨⟨(n+1,acc),UK,uq⟩,by simp;omega,?_⟩;refine zq rfl ?_ ?_;simp -dsimp only[simprocAttr,↓aa,zp,zc]
     ·exact Sub.int (by simp)
     rfl
   have d1:decide (e.block=x.head)=false:=decide_eq_false h1;rw[if_neg (fun q=>h1 q.1)]at uq;refine aS ?_;simp -dsimp only[simprocAttr,↓aa,zp,d1];refine ah ?_;refine cd rfl ?_;refine kA ?_;refine cF ?_
   repeat(refine⟨by omega,?_⟩)
   refine fw ?_;refine⟨⟨(n+1,acc),UK,uq⟩,by simp;omega,?_⟩;refine zq rfl ?_ ?_;simp -dsimp only[simprocAttr,↓aa,zp,zc]
   ·exact Sub.int (by simp)
   rfl
  refine aG ?_;simp -dsimp only[bD,ne_eq,Nat.reduceEqDiff,reduceCtorEq];have P3:n=b.term.to.length:=by simp at h;omega
  subst P3;rw[List.drop_length,Fk,List.append_nil]at uq;subst uq;refine cF ?_
  repeat(refine⟨by omega,?_⟩)
  refine fw ?_;refine⟨⟨(k+1,Q),aZ,S9⟩,by simp;omega,?_⟩;refine zq rfl ?_ ?_;simp -dsimp only[simprocAttr,↓aa,zp,zc]
  ·exact Sub.int (by simp)
  rfl
 refine aG ?_;simp -dsimp only[bD,ne_eq,Nat.reduceEqDiff,reduceCtorEq];have gU:k=f.blocks.length:=by simp at h;omega
 subst gU;rw[List.drop_length,G8,List.append_nil]at dW;subst dW;refine ay (ah ?_);refine aq ?_;simp -dsimp only[simprocAttr,↓aa,zp,zr,Tryz.results35];exact nM _ _
theorem lR(bs:List Block):(ao (bs.map Block.enc)).length=bs.length*7:=by
 induction bs with
 | nil=>rfl
 | cons b r ih =>
  have e:ao ((b::r).map Block.enc)=b.enc.cells++ao (r.map Block.enc):=rfl;have hb:b.enc.cells.length=7:=rfl;rw[e,List.length_append,ih,hb,List.length_cons];omega
theorem vu(bs:List Block):∀d∈ao (bs.map Block.enc),d.scalar:=by
 induction bs with
 | nil=>intro d hd;cases hd
 | cons b r ih =>
  intro d hd;have e:ao ((b::r).map Block.enc)=b.enc.cells++ao (r.map Block.enc):=rfl;rw[e]at hd;rcases List.mem_append.1 hd with q|q
  ·simp only[Block.enc,ae.cells,List.mem_cons,List.not_mem_nil,or_false]at q;rcases q with rfl|rfl|rfl|rfl|rfl|rfl|rfl<;>trivial
  exact ih d q
theorem zC{P:Program}{kb:Nat}{c:Code}{Q:dP->St->Prop}{n:Nat}{bf:List (Nat×ae)}{O:List al}{ids:List Nat}{bs T:List Block}{X oid:Nat}{name:Int}
  (hl:ids.length=bs.length) (hX:oid≠X) (jr:O[X]?=some (.cells [aI name,.os oid (bs.length+T.length) 7])) (V3:O[oid]?=some (.cells (fh ids bs++ao (T.map Block.enc))))
  (yj:∀(j id:Nat) (b:Block),ids[j]?=some id->bs[j]?=some b->b.term.to≠[]->id≠oid∧id≠X∧O[id]?=some (.cells (kW b.term.to)))
  (VS:∀(i j id:Nat) (b d:Block),ids[i]?=some id->ids[j]?=some id->bs[i]?=some b->bs[j]?=some d->b.term.to≠[]->d.term.to≠[]->i=j)
  (h:∀O',O'.length=O.length->O'[X]?=some (.cells [aI name,aw (bs++T)])->cu P kb c Q ⟨n,bf,O'⟩):cu P kb c Q ⟨n,bf,O⟩:=by
 have hT:=lR T;refine tw (A:=oid) (C:=fun i=>kZ i ids bs++ao (T.map Block.enc)) (N:=bs.length) (M:=bs.length*7+T.length*7) (fun i=>i*7+6) (fun i d hd=>by
   rcases List.mem_append.1 hd with q|q
   ·exact sg i ids bs d q
   exact vu T d q) (fun i=>by rw[List.length_append,AZ i hl,hT])
  (fun i O=>O[X]?=some (.cells [aI name,.os oid (bs.length+T.length) 7])∧∀(j id:Nat) (b:Block),i<=j->ids[j]?=some id->bs[j]?=some b->b.term.to≠[]->id≠oid∧id≠X∧O[id]?=some (.cells (kW b.term.to)))
  (fun i O hi hA hf=>?_) bs.length 0 O (by omega) V3 ⟨jr,fun j id b _=>yj j id b⟩ (fun O1 dD hA hf=>?_)
 ·have l5:ids[i]?=some (ids[i]'(by omega)):=List.getElem?_eq_getElem _;have hb:bs[i]?=some (bs[i]'hi):=List.getElem?_eq_getElem _;generalize ids[i]'(by omega)=id at l5;generalize bs[i]'hi=b at hb;obtain⟨m1,m2⟩:=Fb i l5 hb;have AH:=I m1;by_cases ht:b.term.to=[]
  ·refine .inl ⟨?_,hf.1,fun j id b sO=>hf.2 j id b (by omega)⟩;have he:aE b.term.to=rH id b.term.to:=by
    rw[ht];rfl
   show kZ (i+1) ids bs++_=kZ i ids bs++_;rw[m2,he];congr 1;apply List.ext_getElem?;intro j;rw[List.getElem?_set];split
   ·rename_i e
    first|rw[<-e,m1]|rw[<-e,if_pos (I m1),m1]
   rfl
  obtain⟨o1,o2,o3⟩:=hf.2 i id b (Nat.le_refl _) l5 hb ht;refine .inr ⟨id,.cells (kW b.term.to),.os id b.term.to.length 2,aE b.term.to,o1,o3,by simp[al.aC],trivial,?_,?_,bT.os (cs:=kW b.term.to) o3 (fun x hx=>by obtain⟨e,_,rfl⟩:=List.mem_map.1 hx;rfl) (by simp) (by rw[List.drop_zero,List.take_of_length_le (by rw[kJ];omega)];exact Ge _),?_,fun j ux b' sO h1 h2 h3=>?_⟩
  ·show(kZ i ids bs++_)[i*7+6]?=_;rw[List.getElem?_append_left AH,m1];exact congrArg some (if_neg ht)
  ·show kZ (i+1) ids bs++_=(kZ i ids bs++_).set (i*7+6) _;rw[m2,List.set_append_left _ _ AH]
  ·rw[List.getElem?_set_ne (fun e=>hX e),List.getElem?_set_ne (fun e=>o2 e)];exact hf.1
  obtain⟨p1,p2,p3⟩:=hf.2 j ux b' (by omega) h1 h2 h3;refine⟨p1,p2,?_⟩;rw[List.getElem?_set_ne (fun e=>p1 e.symm),List.getElem?_set_ne (fun e=>?_)]
  ·exact p3
  subst e;have:=VS i j id b b' l5 h1 hb h2 ht h3;omega
 have cA:kZ bs.length ids bs++ao (T.map Block.enc)=ao ((bs++T).map Block.enc):=by
  rw[AY hl,List.map_append];simp[ao]
 rw[cA]at hA;refine kR oid hA (by simp[al.aC]) trivial bf (fun s z hz=>⟨z,hz,.refl z⟩) X (Ne.symm hX) [aI name,.os oid (bs.length+T.length) 7] [aI name,aw (bs++T)] hf.1 rfl (fun d hd=>?_) (fun j a d ha hd=>?_) (h _ (by rw[List.length_set,List.length_set,dD]) ?_)
 ·simp only[List.mem_cons,List.not_mem_nil,or_false]at hd;rcases hd with rfl|rfl<;>trivial
 ·match j,ha,hd with
  | 0,ha,hd =>
   simp only[List.getElem?_cons_zero,Option.some.injEq]at ha hd;subst ha;subst hd;exact .refl _
  | 1,ha,hd =>
   simp only[List.getElem?_cons_succ,List.getElem?_cons_zero,Option.some.injEq]at ha hd;subst ha;subst hd;refine bT.os hA (fun x hx=>?_) (by simp) ?_
   ·obtain⟨b,_,rfl⟩:=List.mem_map.1 hx;rfl
   have AH:=lR (bs++T);rw[List.length_append]at AH;rw[List.drop_zero,List.take_of_length_le (by omega)];exact xM (bs++T)
  | j+2,ha,hd=>simp at ha
 rw[List.getElem?_set_self (by rw[List.length_set];exact I hf.1)]
theorem LD{ids:List Nat}{bs:List Block}{T:List ae}{k id:Nat}{b:Block}(h1:ids[k]?=some id)(h2:bs[k]?=some b):(fh ids bs++T)[k*7+6]?=some (rH id b.term.to):=by
 have h3:=Er h1 h2;have h4:(((fh ids bs).drop (k*7)).take 7)[6]?=some (rH id b.term.to):=by
  rw[h3];rfl
 rw[List.getElem?_take,if_pos (by omega),List.getElem?_drop]at h4;rw[List.getElem?_append_left (I h4)];exact h4
theorem LB(id:Nat)(b:Block)(l:List Edge)(h:l.length=b.term.to.length):wz id (eH b l)=wz id b:=by
 unfold wz eH rH;simp only;by_cases q:b.term.to=[]
 ·rw[if_pos q,if_pos (by rw[q]at h;exact List.length_eq_zero_iff.1 h)]
 rw[if_neg q,if_neg (fun r=>q (by rw[r]at h;exact List.length_eq_zero_iff.1 h.symm)),h]
theorem zH:∀{ids:List Nat} {bs:List Block} {fe:List (List Edge)},fe.length=bs.length->(∀(k:Nat) b l,bs[k]?=some b->fe[k]?=some l->l.length=b.term.to.length)->fh ids (List.zipWith eH bs fe)=fh ids bs
 | [],_,_,_,_=>by simp[fh]
 | _::_,[],[],_,_=>rfl
 | i::ids,b::bs,l::fe,h,hl=>by
  have e1:fh (i::ids) (List.zipWith eH (b::bs) (l::fe))=wz i (eH b l)++fh ids (List.zipWith eH bs fe):=rfl;have e2:fh (i::ids) (b::bs)=wz i b++fh ids bs:=rfl;rw[e1,e2,LB i b l (hl 0 b l rfl rfl),zH (by simpa using h) fun k b l h1 h2=>hl (k+1) b l (by simpa using h1) (by simpa using h2)]
 | _::_,[],_::_,h,_=>by simp at h
 | _::_,_::_,[],h,_=>by simp at h
theorem LU{es:List Edge}{n:Nat}(h:n<es.length)(e:Edge):bk (kW es) (n*2) [aI e.block,aT e.args]=kW (es.set n e):=by
 have hl:=kJ es;have hx:es[n]?=some es[n]:=List.getElem?_eq_getElem h;have hlen:(kW (es.take n)).length=n*2:=by rw[kJ,List.length_take];omega
 have e1:es=es.take n++es[n]::es.drop (n+1):=by rw[<-bQ hx,List.take_append_drop]
 have e2:kW es=kW (es.take n)++(aI es[n].block::aT es[n].args::kW (es.drop (n+1))):=by
  conv=>lhs;rw[e1]
  rw[pe];rfl
 have e3:kW (es.set n e)=kW (es.take n)++(aI e.block::aT e.args::kW (es.drop (n+1))):=by
  have:es.set n e=es.take n++e::es.drop (n+1):=by
   conv=>lhs;rw[e1]
   rw[List.set_append_right _ _ (by rw[List.length_take];omega),List.length_take,show n-min n es.length=0 by omega];rfl
  rw[this,pe];rfl
 rw[e3];apply List.ext_getElem?;intro i;rw[iV (by rw[hl];simp;omega),e2];simp only[List.length_cons,List.length_nil];by_cases h1:i<n*2
 ·rw[if_neg (by omega),List.getElem?_append_left (by omega),List.getElem?_append_left (by omega)]
 by_cases h2:i<n*2+2
 ·rw[if_pos (by omega),List.getElem?_append_right (by omega),hlen];rcases(show i=n*2∨i=n*2+1 by omega)with q|q
  ·subst q;rw[Nat.sub_self];rfl
  subst q;rw[show n*2+1-n*2=1 by omega];rfl
 rw[if_neg (by omega),List.getElem?_append_right (by omega),List.getElem?_append_right (by omega),hlen];obtain⟨j,hj⟩:∃j,i-n*2=j+2:=⟨i-n*2-2,by omega⟩
 rw[hj];rfl
theorem FV(l:List Int):(l.map aI).map ae.share=l.map aI:=by
 rw[List.map_map];rfl
theorem tS(l:List Int)(hl:l.length<=2 ^ 43):bh Tryz.prog 36 [aT l] (aT l):=by
 have hs:=FV l;refine zf true 0 Tryz.func36 Tryz.ntmps36 ?_;dsimp only[Tmp,TypeId,slotsOf];refine ay (ah ?_);refine Ia 0 rfl (fun hn=>?_) ?_
 ·simp -dsimp only[simprocAttr,↓aa,zp];refine cb (ah ?_);refine cN rfl ?_;refine ay (ah ?_);refine aq ?_;simp -dsimp only[simprocAttr,↓aa,zp,zr,Tryz.results36];exact⟨trivial,by show ae.aB 1 [] pP.sh=.aB 1 (l.map aI) .sh;rw[hn]⟩
 simp -dsimp only[simprocAttr,↓aa,zp];refine cb (ah ?_);refine cd rfl ?_;refine cm ?_;refine aS ?_;simp -dsimp only[simprocAttr,↓aa,zp,hs]
 repeat(refine⟨by omega,?_⟩)
 refine ah ?_;refine aq ?_;simp -dsimp only[simprocAttr,↓aa,zp,zr,Tryz.results36]
structure Cx where
 k:Nat
 eo:Nat
 ids:List Nat
 O:List al
structure Ci where
 j:Nat
 O:List al
structure Ce where
 z:Nat
 tid:Nat
 O:List al
theorem Jv{l:List Ins}{j:Nat}{i:Ins}(h:l[j]?=some i):(l.take (j+1)).map Ins.enc=(l.take j).map Ins.enc++[i.enc]:=by
 rw[List.take_add_one,h,List.map_append];rfl
theorem JQ(O:List al)(C0:List ae):(O++[al.cells C0]++[al.spare 0]).set O.length (.cells (C0.set 1 (.aB 4 [] (.tok (O++[al.cells C0]).length))))=O++[.cells (C0.set 1 (.aB 4 [] (.tok (O.length+1)))),.spare 0]:=by simp
abbrev tA(id:Nat)(b:Block)(l:List ae)(t:ae):List ae:=[aT b.params,.aB 4 l (.tok id),aI b.term.kind,aI b.term.arg,aI b.term.n,aT b.term.cases,t]
abbrev lf(id:Nat)(b:Block)(l:List Ins)(t:ae):List ae:=[aT b.params,.aB 4 (l.map Ins.enc) (.tok id),aI b.term.kind,aI b.term.arg,aI b.term.n,aT b.term.cases,t]
theorem lg{n id:Nat}(b:Block)(l:List Ins){t:ae}(h:id<n)(ht:t.upto n):au n (lf id b l t):=⟨⟨av _ _,trivial⟩,⟨Ins.ag _ _,h⟩,trivial,trivial,trivial,⟨av _ _,trivial⟩,ht,trivial⟩
theorem F8(f:Func)(hs:W0 f)(bI:f.blocks≠[]):ba Tryz.prog 33 [.gone,.cells [aI 0,.aB 7 [] .ex]] [f.enc] (WZ f):=by
 have gA:=fun(l:List Int) (h:l.length<=4096)=>tS l (by omega);have Oq:=CD f;have hn:=hs.few;obtain⟨N,hN⟩:∃N,N=f.blocks.length:=⟨_,rfl⟩
 rw[<-hN]at hn;refine Gd hT Tryz.func33 rfl (by kernel_rfl) (by simp[Tryz.ntmps33]) ?_;show cu Tryz.prog _ _ _ ⟨83,_,_⟩;dsimp only[Tmp,TypeId,slotsOf];refine ay (ah ?_);refine aA 1 2 (.ip none [aI f.name,aw f.blocks]) rfl (by simp[al.aC]) trivial rfl ?_ ?_;rotate_left;simp -dsimp only[simprocAttr,↓aa,zp]
 ·refine ay (ah ?_);refine cJ ?_;simp -dsimp only[simprocAttr,↓aa,zp,<-hN];refine ah ?_;show cu Tryz.prog _ _ _ ⟨_,_,[.gone,.cells [aI 0,.aB 7 [] .ex],.gone,.cells [aI 0,.aB 7 [] .ex],.cells [aI f.name,.aB 7 [] .ex]]⟩;generalize [al.gone,.cells [aI 0,.aB 7 [] .ex],.gone,.cells [aI 0,.aB 7 [] .ex],.cells [aI f.name,.aB 7 [] .ex]]=O0 at *;refine ai (aO (ι:={X:Cx // X.k<=N∧Uo f (f.blocks.take X.k) X.eo X.ids X.O}) (fun X=>⟨83,[(1,.ip none [aI f.name,aw f.blocks]),(2,.mp 3 0),(3,.mp 4 0),(15,aw f.blocks),(16,aI N),(17,aI X.1.k)],X.1.O⟩) (fun X=>N-X.1.k) ⟨⟨0,0,[],O0⟩,by simp,Oq⟩ ?_ ?_)
  ·refine zq rfl ?_ ?_;simp -dsimp only[simprocAttr,↓aa,zp,zc]
   all_goals rfl
  rintro⟨⟨k,eo,ids,O⟩,hk,hS⟩;simp only at hk hS;refine ay (ah ?_);apply ib rfl<;>intro h
  ·refine cm ?_;have aZ:k<N:=by simpa using h
   obtain⟨b,hb⟩:∃b,f.blocks[k]?=some b:=⟨f.blocks[k]'(by omega),List.getElem?_eq_getElem _⟩
   have sJ:=List.mem_of_getElem? hb;have jH:f.blocks.take (k+1)=f.blocks.take k++[b]:=by rw[List.take_add_one,hb];rfl
   have SD:=hs.params b sJ;have Xt:=hs.ins b sJ;have Rq:=hs.OX b sJ;have Y':=hs.cases b sJ;have Vy:=hs.to b sJ;have PD:=hs.Ol b sJ;have VC:=gA b.params (by omega);have UD:=gA b.term.cases (by omega);have Vd:=I hS.r3;have Yy:=I hS.out;refine aH (ai ?_);refine aS ?_;simp -dsimp only[simprocAttr,↓aa,zp,hb];refine ah ?_;refine aJ 5 ([aT b.params,bP b.ins,aI b.term.kind,aI b.term.arg,aI b.term.n,aT b.term.cases,aE b.term.to]) [(1,.ip none [aI f.name,aw f.blocks]),(2,.mp 3 0),(3,.mp 4 0),(15,aw f.blocks),(16,aI N),(17,aI k),(5,.ip none [aT b.params,bP b.ins,aI b.term.kind,aI b.term.arg,aI b.term.n,aT b.term.cases,aE b.term.to])] (by simp[bq,aY,Go.Av.look]) (by rfl) (by omega) (by simp[bq,aY,Go.Av.look]) ?_ ?_ ?_
   ·exact hS.up
   ·simp[ae.upto,au,av,Edge.ag,Ins.ag,Block.ag,Vd,Yy]
   refine ay ?_;refine zi VC ?_;refine⟨ob (by kernel_rfl),?_⟩;refine ah ?_;refine gS O.length 1 (sz:=4) (xs:=[]) (eK _ _) rfl ?_;show cu Tryz.prog _ _ _ ⟨_,_,(O++[al.cells [aT b.params,.aB 4 [] .ex,aI b.term.kind,aI b.term.arg,aI b.term.n,aT b.term.cases,aE b.term.to]]++[al.spare 0]).set O.length (.cells ([aT b.params,.aB 4 [] .ex,aI b.term.kind,aI b.term.arg,aI b.term.n,aT b.term.cases,aE b.term.to].set 1 (.aB 4 [] (.tok (O++[al.cells [aT b.params,.aB 4 [] .ex,aI b.term.kind,aI b.term.arg,aI b.term.n,aT b.term.cases,aE b.term.to]]).length))))⟩;rw[JQ];have hI:=Ra.start hS.up (cs:=lf (O.length+1) b [] (aE b.term.to)) (lg b [] (by omega) ⟨Edge.ag _ _,trivial⟩);show cu Tryz.prog _ _ _ ⟨_,_,O++[al.cells (lf (O.length+1) b [] (aE b.term.to)),.spare 0]⟩;generalize O++[al.cells (lf (O.length+1) b [] (aE b.term.to)),.spare 0]=O2 at *;refine cb (ah ?_);refine ai (aO (ι:={X:Ci // X.j<=b.ins.length∧Ra O (lf (O.length+1) b (b.ins.take X.j) (aE b.term.to)) X.j X.O}) (fun X=>⟨83,[(1,.ip none [aI f.name,aw f.blocks]),(2,.mp 3 0),(3,.mp 4 0),(15,aw f.blocks),(16,aI N),(17,aI k),(5,.ip none [aT b.params,bP b.ins,aI b.term.kind,aI b.term.arg,aI b.term.n,aT b.term.cases,aE b.term.to]),(6,.mp O.length 0),(28,bP b.ins),(29,aI b.ins.length),(30,aI X.1.j)],X.1.O⟩) (fun X=>b.ins.length-X.1.j) ⟨⟨0,O2⟩,by simp,hI⟩ ?_ ?_)
   ·refine zq rfl ?_ ?_;simp -dsimp only[simprocAttr,↓aa,zp,zc]
    all_goals rfl
   rintro⟨⟨j,O2⟩,hj,hI⟩;simp only at hj hI;have hI2:=hI.len;refine ay (ah ?_);apply ib rfl<;>intro h
   ·refine cm ?_;have AF:j<b.ins.length:=by simpa using h
    obtain⟨i,hi⟩:∃i,b.ins[j]?=some i:=⟨b.ins[j],by simp[AF]⟩
    have PF:=gA i.args (by have:=Rq i (List.mem_of_getElem? hi);omega);have dd:=hI.cell;have qY:=hI.sp;have kr:(b.ins.take j).length=j:=by rw[List.length_take];omega
    refine aH (ai ?_);refine aS ?_;simp -dsimp only[simprocAttr,↓aa,zp,hi];refine ah ?_;refine ay ?_;refine zi PF ?_;refine ah ?_;refine aJ 8 ([aI i.to,aI i.op,aI i.n,aT i.args]) [(1,.ip none [aI f.name,aw f.blocks]),(2,.mp 3 0),(3,.mp 4 0),(15,aw f.blocks),(16,aI N),(17,aI k),(5,.ip none [aT b.params,bP b.ins,aI b.term.kind,aI b.term.arg,aI b.term.n,aT b.term.cases,aE b.term.to]),(6,.mp O.length 0),(28,bP b.ins),(29,aI b.ins.length),(30,aI j),(8,.ip none [aI i.to,aI i.op,aI i.n,aT i.args])] (by simp[bq,aY,Go.Av.look]) (by rfl) (by omega) (by simp[bq,aY,Go.Av.look]) ?_ ?_ ?_
    ·exact hI.up
    ·have Uu:=I dd;simp[ae.upto,au,av,Edge.ag,Ins.ag,Block.ag,Uu,show 3<O2.length by omega,show 4<O2.length by omega]
    have ph:∀y,(O2.set (O.length+1) y)[O.length]?=some (.cells (lf (O.length+1) b (b.ins.take j) (aE b.term.to))):=fun y=>by rw[List.getElem?_set_ne (by omega)];exact dd
    refine j4 ?_;simp -dsimp only[simprocAttr,↓aa,zp,dd,ph,qY,lf,List.length_map,kr]
    repeat(refine⟨by omega,?_⟩)
    refine ah ?_;have hIn:=(hI.room (j+1)).one (cs':=lf (O.length+1) b (b.ins.take (j+1)) (aE b.term.to)) (lg b _ (by omega) ⟨Edge.ag _ _,trivial⟩);show cu Tryz.prog _ _ _ ⟨_,_,(O2.set (O.length+1) (al.spare (j+1))).set O.length (.cells (tA (O.length+1) b ((b.ins.take j).map Ins.enc++[i.enc]) (aE b.term.to)))⟩;rw[<-Jv hi];have hIn:Ra O _ _ ((O2.set (O.length+1) (al.spare (j+1))).set O.length (.cells (tA (O.length+1) b ((b.ins.take (j+1)).map Ins.enc) (aE b.term.to)))):=hIn;generalize (O2.set (O.length+1) (al.spare (j+1))).set O.length (.cells (tA (O.length+1) b ((b.ins.take (j+1)).map Ins.enc) (aE b.term.to)))=O5 at *;refine cF ?_
    repeat(refine⟨by omega,?_⟩)
    refine fw ?_;refine⟨⟨⟨j+1,O5⟩,AF,hIn⟩,by simp;omega,?_⟩;refine zq rfl ?_ ?_;simp -dsimp only[simprocAttr,↓aa,zp,zc]
    ·exact Sub.int (by simp)
    rfl
   refine aG ?_;simp -dsimp only[bD,ne_eq,Nat.reduceEqDiff,reduceCtorEq];have OA:b.ins.length<=j:=by
    have:=of_decide_eq_false h;omega
   rw[List.take_of_length_le OA]at hI;have dd:=hI.cell;refine aS ?_;simp -dsimp only[simprocAttr,↓aa,zp,dd];refine .inl ⟨_,UD,by simp only[au,ae.upto,zt,zu,av],an ?_⟩;simp -dsimp only[simprocAttr,↓aa,zp,dd];refine ah ?_;have hIn:=hI.one (cs':=lf (O.length+1) b b.ins (aE b.term.to)) (lg b _ (by omega) ⟨Edge.ag _ _,trivial⟩);show cu Tryz.prog _ _ _ ⟨_,_,O2.set O.length (.cells (lf (O.length+1) b b.ins (aE b.term.to)))⟩;generalize O2.set O.length (.cells (lf (O.length+1) b b.ins (aE b.term.to)))=O5 at *;have dd:=hIn.cell;refine aS ?_;simp -dsimp only[simprocAttr,↓aa,zp,dd];refine ah ?_;have h2l:=hIn.len;have Mu:lf (O.length+1) b b.ins (.aB 2 [] .ex)=[aT b.params,.aB 4 (b.ins.map Ins.enc) (.tok (O.length+1)),aI b.term.kind,aI b.term.arg,aI b.term.n,aT b.term.cases,.aB 2 [] .ex]:=rfl;refine rT O.length (lf (O.length+1) b b.ins (.aB 2 [] .ex)) (List.getElem?_set_self (by omega)) rfl (fun d hd=>?_) (fun j c d hc hd=>?_) ?_
   ·simp only[lf,tA,List.mem_cons,List.not_mem_nil,or_false]at hd;rcases hd with rfl|rfl|rfl|rfl|rfl|rfl|rfl<;>trivial
   ·match j,hc,hd with
    | 0,hc,hd=>exact Sub.of_eq (by simpa[lf,tA]using hc.symm.trans hd)
    | 1,hc,hd=>exact Sub.of_eq (by simpa[lf,tA]using hc.symm.trans hd)
    | 2,hc,hd=>exact Sub.of_eq (by simpa[lf,tA]using hc.symm.trans hd)
    | 3,hc,hd=>exact Sub.of_eq (by simpa[lf,tA]using hc.symm.trans hd)
    | 4,hc,hd=>exact Sub.of_eq (by simpa[lf,tA]using hc.symm.trans hd)
    | 5,hc,hd=>exact Sub.of_eq (by simpa[lf,tA]using hc.symm.trans hd)
    | 6,hc,hd =>
     simp only[lf,tA,List.getElem?_cons_succ,List.getElem?_cons_zero,Option.some.injEq]at hc hd;subst hc;subst hd;exact Sub.MJ 2
    | j+7,hc,hd=>simp at hc
   rw[List.set_set];have hE:=Q'.start (cs:=lf (O.length+1) b b.ins) (hIn.one (cs':=lf (O.length+1) b b.ins (.aB 2 [] .ex)) (lg b _ (by omega) ⟨trivial,trivial⟩));generalize O5.set O.length (.cells (lf (O.length+1) b b.ins (.aB 2 [] .ex)))=O6 at *;refine cb (ah ?_);refine ai (aO (ι:={X:Ce // X.z<=b.term.to.length∧Q' O (lf (O.length+1) b b.ins) X.tid (b.term.to.take X.z) X.O}) (fun X=>⟨83,[(1,.ip none [aI f.name,aw f.blocks]),(2,.mp 3 0),(3,.mp 4 0),(15,aw f.blocks),(16,aI N),(17,aI k),(5,.ip none [aT b.params,bP b.ins,aI b.term.kind,aI b.term.arg,aI b.term.n,aT b.term.cases,aE b.term.to]),(6,.mp O.length 0),(55,aE b.term.to),(56,aI b.term.to.length),(57,aI X.1.z)],X.1.O⟩) (fun X=>b.term.to.length-X.1.z) ⟨⟨0,0,O6⟩,by simp,hE⟩ ?_ ?_)
   ·refine zq rfl ?_ ?_;simp -dsimp only[simprocAttr,↓aa,zp,zc]
    all_goals rfl
   rintro⟨⟨z,tid,O3⟩,hz,hE⟩;simp only at hz hE;have hE2:=hE.len;refine ay (ah ?_);apply ib rfl<;>intro h
   ·refine cm ?_;have ur:z<b.term.to.length:=by simpa using h
    obtain⟨e,he⟩:∃e,b.term.to[z]?=some e:=⟨b.term.to[z],by simp[ur]⟩
    have HO:=gA e.args (PD e (List.mem_of_getElem? he));have dd:=hE.cell;have TW:b.term.to.take (z+1)=b.term.to.take z++[e]:=by rw[List.take_add_one,he];rfl
    have kr:(b.term.to.take z).length=z:=by rw[List.length_take];omega
    have Uu:=I dd;refine aH (ai ?_);refine aS ?_;simp -dsimp only[simprocAttr,↓aa,zp,he];refine ah ?_;refine aJ 10 ([aI e.block,aT e.args]) [(1,.ip none [aI f.name,aw f.blocks]),(2,.mp 3 0),(3,.mp 4 0),(15,aw f.blocks),(16,aI N),(17,aI k),(5,.ip none [aT b.params,bP b.ins,aI b.term.kind,aI b.term.arg,aI b.term.n,aT b.term.cases,aE b.term.to]),(6,.mp O.length 0),(55,aE b.term.to),(56,aI b.term.to.length),(57,aI z),(10,.ip none [aI e.block,aT e.args])] (by simp[bq,aY,Go.Av.look]) (by rfl) (by omega) (by simp[bq,aY,Go.Av.look]) ?_ ?_ ?_
    ·exact hE.up
    ·simp[ae.upto,au,av,Edge.ag,Ins.ag,Block.ag,Uu,show 3<O3.length by omega,show 4<O3.length by omega]
    by_cases RN:b.term.to.take z=[]
    ·have RC:Hc tid (b.term.to.take z)=.aB 2 [] .ex:=if_pos RN;rw[RC]at dd;have ph:∀X,(O3++X)[O.length]?=some (.cells (lf (O.length+1) b b.ins (.aB 2 [] .ex))):=fun X=>cj dd;refine Oa ?_;simp -dsimp only[simprocAttr,↓aa,zp,dd,ph,lf,dG,dC]
     repeat(refine⟨by omega,?_⟩)
     refine .inl ⟨_,HO,by simp only[au,ae.upto,zt,zu,av],an ?_⟩;simp -dsimp only[simprocAttr,↓aa,zp,dd,ph,lf,dG,dC]
     repeat(refine⟨by omega,?_⟩)
     refine⟨trivial,?_⟩;refine⟨ob (by kernel_rfl),?_⟩;refine ah ?_;have l6:Q' O (lf (O.length+1) b b.ins) O3.length (b.term.to.take z++[e]) ((O3++[al.cells [aI e.block,aT e.args]]).set O.length (.cells (lf (O.length+1) b b.ins (.os O3.length 1 2)))):=hE.push e (fun v n hv hn=>lg b _ (by omega) hv) rfl hE.up (fun _ _=>rfl) (by rw[RN];rfl) (by rw[RN];rfl);show cu Tryz.prog _ _ _ ⟨_,_,(O3++[al.cells [aI e.block,aT e.args]]).set O.length (.cells (lf (O.length+1) b b.ins (.os O3.length 1 2)))⟩;generalize (O3++[al.cells [aI e.block,aT e.args]]).set O.length (.cells (lf (O.length+1) b b.ins (.os O3.length 1 2)))=O7 at *;refine cF ?_
     repeat(refine⟨by omega,?_⟩)
     refine fw ?_;refine⟨⟨⟨z+1,O3.length,O7⟩,ur,by rw[TW];exact l6⟩,by simp;omega,?_⟩;refine zq rfl ?_ ?_;simp -dsimp only[simprocAttr,↓aa,zp,zc]
     ·exact Sub.int (by simp)
     rfl
    obtain⟨o1,o2⟩:=hE.own RN;have RC:Hc tid (b.term.to.take z)=.os tid z 2:=by
     unfold Hc;rw[if_neg RN,kr]
    rw[RC]at dd;have ph:∀X,(O3.set tid .gone++X)[O.length]?=some (.cells (lf (O.length+1) b b.ins (.os tid z 2))):=fun X=>cj (bm dd (by omega));have EG:(kW (b.term.to.take z)).take (z*2)=kW (b.term.to.take z):=List.take_of_length_le (by rw[kJ];omega);have EK:=kJ (b.term.to.take z);rw[kr]at EK;refine j4 ?_;simp -dsimp only[simprocAttr,↓aa,zp,dd,ph,lf,o2,EG,EK,dG,dC]
    repeat(refine⟨by omega,?_⟩)
    refine .inl ⟨_,HO,by simp only[au,ae.upto,zt,zu,av],an ?_⟩;simp -dsimp only[simprocAttr,↓aa,zp,dd,ph,lf,o2,EG,EK,dG,dC]
    repeat(refine⟨by omega,?_⟩)
    refine⟨trivial,?_⟩;refine⟨ob (by kernel_rfl),?_⟩;refine ah ?_;have l6:Q' O (lf (O.length+1) b b.ins) O3.length (b.term.to.take z++[e]) ((O3.set tid .gone++[al.cells (kW (b.term.to.take z)++[aI e.block,aT e.args])]).set O.length (.cells (lf (O.length+1) b b.ins (.os O3.length (z+1) 2)))):=hE.push (O4:=O3.set tid .gone) e (fun v n hv hn=>lg b _ (by omega) hv) (List.length_set) (bR hE.up trivial) (fun k hk=>by rw[List.getElem?_set_ne (Ne.symm (hk RN))]) (by rw[IJ]) (by rw[kr]);show cu Tryz.prog _ _ _ ⟨_,_,(O3.set tid .gone++[al.cells (kW (b.term.to.take z)++[aI e.block,aT e.args])]).set O.length (.cells (lf (O.length+1) b b.ins (.os O3.length (z+1) 2)))⟩;generalize (O3.set tid .gone++[al.cells (kW (b.term.to.take z)++[aI e.block,aT e.args])]).set O.length (.cells (lf (O.length+1) b b.ins (.os O3.length (z+1) 2)))=O7 at *;refine cF ?_
    repeat(refine⟨by omega,?_⟩)
    refine fw ?_;refine⟨⟨⟨z+1,O3.length,O7⟩,ur,by rw[TW];exact l6⟩,by simp;omega,?_⟩;refine zq rfl ?_ ?_;simp -dsimp only[simprocAttr,↓aa,zp,zc]
    ·exact Sub.int (by simp)
    rfl
   refine aG ?_;simp -dsimp only[bD,ne_eq,Nat.reduceEqDiff,reduceCtorEq];have ta:b.term.to.length<=z:=by
    have:=of_decide_eq_false h;omega
   rw[List.take_of_length_le ta]at hE;have dd:=hE.cell;have jr:=hS.out;have P4:=hE.rz 4 (by omega);rw[jr]at P4;have Qk:(f.blocks.take k).length=k:=by rw[List.length_take];omega
   have yj:=hE.own;have Uu:=I dd;by_cases BP:f.blocks.take k=[]
   ·have vP:A8 eo (f.blocks.take k)=.aB 7 [] .ex:=if_pos BP;rw[vP]at P4;have P5:∀X,(O3++X)[4]?=some (.cells [aI f.name,.aB 7 [] .ex]):=fun X=>cj P4;refine Oa ?_;simp -dsimp only[simprocAttr,↓aa,zp,dd,lf,P4,P5,dG,dC,uK,uJ]
    repeat(refine⟨by omega,?_⟩)
    refine⟨trivial,?_⟩;refine ah ?_;have l6:Uo f (f.blocks.take k++[b]) O3.length (ids++[tid]) ((O3++[al.cells (wz tid b)]).set 4 (.cells [aI f.name,.os O3.length 1 7])):=hS.snoc (by omega) hE.up (fun k hk _=>hE.rz k hk) (fun q=>⟨by have:=(yj q).1;omega,(yj q).2⟩) (by rw[wB hS.cp.li,BP];simp[fh]) (by rw[BP];rfl);show cu Tryz.prog _ _ _ ⟨_,_,(O3++[al.cells (wz tid b)]).set 4 (.cells [aI f.name,.os O3.length 1 7])⟩;generalize (O3++[al.cells (wz tid b)]).set 4 (.cells [aI f.name,.os O3.length 1 7])=O7 at *;refine cF ?_
    repeat(refine⟨by omega,?_⟩)
    refine fw ?_;refine⟨⟨⟨k+1,O3.length,ids++[tid],O7⟩,aZ,by rw[jH];exact l6⟩,by simp;omega,?_⟩;refine zq rfl ?_ ?_;simp -dsimp only[simprocAttr,↓aa,zp,zc]
    ·exact Sub.int (by simp)
    rfl
   obtain⟨b1,b2⟩:=hS.blk BP;have uk:=I b2;have b3:=hE.rz eo uk;rw[b2]at b3;have vP:A8 eo (f.blocks.take k)=.os eo k 7:=by
    unfold A8;rw[if_neg BP,Qk]
   rw[vP]at P4;have P5:∀X,(O3.set eo .gone++X)[4]?=some (.cells [aI f.name,.os eo k 7]):=fun X=>cj (bm P4 (by omega));have SB:=mQ hS.cp.li;rw[Qk]at SB;have EG:(fh ids (f.blocks.take k)).take (k*7)=fh ids (f.blocks.take k):=List.take_of_length_le (by omega);refine j4 ?_;simp -dsimp only[simprocAttr,↓aa,zp,dd,lf,P4,P5,b3,EG,SB,dG,dC,uK,uJ]
   repeat(refine⟨by omega,?_⟩)
   refine⟨trivial,?_⟩;refine ah ?_;have l6:Uo f (f.blocks.take k++[b]) O3.length (ids++[tid]) ((O3.set eo .gone++[al.cells (fh ids (f.blocks.take k)++wz tid b)]).set 4 (.cells [aI f.name,.os O3.length (k+1) 7])):=by
    have:=hS.snoc (O1:=O3.set eo .gone) (b:=b) (tid:=tid) (by rw[List.length_set];omega) (by rw[List.length_set];exact bR hE.up trivial) (fun k hk Jd=>by rw[List.getElem?_set_ne (Ne.symm (Jd BP))];exact hE.rz k hk) (fun q=>⟨by have:=(yj q).1;omega,by rw[List.getElem?_set_ne (by have:=(yj q).1;omega)];exact(yj q).2⟩) (wB hS.cp.li tid b).symm rfl;rw[List.length_set,Qk]at this;exact this
   show cu Tryz.prog _ _ _ ⟨_,_,(O3.set eo .gone++[al.cells (fh ids (f.blocks.take k)++wz tid b)]).set 4 (.cells [aI f.name,.os O3.length (k+1) 7])⟩;generalize (O3.set eo .gone++[al.cells (fh ids (f.blocks.take k)++wz tid b)]).set 4 (.cells [aI f.name,.os O3.length (k+1) 7])=O7 at *;refine cF ?_
   repeat(refine⟨by omega,?_⟩)
   refine fw ?_;refine⟨⟨⟨k+1,O3.length,ids++[tid],O7⟩,aZ,by rw[jH];exact l6⟩,by simp;omega,?_⟩;refine zq rfl ?_ ?_;simp -dsimp only[simprocAttr,↓aa,zp,zc]
   ·exact Sub.int (by simp)
   rfl
  refine aG ?_;simp -dsimp only[bD,ne_eq,Nat.reduceEqDiff,reduceCtorEq];have VY:k=N:=by
   have:=of_decide_eq_false h;omega
  subst VY;rw[List.take_of_length_le (by omega)]at hS;have jr:=hS.out;have UP:=hS.r3;have vP:A8 eo f.blocks=.os eo f.blocks.length 7:=if_neg bI;rw[vP]at jr;have uk:=I (hS.blk bI).2;have hR:=hS.done bI (cs:=[aI f.name,.os eo f.blocks.length 7]) ⟨trivial,uk,trivial⟩;have Vd:=I UP;have Wk:(O.set 3 (.cells [aI f.name,.os eo f.blocks.length 7]))[3]?=some (.cells [aI f.name,.os eo f.blocks.length 7]):=List.getElem?_set_self Vd;refine aS ?_;simp -dsimp only[simprocAttr,↓aa,zp,jr,UP];refine ah ?_;refine aq ?_;simp -dsimp only[simprocAttr,↓aa,zp,H3,Tryz.results33,fI,pD,iJ,nv,kS,ma,Wk];exact hR
 exact bT.mp rfl rfl
theorem WQ{f:Func}(bt:f.fit)(hc:aN f=0):W0 f:=by
 have hw:=cq bt hc;have hg:=hw.gr;have mH:∀b∈f.blocks,b.params.length<=4096:=fun b hb=>by
  have:=(hw.blk b hb).few;omega
 exact {
  few:=hw.few
  params:=mH
  ins:=hw.ins
  OX:=fun b hb i hi=>(sX ((hw.blk b hb).Ai i hi)).len
  cases:=fun b hb=>(ud (hw.blk b hb).fin).cases
  to:=fun b hb=>hg.to b hb
  Ol:=fun b hb e he=>by
   have h1:=(ud (hw.blk b hb).fin).eZ e he;rw[h1.2];have hr:=hg.eZ b hb e he;have hx:f.blocks[e.block.toNat]?=some (f.blocks[e.block.toNat]'(by omega)):=List.getElem?_eq_getElem _;have:aF f e.block=f.blocks[e.block.toNat]'(by omega):=by simp[aF,hx]
   rw[this];exact mH _ (List.getElem_mem _) }
theorem nL(n:Nat)(l:List (List Int)):au n (l.map aT):=by
 rw[bZ];intro c hc;obtain⟨x,_,rfl⟩:=List.mem_map.1 hc;exact⟨av _ _,trivial⟩
end Go.Proofs.YtjdnhamngpafmaaGreat
namespace Go.Proofs.YtjdnhamngpafmaaGreat
open Go.Av
section
variable {f g:Func} {s:Int->Int} {β:Nat->Nat} {pre:Nat->List Ins}
end
end Go.Proofs.YtjdnhamngpafmaaGreat
namespace Go.Proofs.YtjdnhamngpafmaaGreat
open Go.Av
section
variable {u:cf} (bt:u.fit) (hc:dV u=0)
include bt hc
end
section
variable {u:cf} (bt:u.fit) (hc:dV u=0)
include bt hc
end
theorem Gn(f:Func):0<=cv f:=(mX (ga f) 0).1
section
variable {u:cf} (bt:u.fit) (hc:dV u=0)
include bt hc
end
end Go.Proofs.YtjdnhamngpafmaaGreat
namespace Go.Proofs.YtjdnhamngpafmaaGreat
open Go.Av
def JY(f:Func):ae:=if aN f=0 then(if 128<f.blocks.length+(vp f).1.news.length∨4096<(vp f).2 then .cK [.agg [aI 0,.aB 7 [] .sh],aI 2]else .cK [(bu f).enc,aI 0])else .cK [.agg [aI 0,.aB 7 [] .sh],aI (aN f)]
structure Yq where
 m:Nat
 S:Sp
 nx:Int
 eo:Nat
 O:List al
theorem Ey(n:Nat)(e:Edge):e.enc.upto n:=⟨trivial,⟨av _ _,trivial⟩,trivial⟩
structure Yr where
 k:Nat
 fe:List (List Edge)
 O:List al
theorem dL(n:Nat)(l:List aX):au n (l.map fO):=by
 rw[bZ];intro c hc;obtain⟨x,_,rfl⟩:=List.mem_map.1 hc;exact⟨trivial,⟨av _ _,trivial⟩,trivial,trivial⟩
theorem LS{es:List Edge}{n:Nat}{e:Edge}(h:es[n]?=some e)(N:Int):bk (kW es) (n*2) [aI N]=kW (es.set n ⟨N,e.args⟩):=by
 have hl:=I h;have h2:=LU (es:=es) (n:=n) hl ⟨N,e.args⟩;rw[<-h2];obtain⟨q1,q2⟩:=Pt h;have EK:=kJ es;apply List.ext_getElem?;intro i;rw[iV (by rw[EK];simp;omega),iV (by rw[EK];simp;omega)];simp only[List.length_cons,List.length_nil];by_cases h3:n*2<=i∧i<n*2+(0+1)
 ·rw[if_pos h3,if_pos (by omega)];obtain rfl:i=n*2:=by omega
  simp
 rw[if_neg h3];by_cases h4:n*2<=i∧i<n*2+(0+1+1)
 ·rw[if_pos h4];obtain rfl:i=n*2+1:=by omega
  rw[q2];simp
 rw[if_neg h4]
theorem Ak(n:Int)(k:Nat):ct n (k+1)=ct n k++[n+(k:Int)]:=by
 unfold ct;rw[List.range_succ,List.map_append];rfl
theorem ui(n:Int)(k:Nat):(ct n k).length=k:=by unfold ct;rw[List.length_map,List.length_range]
theorem He(O:List al)(C0:List ae):(O++[al.cells C0]++[al.spare ([]:List ae).length]).set O.length (.cells (C0.set 0 (.aB 1 [] (.tok (O++[al.cells C0]).length))))=O++[.cells (C0.set 0 (.aB 1 [] (.tok (O.length+1)))),.spare 0]:=by simp
theorem Bf(f:Func)(bt:f.fit):bh Tryz.prog 12 [f.enc] (JY f):=by
 have PN:=find_spec f bt;unfold EC at PN;unfold JY;by_cases hc:aN f=0
 ·rw[if_pos hc]at PN ⊢;have hv:=jj bt hc;have hg:=hv.fn.gr;have TN:=WQ bt hc;have hn:f.blocks.length<=128:=hg.few;have VC:=F8 f TN hg.ne;have dp:=CW f hv.vals bt.2.1 fun b hb=>⟨(bt.2.2 b hb).2.1,(bt.2.2 b hb).2.2.1⟩
  have UG:=Gn f;have Zm:cv f<=4096:=mY (ga f) 0 (by omega) fun v Jp=>(hv.vals v Jp).2;have yh:=w8 f;have Ti:∀(i:Nat) x,(cS f)[i]?=some x->Od f x:=fun i x h=>nZ (List.mem_of_getElem? h);have GJ:∀x,Od f x->qE f x<=4096:=fun x h=>by
   have hr:=h.qZ;have:=(hv.fn.blk _ (eW (f:=f) (k:=x.head) hr.1 hr.2)).few;unfold qE;omega
  obtain⟨RR,L'⟩:∃RR,RR=vp f:=⟨_,rfl⟩
  have qY:bu f=⟨f.name,List.zipWith eH f.blocks RR.1.fe++RR.1.news⟩:=by rw[L'];rfl
  rw[qY,<-L'];unfold vp at L';obtain⟨L,hL⟩:∃L,L=cS f:=⟨_,rfl⟩
  obtain⟨Yk,ER⟩:∃n,n=cv f:=⟨_,rfl⟩
  rw[<-hL]at PN L' yh Ti;rw[<-ER]at dp L' UG Zm;refine zf true 0 Tryz.func12 Tryz.ntmps12 ?_;dsimp only[Tmp,TypeId,slotsOf];refine ay (ah ?_);refine aA 1 0 (.ip none [aI f.name,aw f.blocks]) rfl (by simp[al.aC]) trivial rfl ?_ ?_;rotate_left;simp -dsimp only[simprocAttr,↓aa,zp];rotate_left
  ·exact bT.mp rfl rfl
  refine ay ?_;refine zi PN ?_;refine ah ?_;refine cb (ah ?_);apply aM rfl<;>intro h
  ·cases h
  refine cm ?_;refine aH (zD ⟨false,false⟩ hT 1 rfl rfl rfl (by simp) ?_);simp -dsimp only[simprocAttr,↓aa,zp];refine⟨WZ f,zL rfl (by simp) rfl rfl VC,fun r O' hR=>?_⟩;obtain⟨ids,eo,hr,br,Rv,ln,⟨Y8,Y9⟩,Ov,bI⟩:=hR;subst hr;simp -dsimp only[simprocAttr,↓aa,zp];refine ah ?_;have Oq:=Rg.start br ln ⟨Y8,Y9⟩ Ov bI;generalize O'++[al.cells [aI f.name,.os eo f.blocks.length 7]]=O0 at *;generalize O'.length=X0 at *;refine ay ?_;refine zi dp ?_;refine ah ?_;refine cb (ah ?_);refine ai (aO (ι:={X:Yq // X.m<=L.length∧Rg f ids X0 X.S X.eo X.O∧RR=(L.drop X.m).foldl (px f) (X.S,X.nx)∧X.S.news.length<=X.m∧(0<=X.nx∧X.nx<=4096+4096*(X.m:Int))}) (fun X=>⟨120,[(1,.ip none [aI f.name,aw f.blocks]),(2,.mp 1 0),(6,.mp X0 0),(7,aI X.1.nx),(27,.aB 3 (L.map fO) .sh),(28,aI L.length),(29,aI X.1.m)],X.1.O⟩) (fun X=>L.length-X.1.m) ⟨⟨0,Hz f,Yk,eo,O0⟩,Nat.zero_le _,Oq,L',Nat.le_refl _,⟨UG,by show Yk<=4096+4096*((0:Nat):Int);omega⟩⟩ ?_ ?_)
  ·refine zq rfl ?_ ?_;simp -dsimp only[simprocAttr,↓aa,zp,zc]
   all_goals rfl
  rintro⟨⟨m,S,nx,eo,O⟩,hm,hS,dW,ZI,V9⟩;simp only at hm hS dW ZI V9;refine ay (ah ?_);apply ib rfl<;>intro h
  ·refine cm ?_;have aZ:m<L.length:=by simpa using h
   obtain⟨x,hx⟩:∃x,L[m]?=some x:=⟨L[m],List.getElem?_eq_getElem aZ⟩
   have E0:=Ti m x hx;have ym:=E0.qZ;have WB:=GJ x E0;rw[bQ hx,List.foldl_cons]at dW;have V':=DH f x hg (Nat.le_trans (E0.few hg) hn);have iO:=fun p=>lC (f:=f) (x:=x) (p:=p);have Xo:=I hS.out;have Rm:=I hS.bl.2;have Rl:=I hS.r1;obtain⟨jh,VX⟩:∃j:Nat,x.head=(j:Int):=⟨x.head.toNat,by omega⟩
   obtain⟨B,hB⟩:∃B,f.blocks[jh]?=some B:=⟨f.blocks[jh]'(by omega),List.getElem?_eq_getElem _⟩
   have Xc:aF f x.head=B:=by rw[VX];simp[aF,hB]
   have dz:px f (S,nx) x=if eJ f x=true then(S,nx)else(⟨(fa f x).foldl (DQ ((f.blocks.length+S.news.length:Nat):Int)) S.fe,S.news++[qD x.head (ct nx B.params.length)]⟩,nx+B.params.length):=by
    unfold px qE;rw[Xc]
   have RG:eJ f x=match fa f x with
     | [p]=>decide ((aF f p.1).term.to.length=1)
     | _=>false:=rfl
   have hBp:B.params.length<=4096:=by
    unfold qE at WB;rw[Xc]at WB;exact WB
   unfold fO at V';obtain⟨M,hM⟩:∃M,M=fa f x:=⟨_,rfl⟩
   rw[<-hM]at V' dz RG iO;refine aH (ai ?_);refine aS ?_;simp -dsimp only[simprocAttr,↓aa,zp,hx,fO]
   repeat(refine⟨by omega,?_⟩)
   refine ah ?_;refine aJ 9 ([aI x.head,aT x.blocks,aI x.parent]) [(1,.ip none [aI f.name,aw f.blocks]),(2,.mp 1 0),(6,.mp X0 0),(7,aI nx),(27,.aB 3 (L.map fO) .sh),(28,aI L.length),(29,aI m),(9,.ip none [aI x.head,aT x.blocks,aI x.parent])] (by simp[bq,aY,Go.Av.look]) (by rfl) (by omega) (by simp[bq,aY,Go.Av.look]) ?_ ?_ ?_
   ·exact hS.up
   ·simp[ae.upto,au,av,Edge.ag,Ins.ag,Block.ag,dL,Xo,Rm,Rl]
   refine ay ?_;refine zi V' ?_;refine ah ?_;have Vl:∀p,p∈M->∃(k j:Nat) (b:Block) (e:Edge),f.blocks[k]?=some b∧b.term.to[j]?=some e∧p=((k:Int),(j:Int)):=fun p hp=>by
    obtain⟨k,j,b,e,q1,q2,q3,_⟩:=(iO p).1 hp;exact⟨k,j,b,e,q1,q2,q3⟩
   have YR:M.length<=128*257:=by
    have:=yu (x:=x) (k:=0) (l:=f.blocks) hg.to;rw[hM];unfold fa;omega
   by_cases hs:eJ f x=true
   ·rw[if_pos hs]at dz;rw[dz]at dW;obtain⟨p,hp⟩:∃p,M=[p]:=by
     rw[RG]at hs
     match M,hs with
     | [p],_=>exact⟨p,rfl⟩
    rw[hp]at RG;rw[RG]at hs;obtain⟨k,j,b,e,q1,q2,rfl⟩:=Vl p (by rw[hp];exact List.mem_cons_self);have Ou:aF f (k:Int)=b:=by simp[aF,q1]
    simp only[Ou]at hs;have g1:decide ((b.term.to.length:Int)=1)=true:=decide_eq_true (by have:=of_decide_eq_true hs;omega);rw[hp];refine cJ ?_;simp -dsimp only[simprocAttr,↓aa,zp,eM,q1,g1,Int.toNat_natCast]
    repeat(refine⟨by omega,?_⟩)
    refine⟨ob (by kernel_rfl),?_⟩;refine ah ?_;refine cN rfl ?_;refine aG ?_;simp -dsimp only[bD,ne_eq,Nat.reduceEqDiff,reduceCtorEq];refine cF ?_
    repeat(refine⟨by omega,?_⟩)
    refine fw ?_;refine⟨⟨⟨m+1,S,nx,eo,O⟩,aZ,hS,dW,by simp only;omega,by simp only;omega⟩,by simp;omega,?_⟩;refine zq rfl ?_ ?_;simp -dsimp only[simprocAttr,↓aa,zp,zc]
    ·exact Sub.int (by simp)
    rfl
   rw[if_neg hs]at dz;rw[dz]at dW;refine jP (⟨120,[(1,.ip none [aI f.name,aw f.blocks]),(2,.mp 1 0),(6,.mp X0 0),(7,aI nx),(27,.aB 3 (L.map fO) .sh),(28,aI L.length),(29,aI m),(9,.ip none [aI x.head,aT x.blocks,aI x.parent]),(10,.aB 2 (M.map eM) .sh)],O⟩) ?_ ?_
   ·by_cases h1:M.length=1
    ·obtain⟨p,hp⟩:=List.length_eq_one_iff.1 h1;obtain⟨k,j,b,e,q1,q2,rfl⟩:=Vl p (by rw[hp];exact List.mem_cons_self);have Ou:aF f (k:Int)=b:=by simp[aF,q1]
     rw[hp]at RG;rw[RG]at hs;simp only[Ou]at hs;have g1:decide ((b.term.to.length:Int)=1)=false:=decide_eq_false (fun q=>hs (decide_eq_true (by omega)));rw[hp];refine aS ?_;simp -dsimp only[simprocAttr,↓aa,zp,eM,q1,g1,Int.toNat_natCast]
     repeat(refine⟨by omega,?_⟩)
     refine⟨ob (by kernel_rfl),?_⟩;refine ah ?_;refine cd rfl ?_;refine a6 ?_;show bd _ _;refine zq rfl ?_ ?_;simp -dsimp only[simprocAttr,↓aa,zp,zc]
     all_goals rfl
    have g1:decide ((M.length:Int)=1)=false:=decide_eq_false (by omega);refine aS ?_;simp -dsimp only[simprocAttr,↓aa,zp,g1,List.length_map];refine⟨ob (by kernel_rfl),?_⟩;refine ah ?_;refine cd rfl ?_;refine a6 ?_;show bd _ _;refine zq rfl ?_ ?_;simp -dsimp only[simprocAttr,↓aa,zp,zc]
    all_goals rfl
   refine ay (ah ?_);refine cJ ?_;simp -dsimp only[simprocAttr,↓aa,zp,VX,hB,Int.toNat_natCast]
   repeat(refine⟨by omega,?_⟩)
   refine ah ?_;refine gS O.length 0 (by rw[sU];rfl) rfl ?_;rw[He];refine ai (aO (ι:={z:Nat // z<=B.params.length}) (fun z=>⟨120,[(1,.ip none [aI f.name,aw f.blocks]),(2,.mp 1 0),(6,.mp X0 0),(7,aI (nx+(z.1:Int))),(27,.aB 3 (L.map fO) .sh),(28,aI L.length),(29,aI m),(9,.ip none [aI (jh:Int),aT x.blocks,aI x.parent]),(10,.aB 2 (M.map eM) .sh),(11,.mp O.length 0),(60,aI B.params.length),(61,aI z.1)],O++[.cells [.aB 1 ((ct nx z.1).map aI) (.tok (O.length+1)),.aB 4 [] .ex,aI 0,aI 0,aI 0,.aB 1 [] .ex,.aB 2 [] .ex],.spare z.1]⟩) (fun z=>B.params.length-z.1) ⟨0,Nat.zero_le _⟩ ?_ ?_)
   ·refine zq rfl ?_ ?_;simp -dsimp only[simprocAttr,↓aa,zp,zc]
    all_goals rfl
   rintro⟨z,hz⟩;have gp:=ui nx z;refine ay (ah ?_);apply ib rfl<;>intro h
   ·refine cm ?_;have ur:z<B.params.length:=by simpa using h
    refine aH (ai ?_);refine aS ?_;simp -dsimp only[simprocAttr,↓aa,zp,gp,List.length_map]
    repeat(refine⟨by omega,?_⟩)
    refine ah ?_;refine cF ?_
    repeat(refine⟨by omega,?_⟩)
    refine ah ?_;refine cF ?_
    repeat(refine⟨by omega,?_⟩)
    refine fw ?_;refine⟨⟨z+1,ur⟩,by simp;omega,?_⟩;have MA:(ct nx (z+1)).map aI=(ct nx z).map aI++[aI (nx+(z:Int))]:=by rw[Ak,List.map_append];rfl
    simp only[MA];refine zq rfl ?_ ?_;simp -dsimp only[simprocAttr,↓aa,zp,zc]
    all_goals first|rfl|exact⟨Sub.int (by omega),Sub.int (by omega)⟩
   refine aG ?_;simp -dsimp only[bD,ne_eq,Nat.reduceEqDiff,reduceCtorEq];have ta:B.params.length=z:=by
    have:=of_decide_eq_false h;omega
   obtain⟨P,hP⟩:∃P,P=ct nx z:=⟨_,rfl⟩
   have Xl:P.length=z:=by rw[hP,ui]
   rw[ta,<-hP]at dW;rw[<-hP];refine rT (cs:=[.aB 1 (P.map aI) (.tok (O.length+1)),.aB 4 [] .ex,aI 0,aI 0,aI 0,.aB 1 [] .ex,.aB 2 [] .ex]) O.length [aT P,.aB 4 [] .sh,aI 0,aI 0,aI 0,.aB 1 [] .sh,.aB 2 [] .sh] (by rw[sU];rfl) rfl (fun d hd=>?_) (fun j c d hc hd=>?_) ?_
   ·simp only[List.mem_cons,List.not_mem_nil,or_false]at hd;rcases hd with rfl|rfl|rfl|rfl|rfl|rfl|rfl<;>trivial
   ·match j,hc,hd with
    | 0,hc,hd | 1,hc,hd | 5,hc,hd | 6,hc,hd =>
     simp only[List.getElem?_cons_succ,List.getElem?_cons_zero,Option.some.injEq]at hc hd;subst hc;subst hd;exact fun _ _ _ k=>k.RO
    | 2,hc,hd | 3,hc,hd | 4,hc,hd=>exact Sub.of_eq (Option.some.inj (hc.symm.trans hd))
    | j+7,hc,hd=>simp at hc
   rw[Bu];refine En 1 ([.cells [aT P,.aB 4 [] .sh,aI 0,aI 0,aI 0,.aB 1 [] .sh,.aB 2 [] .sh]]) [(1,.ip none [aI f.name,aw f.blocks]),(2,.mp 1 0),(6,.mp X0 0),(7,aI (nx+(z:Int))),(27,.aB 3 (L.map fO) .sh),(28,aI L.length),(29,aI m),(9,.ip none [aI (jh:Int),aT x.blocks,aI x.parent]),(10,.aB 2 (M.map eM) .sh),(11,.mp O.length 0)] rfl (by simp) (by omega) (by simp[bq,aY,Go.Av.look]) ?_ ?_ ?_ ?_
   ·exact fun o ho=>al.cE (by omega) (hS.up o ho)
   ·intro o ho;rw[List.mem_singleton]at ho;subst ho;exact⟨⟨av _ _,trivial⟩,⟨trivial,trivial⟩,trivial,trivial,trivial,⟨trivial,trivial⟩,⟨trivial,trivial⟩,trivial⟩
   ·simp[ae.upto,au,av,nM,Edge.ag,Ins.ag,Block.ag,dL];omega
   refine ay ?_;refine .inl ⟨_,(tS P (by omega)),by simp only[au,ae.upto,zt,zu,av],an ?_⟩;simp -dsimp only[simprocAttr,↓aa,zp];refine⟨ob (by kernel_rfl),?_⟩;refine ah ?_;refine aJ 11 ([aT P,.aB 4 [] .sh,aI 1,aI 0,aI 0,.aB 1 [] .sh,.aB 2 [(⟨(jh:Int),P⟩:Edge).enc] .sh]) [(1,.ip none [aI f.name,aw f.blocks]),(2,.mp 1 0),(6,.mp X0 0),(7,aI (nx+(z:Int))),(27,.aB 3 (L.map fO) .sh),(28,aI L.length),(29,aI m),(10,.aB 2 (M.map eM) .sh),(11,.ip none [aT P,.aB 4 [] .sh,aI 1,aI 0,aI 0,.aB 1 [] .sh,.aB 2 [(⟨(jh:Int),P⟩:Edge).enc] .sh])] (by simp[bq,aY,Go.Av.look]) (by rfl) (by omega) (by simp[bq,aY,Go.Av.look]) ?_ ?_ ?_
   ·exact hS.up
   ·simp[ae.upto,au,av,nM,Edge.ag,Ins.ag,Block.ag,dL,Ey,Xo,Rm,Rl]
   refine cb (ah ?_);obtain⟨N,hN⟩:∃N,N=((f.blocks.length+S.news.length:Nat):Int):=⟨_,rfl⟩
   rw[<-hN]at dW;have PX:∀(k:Nat) b,f.blocks[k]?=some b->∃l,S.fe[k]?=some l∧l.length=b.term.to.length:=fun k b hb=>by
    have yg:k<S.fe.length:=by rw[hS.w.len];exact I hb
    exact⟨_,List.getElem?_eq_getElem yg,hS.w.each k b _ hb (List.getElem?_eq_getElem yg)⟩
   refine ai (aO (ι:={X:Yr // X.k<=M.length∧Rg f ids X0 ⟨X.fe,S.news⟩ eo X.O∧(M.drop X.k).foldl (DQ N) X.fe=M.foldl (DQ N) S.fe∧∀(k:Nat) b,f.blocks[k]?=some b->∃l,X.fe[k]?=some l∧l.length=b.term.to.length}) (fun X=>⟨120,[(1,.ip none [aI f.name,aw f.blocks]),(2,.mp 1 0),(6,.mp X0 0),(7,aI (nx+(z:Int))),(27,.aB 3 (L.map fO) .sh),(28,aI L.length),(29,aI m),(11,.ip none [aT P,.aB 4 [] .sh,aI 1,aI 0,aI 0,.aB 1 [] .sh,.aB 2 [(⟨(jh:Int),P⟩:Edge).enc] .sh]),(81,.aB 2 (M.map eM) .sh),(82,aI M.length),(83,aI X.1.k)],X.1.O⟩) (fun X=>M.length-X.1.k) ⟨⟨0,S.fe,O⟩,Nat.zero_le _,hS,rfl,PX⟩ ?_ ?_)
   ·refine zq rfl ?_ ?_;simp -dsimp only[simprocAttr,↓aa,zp,zc]
    all_goals rfl
   rintro⟨⟨k4,fe,O4⟩,Zw,An,Gz,V0⟩;simp only at Zw An Gz V0;refine ay (ah ?_);apply ib rfl<;>intro h
   ·refine cm ?_;have Tf:k4<M.length:=by simpa using h
    obtain⟨p,hp⟩:∃p,M[k4]?=some p:=⟨M[k4],List.getElem?_eq_getElem Tf⟩
    obtain⟨k,j,b,e,q1,q2,rfl⟩:=Vl p (List.mem_of_getElem? hp);obtain⟨l,hl,yh⟩:=V0 k b q1;have yg:=I q1;have OA:=I q2;have Lj:b.term.to≠[]:=fun q=>by rw[q]at OA;simp at OA
    obtain⟨id,l5⟩:∃id,ids[k]?=some id:=⟨ids[k]'(by rw[An.li];exact yg),List.getElem?_eq_getElem _⟩
    obtain⟨e',vM⟩:∃e',l[j]?=some e':=⟨l[j]'(by omega),List.getElem?_eq_getElem _⟩
    rw[bQ hp,List.foldl_cons]at Gz;have ZR:DQ N fe ((k:Int),(j:Int))=fe.set k (l.set j ⟨N,e'.args⟩):=by
     unfold DQ;simp only[Int.toNat_natCast,hl,Option.getD_some,vM]
    rw[ZR]at Gz;obtain⟨o1,o2,o3,o4⟩:=An.own k id b l l5 q1 hl Lj;have PT:=I o4;have EK:=kJ l;have Y2:=I An.out;have YD:=I An.bl.2;have y6:=I An.r1;have jr:=An.out;have uk:=An.bl.2;have dd:=LD (T:=ao (S.news.map Block.enc)) l5 q1;have Ld:rH id b.term.to=.os id b.term.to.length 2:=if_neg Lj;rw[Ld]at dd;have gA:(fh ids f.blocks++ao (S.news.map Block.enc)).length=(f.blocks.length+S.news.length)*7:=by
     rw[List.length_append,mQ An.li,lR];omega
    have I6:=LS vM N;refine aH (ai ?_);refine aS ?_;simp -dsimp only[simprocAttr,↓aa,zp,hp,eM]
    repeat(refine⟨by omega,?_⟩)
    refine ah ?_;refine aJ 13 ([aI (k:Int),aI (j:Int)]) [(1,.ip none [aI f.name,aw f.blocks]),(2,.mp 1 0),(6,.mp X0 0),(7,aI (nx+(z:Int))),(27,.aB 3 (L.map fO) .sh),(28,aI L.length),(29,aI m),(11,.ip none [aT P,.aB 4 [] .sh,aI 1,aI 0,aI 0,.aB 1 [] .sh,.aB 2 [(⟨(jh:Int),P⟩:Edge).enc] .sh]),(81,.aB 2 (M.map eM) .sh),(82,aI M.length),(83,aI k4),(13,.ip none [aI (k:Int),aI (j:Int)])] (by simp[bq,aY,Go.Av.look]) (by rfl) (by omega) (by simp[bq,aY,Go.Av.look]) ?_ ?_ ?_
    ·exact An.up
    ·simp[ae.upto,au,av,nM,Edge.ag,Ins.ag,Block.ag,dL,Ey,Y2,YD,y6]
    refine j4 ?_;simp -dsimp only[simprocAttr,↓aa,zp,jr,uk,dd,gA,o4,EK,Int.toNat_natCast]
    repeat(refine⟨by omega,?_⟩)
    refine⟨bN [eo,X0,id] O4.length [.pure,.rd 1,.pure,.pure,.pure,.pure,.pure,.rd 0,.pure,.pure,.pure,.rd 1,.pure,.pure,.pure,.wr 3 [2]] (by have:=An.xb;simp;omega) (by simp;omega) rfl rfl (by kernel_rfl),aV ?_⟩;simp only[<-hN,I6];have YZ:=An.Yu l5 q1 hl Lj (m:=l.set j ⟨N,e'.args⟩) (List.length_set);generalize O4.set id (.cells (kW (l.set j ⟨N,e'.args⟩)))=O5 at *;refine cF ?_
    repeat(refine⟨by omega,?_⟩)
    refine fw ?_;refine⟨⟨⟨k4+1,fe.set k (l.set j ⟨N,e'.args⟩),O5⟩,Tf,YZ,Gz,fun i c hc=>?_⟩,by simp;omega,?_⟩
    ·simp only;by_cases XJ:k=i
     ·subst XJ;rw[q1]at hc;obtain rfl:=Option.some.inj hc;exact⟨_,List.getElem?_set_self (I hl),by rw[List.length_set];exact yh⟩
     rw[List.getElem?_set_ne XJ];exact V0 i c hc
    refine zq rfl ?_ ?_;simp -dsimp only[simprocAttr,↓aa,zp,zc]
    ·exact Sub.int (by simp)
    rfl
   refine aG ?_;simp -dsimp only[bD,ne_eq,Nat.reduceEqDiff,reduceCtorEq];have Zx:k4=M.length:=by
    have:=of_decide_eq_false h;omega
   subst Zx;rw[List.drop_length,List.foldl_nil]at Gz;rw[<-Gz]at dW;have jr:=An.out;have uk:=An.bl.2;have Ll:=An.xb;have P7:∀Y,(O4.set eo .gone++Y)[X0]?=some (.cells [aI f.name,.os eo (f.blocks.length+S.news.length) 7]):=fun Y=>cj (bm jr Ll);have gA:(fh ids f.blocks++ao (S.news.map Block.enc)).length=(f.blocks.length+S.news.length)*7:=by
    rw[List.length_append,mQ An.li,lR];omega
   have EG:(fh ids f.blocks++ao (S.news.map Block.enc)).take ((f.blocks.length+S.news.length)*7)=fh ids f.blocks++ao (S.news.map Block.enc):=List.take_of_length_le (by omega);refine j4 ?_;simp -dsimp only[simprocAttr,↓aa,zp,jr,P7,uk,gA,EG,dG,dC]
   repeat(refine⟨by omega,?_⟩)
   refine⟨trivial,?_⟩;refine ah ?_;rw[VX]at dW;have Y0:Rg f ids X0 ⟨fe,S.news++[qD (jh:Int) P]⟩ O4.length ((O4.set eo .gone++[al.cells (fh ids f.blocks++(ao (S.news.map Block.enc)++[aT P,.aB 4 [] .sh,aI 1,aI 0,aI 0,.aB 1 [] .sh,.aB 2 [(⟨(jh:Int),P⟩:Edge).enc] .sh]))]).set X0 (.cells [aI f.name,.os O4.length (f.blocks.length+S.news.length+1) 7])):=by
    have:=An.block (qD (jh:Int) P) rfl rfl;rw[List.append_assoc]at this;exact this
   show cu Tryz.prog _ _ _ ⟨_,_,(O4.set eo .gone++[al.cells (fh ids f.blocks++(ao (S.news.map Block.enc)++[aT P,.aB 4 [] .sh,aI 1,aI 0,aI 0,.aB 1 [] .sh,.aB 2 [(⟨(jh:Int),P⟩:Edge).enc] .sh]))]).set X0 (.cells [aI f.name,.os O4.length (f.blocks.length+S.news.length+1) 7])⟩;generalize (O4.set eo .gone++[al.cells (fh ids f.blocks++(ao (S.news.map Block.enc)++[aT P,.aB 4 [] .sh,aI 1,aI 0,aI 0,.aB 1 [] .sh,.aB 2 [(⟨(jh:Int),P⟩:Edge).enc] .sh]))]).set X0 (.cells [aI f.name,.os O4.length (f.blocks.length+S.news.length+1) 7])=O7 at *;refine cF ?_
   repeat(refine⟨by omega,?_⟩)
   refine fw ?_;refine⟨⟨⟨m+1,_,nx+(z:Int),O4.length,O7⟩,aZ,Y0,dW,by simp only[List.length_append,List.length_singleton];omega,by simp only;omega⟩,by simp;omega,?_⟩;refine zq rfl ?_ ?_;simp -dsimp only[simprocAttr,↓aa,zp,zc]
   ·exact Sub.int (by simp)
   rfl
  refine aG ?_;simp -dsimp only[bD,ne_eq,Nat.reduceEqDiff,reduceCtorEq];have VY:L.length<=m:=by
   have:=of_decide_eq_false h;omega
  rw[List.drop_of_length_le VY,List.foldl_nil]at dW;subst dW;have jr:=hS.out;have r8:=hS.r1;have Rl:=I r8;have Lk:=hS.x5;by_cases oJ:128<f.blocks.length+S.news.length
  ·have g1:decide ((128:Int)<((f.blocks.length+S.news.length:Nat):Int))=true:=decide_eq_true (by omega);rw[if_pos (.inl oJ)];refine cJ ?_;simp -dsimp only[simprocAttr,↓aa,zp,jr,g1];refine ah ?_;refine cN rfl ?_;have Qe:(O.set 1 (.cells [aI 0,.aB 7 [] .ex]))[1]?=some (.cells [aI 0,.aB 7 [] .ex]):=List.getElem?_set_self Rl;refine aS ?_;simp -dsimp only[simprocAttr,↓aa,zp,r8];refine ah ?_;refine aq ?_;simp -dsimp only[simprocAttr,↓aa,zp,zr,Tryz.results12,Qe];simp[au,ae.upto]
  have g1:decide ((128:Int)<((f.blocks.length+S.news.length:Nat):Int))=false:=decide_eq_false (by omega);by_cases OH:4096<nx
  ·have g2:decide ((4096:Int)<nx)=true:=decide_eq_true OH;rw[if_pos (.inr OH)];refine cJ ?_;simp -dsimp only[simprocAttr,↓aa,zp,jr,g1,g2];refine ah ?_;refine cN rfl ?_;have Qe:(O.set 1 (.cells [aI 0,.aB 7 [] .ex]))[1]?=some (.cells [aI 0,.aB 7 [] .ex]):=List.getElem?_set_self Rl;refine aS ?_;simp -dsimp only[simprocAttr,↓aa,zp,r8];refine ah ?_;refine aq ?_;simp -dsimp only[simprocAttr,↓aa,zp,zr,Tryz.results12,Qe];simp[au,ae.upto]
  have g2:decide ((4096:Int)<nx)=false:=decide_eq_false OH;rw[if_neg (fun q=>q.elim oJ OH)];have ta:(List.zipWith eH f.blocks S.fe).length=f.blocks.length:=by
   rw[List.length_zipWith,hS.w.len];omega
  have UB:=zH (ids:=ids) hS.w.len hS.w.each;have EK:∀(j id:Nat) (c:Block),ids[j]?=some id->(List.zipWith eH f.blocks S.fe)[j]?=some c->c.term.to≠[]->∃b l,f.blocks[j]?=some b∧S.fe[j]?=some l∧c=eH b l∧b.term.to≠[]:=fun j id c h1 h2 h3=>by
   rw[List.getElem?_zipWith]at h2;cases hb:f.blocks[j]? with
   | none=>rw[hb]at h2;cases h2
   | some b =>
    cases hl:S.fe[j]? with
    | none=>rw[hb,hl]at h2;cases h2
    | some l =>
     rw[hb,hl]at h2;simp only[Option.some.injEq]at h2;refine⟨b,l,rfl,rfl,h2.symm,fun q=>h3 ?_⟩;have:=hS.w.each j b l hb hl;rw[q]at this;rw[<-h2];exact List.length_eq_zero_iff.1 this
  refine cJ ?_;simp -dsimp only[simprocAttr,↓aa,zp,jr,g1,g2];refine ah ?_;refine cd rfl ?_;refine cm ?_;refine aS ?_;simp -dsimp only[simprocAttr,↓aa,zp,jr,r8];refine ah ?_;refine zC (ids:=ids) (bs:=List.zipWith eH f.blocks S.fe) (T:=S.news) (X:=1) (oid:=eo) (name:=f.name) (by rw[ta,hS.li]) (by have:=hS.bl.1;omega) (by rw[ta];exact List.getElem?_set_self Rl) (by rw[UB,List.getElem?_set_ne (by have:=hS.bl.1;omega)];exact hS.bl.2) (fun j id c h1 h2 h3=>?_) (fun i j id c d h1 h2 h3 h4 h5 h6=>?_) fun O1 dD Sn=>?_
  ·obtain⟨b,l,q1,q2,q3,q4⟩:=EK j id c h1 h2 h3;obtain⟨o1,o2,o3,o4⟩:=hS.own j id b l h1 q1 q2 q4;exact⟨o2,by omega,by rw[List.getElem?_set_ne (by omega),q3];exact o4⟩
  ·obtain⟨b,l,q1,q2,q3,q4⟩:=EK i id c h1 h3 h5;obtain⟨b',l',r1,r2,r3,r4⟩:=EK j id d h2 h4 h6;exact hS.inj i j id b b' h1 h2 q1 r1 q4 r4
  generalize List.zipWith eH f.blocks S.fe++S.news=GB at Sn ⊢;refine aq ?_;simp -dsimp only[simprocAttr,↓aa,zp,zr,Tryz.results12,Sn];refine⟨?_,rfl⟩;simp[au,ae.upto,av,Block.ag]
 rw[if_neg hc]at PN ⊢;obtain⟨e,he⟩:∃e,e=aN f:=⟨_,rfl⟩
 rw[<-he]at hc PN ⊢;have m5:decide (e=0)=false:=decide_eq_false hc;refine zf true 0 Tryz.func12 Tryz.ntmps12 ?_;dsimp only[Tmp,TypeId,slotsOf];refine ay (ah ?_);refine aA 1 0 (.ip none [aI f.name,aw f.blocks]) rfl (by simp[al.aC]) trivial rfl ?_ ?_;rotate_left;simp -dsimp only[simprocAttr,↓aa,zp]
 ·refine ay ?_;refine zi PN ?_;refine ah ?_;refine cJ ?_;simp -dsimp only[simprocAttr,↓aa,zp,m5];refine ah ?_;refine cN rfl ?_;refine ay (ah ?_);refine aq ?_;simp -dsimp only[simprocAttr,↓aa,zp,zr,Tryz.results12];simp[au,ae.upto]
 exact bT.mp rfl rfl
def EB(f:Func):Int:=if 128<f.blocks.length+(vp f).1.news.length∨4096<(vp f).2 then 2 else 0
theorem z'{f:Func}(h:EB f=0):f.blocks.length+(bn f).length<=128∧cv f+fi f (bn f)<=4096:=by
 unfold EB at h;rw[lD,lA,(v8 f).next]at h;split at h
 ·simp at h
 omega
theorem Bd{f:Func}(hc:aN f=0):JY f=F6 bu EB f:=by
 unfold JY F6 EB;rw[if_pos hc];by_cases h:128<f.blocks.length+(vp f).1.news.length∨4096<(vp f).2
 ·rw[if_pos h,if_pos h,if_neg (by decide)]
 rw[if_neg h,if_neg h,if_pos rfl]
theorem ue:∀{l:List Func},jD EB l≠0->jD EB l=2
 | [],h=>absurd rfl h
 | f::r,h=>by
  unfold jD at h ⊢;by_cases he:EB f=0
  ·rw[dZ he]at h ⊢;exact ue h
  rw[me he];unfold EB at he ⊢;split at he
  ·rw[if_pos (by assumption)]
  exact absurd rfl he
structure RY(f g:Func):Prop where
 fit:g.fit
 Ys:aN g=0
 gr:gb g
 pre:JY g=.cK [g.enc,aI 0]
 len:(cS f).length=(cS g).length
 one:∀y∈cS g,(dj g)[y.head.toNat]?=some (HX g y.head)∧(0<=y.head∧y.head<g.blocks.length)∧((HX g y.head).filter fun q=>!mZ y.blocks q).length=1∧(HX g y.head).length<=33000∧∀p∈HX g y.head,mZ y.blocks p=false->0<=p∧p<g.blocks.length∧(fY g p).length=1
theorem Sf{f:Func}(bt:f.fit)(hc:aN f=0)(he:EB f=0):RY f (bu f):=by
 obtain⟨m1,m2⟩:=z' he;have hv:=jj bt hc;have f1:=Fu bt m1 m2;have f2:=xj bt hc m1 m2;have Jp:=jj f1 f2;have hg:=Jp.fn.gr;have P3:=A2 hv hg;refine⟨f1,f2,hg,?_,?_,fun y hy=>?_⟩
 ·have h0:EB (bu f)=0:=by
   have h4:cv (bu f)<=4096:=mY (ga (bu f)) 0 (by omega) fun v hv=>(Jp.vals v hv).2;have h5:=hg.few;unfold EB;rw[lD,lA,(v8 (bu f)).next,P3,if_neg];simp only[fi,List.length_nil];omega
  rw[Bd f2];unfold F6;rw[if_pos h0,Hh hv hg]
 ·have:=congrArg List.length (Bc hv hg);rw[List.length_map,List.length_map]at this;exact this.symm
 obtain⟨h1,h2⟩:=Gi hv hg hy;have WC:=(nZ hy).qZ;have XE:=FD y.head (bu f).blocks 0 hg.to;have hn:=hg.few;refine⟨J0 WC.1 WC.2 fun b hb e he=>by have:=hg.eZ b hb e he;omega,WC,h1,?_,fun p hp hq=>?_⟩
 ·show(zg y.head 0 (bu f).blocks).length<=33000;omega
 obtain⟨j,rfl,hj⟩:=FE _ _ hp;exact⟨by omega,by omega,h2 _ hp hq⟩
theorem rB(u:cf)(bt:u.fit):bh Tryz.prog 3 [u.enc] (.v (.bool true)):=by
 have RJ:=Ei;have sL:=tR u bt;by_cases hc:dV u=0
 ·rw[hc]at sL;have hW:=zR bt hc;have TM:=Bw u hW.few fun f hf=>⟨(hW.fns f hf).few,(hW.fns f hf).ins⟩
  by_cases hs:FG u=true
  ·rw[hs]at TM;have qY:∀f∈u.fns,bh Tryz.prog 12 [f.enc] (F6 bu EB f):=fun f hf=>by
    rw[<-Bd ((jk hc).2.2.2.1 f hf)];exact Bf f (bt.2.2 f hf)
   have K':=Gc u hW.few 12 bu EB qY;by_cases he:jD EB u.fns=0
   ·rw[if_pos he]at K';have hm:∀f∈u.fns,f.blocks.length+(bn f).length<=128∧cv f+fi f (bn f)<=4096:=fun f hf=>z' (mW he f hf);have EL:=Be bt hc hm;have jK:=B9 u (nm u) bt EL fun h1 _=>.inr (JZ bt hc hm h1);have C7:=hW.few;have hG:∀(k:Nat) f,u.fns[k]?=some f->f.fit∧aN f=0∧∃g,(u.fns.map bu)[k]?=some g∧RY f g:=fun k f hk=>by
     have hf:=List.mem_of_getElem? hk;have Gu:=(jk hc).2.2.2.1 f hf;exact⟨bt.2.2 f hf,Gu,bu f,by rw[List.getElem?_map,hk];rfl,Sf (bt.2.2 f hf) Gu (mW he f hf)⟩
    have YK:(u.fns.map bu).length=u.fns.length:=List.length_map ..;unfold nm at jK;obtain⟨G,Xd⟩:∃G,G=u.fns.map bu:=⟨_,rfl⟩
    rw[<-Xd]at K' jK hG YK;clear Xd qY EL;refine zf true 0 Tryz.func3 Tryz.ntmps3 ?_;dsimp only[Tmp,TypeId,slotsOf];refine ay (ah ?_);refine aA 1 0 (.ip none [a7 u.fns,aI u.main]) rfl (by simp[al.aC]) trivial rfl ?_ ?_;rotate_left;simp -dsimp only[simprocAttr,↓aa,zp];rotate_left
    ·exact bT.mp rfl rfl
    refine cb ?_;refine zi RJ ?_;refine ah ?_;apply aM rfl<;>intro h
    ·cases h
    refine cm ?_;refine cb ?_;refine zi sL ?_;refine zi TM ?_;refine ah ?_;apply aM rfl<;>intro h
    ·cases h
    refine cm ?_;refine ay ?_;refine zi K' ?_;refine ah ?_;refine aA 3 1 (.ip none [a7 G,aI u.main]) rfl (by simp[al.aC]) trivial rfl ?_ ?_;rotate_left;simp -dsimp only[simprocAttr,↓aa,zp];rotate_left
    ·exact bT.mp rfl rfl
    refine cb (ah ?_);apply aM rfl<;>intro h
    ·cases h
    refine cm ?_;refine cb (ah ?_);refine ai (aO (ι:={k:Nat // k<=G.length}) (fun k=>⟨135,[(1,.ip none [a7 u.fns,aI u.main]),(3,.ip none [a7 G,aI u.main]),(40,a7 G),(41,aI G.length),(42,aI k.1)],[.gone,.gone]⟩) (fun k=>G.length-k.1) ⟨0,by omega⟩ ?_ ?_)
    ·refine zq rfl ?_ ?_;simp -dsimp only[simprocAttr,↓aa,zp,zc]
     all_goals rfl
    rintro⟨k,hk⟩;refine ay (ah ?_);apply ib rfl<;>intro h
    ·refine cm ?_;have aZ:k<G.length:=by simpa using h
     obtain⟨f,hf⟩:∃f,u.fns[k]?=some f:=⟨u.fns[k],by simp⟩
     obtain⟨dR,GA,g,hg,hE⟩:=hG k f hf;have S3:=find_spec g hE.fit;have HP:=find_spec f dR;have lr:=pA g hE.fit;have Wd:=Bf g hE.fit;unfold EC at S3 HP;unfold uR at lr;rw[if_pos hE.Ys]at S3 lr;rw[if_pos GA]at HP;rw[hE.pre]at Wd;have RF:=we g hE.fit;have Wh:=rK g;have hN:=hE.gr.few;have AJ:=hE.one;have AH:=hE.len;have yh:=w8 g;unfold Func.enc at S3 lr RF Wd;obtain⟨L,hL⟩:∃L,L=cS g:=⟨_,rfl⟩
     obtain⟨M,hM⟩:∃M,M=cS f:=⟨_,rfl⟩
     rw[<-hL]at S3 AJ AH yh;rw[<-hM]at HP AH;clear hL hM;refine aH (ai ?_);refine aS ?_;simp -dsimp only[simprocAttr,↓aa,zp,hg];refine ah ?_;refine aA 6 2 (.ip none [aI g.name,aw g.blocks]) rfl (by simp[al.aC]) trivial rfl ?_ ?_;rotate_left;simp -dsimp only[simprocAttr,↓aa,zp];rotate_left
     ·exact bT.mp rfl rfl
     refine bF 2 [(1,.ip none [a7 u.fns,aI u.main]),(3,.ip none [a7 G,aI u.main]),(40,a7 G),(41,aI G.length),(42,aI k),(5,aI k),(6,.ip none [aI g.name,aw g.blocks])] (by simp) (by omega) [.gone,.gone] ?_ ?_ ?_ ?_ ?_
     ·rfl
     ·simp[al.upto,au,ae.upto,av,Func.ag,Block.ag,Edge.ag,Ins.ag,nL,gP,dL]
     ·simp[fL,St.get,bq,aY,Go.Av.look,Sub.refl]
     ·simp[al.upto,au,ae.upto,av,Func.ag,Block.ag,Edge.ag,Ins.ag,nL,gP,dL]
     refine ay ?_;refine zi S3 ?_;refine ah ?_;refine aS ?_;simp -dsimp only[simprocAttr,↓aa,zp,hf];refine zi HP ?_;refine ah ?_;refine ay ?_;refine zi lr ?_;refine ah ?_;refine cJ ?_;simp -dsimp only[simprocAttr,↓aa,zp,AH];refine ah ?_;apply aM rfl<;>intro h
     ·cases h
     refine cm ?_;refine cb (ah ?_);refine ai (aO (ι:={i:Nat // i<=L.length}) (fun i=>⟨135,[(1,.ip none [a7 u.fns,aI u.main]),(3,.ip none [a7 G,aI u.main]),(40,a7 G),(41,aI G.length),(42,aI k),(6,.ip none [aI g.name,aw g.blocks]),(11,.aB 1 ((dj g).map aT) .sh),(83,.aB 3 (L.map fO) .sh),(84,aI L.length),(85,aI i.1)],[.gone,.gone]⟩) (fun i=>L.length-i.1) ⟨0,by omega⟩ ?_ ?_)
     ·refine zq rfl ?_ ?_;simp -dsimp only[simprocAttr,↓aa,zp,zc]
      all_goals rfl
     rintro⟨i,hi⟩;refine ay (ah ?_);apply ib rfl<;>intro h
     ·refine cm ?_;have aZ:i<L.length:=by simpa using h
      obtain⟨x,hx⟩:∃x,L[i]?=some x:=⟨L[i]'(by omega),List.getElem?_eq_getElem _⟩
      obtain⟨TE,ym,nV,Xl,hP⟩:=AJ x (List.mem_of_getElem? hx);obtain⟨P,Xj⟩:∃P,P=HX g x.head:=⟨_,rfl⟩
      rw[<-Xj]at TE nV Xl hP;clear Xj;refine aH (ai ?_);refine aS ?_;simp -dsimp only[simprocAttr,↓aa,zp,hx,fO];refine ah ?_;refine aA 14 2 (.ip none [aI x.head,aT x.blocks,aI x.parent]) rfl (by simp[al.aC]) trivial rfl ?_ ?_;rotate_left;simp -dsimp only[simprocAttr,↓aa,zp];rotate_left
      ·exact bT.mp rfl rfl
      refine bF 2 [(1,.ip none [a7 u.fns,aI u.main]),(3,.ip none [a7 G,aI u.main]),(40,a7 G),(41,aI G.length),(42,aI k),(6,.ip none [aI g.name,aw g.blocks]),(11,.aB 1 ((dj g).map aT) .sh),(83,.aB 3 (L.map fO) .sh),(84,aI L.length),(85,aI i),(14,.ip none [aI x.head,aT x.blocks,aI x.parent])] (by simp) (by omega) [.gone,.gone] ?_ ?_ ?_ ?_ ?_
      ·rfl
      ·simp[al.upto,au,ae.upto,av,Func.ag,Block.ag,Edge.ag,Ins.ag,nL,gP,dL]
      ·simp[fL,St.get,bq,aY,Go.Av.look,Sub.refl]
      ·simp[al.upto,au,ae.upto,av,Func.ag,Block.ag,Edge.ag,Ins.ag,nL,gP,dL]
      refine ay (ah ?_);refine cJ ?_;simp -dsimp only[simprocAttr,↓aa,zp,TE]
      repeat(refine⟨by omega,?_⟩)
      refine ah ?_;refine ai (aO (ι:={z:Nat // z<=P.length}) (fun z=>⟨135,[(1,.ip none [a7 u.fns,aI u.main]),(3,.ip none [a7 G,aI u.main]),(40,a7 G),(41,aI G.length),(42,aI k),(6,.ip none [aI g.name,aw g.blocks]),(11,.aB 1 ((dj g).map aT) .sh),(83,.aB 3 (L.map fO) .sh),(84,aI L.length),(85,aI i),(14,.ip none [aI x.head,aT x.blocks,aI x.parent]),(15,aI (A' x.blocks P z.1)),(93,aT P),(94,aI P.length),(95,aI z.1)],[.gone,.gone]⟩) (fun z=>P.length-z.1) ⟨0,by omega⟩ ?_ ?_)
      ·refine zq rfl ?_ ?_;simp -dsimp only[simprocAttr,↓aa,zp,zc]
       all_goals first|rfl|exact Sub.refl _
      rintro⟨z,hz⟩;refine ay (ah ?_);apply ib rfl<;>intro h
      ·refine cm ?_;have ur:z<P.length:=by simpa using h
       obtain⟨p,hp⟩:∃p,P[z]?=some p:=⟨P[z],by simp[ur]⟩
       have RE:=hP p (List.mem_of_getElem? hp);have OM:=Ha (bl:=x.blocks) hp;have ES:A' x.blocks P z<=33000:=by
        unfold A';have:=List.length_filter_le (fun q=>!mZ x.blocks q) (P.take z);rw[List.length_take]at this;omega
       have XH:=Ao x.blocks p;obtain⟨c,HO⟩:∃c,c=mZ x.blocks p:=⟨_,rfl⟩
       rw[<-HO]at XH RE OM;clear HO;refine aH (ai ?_);refine aS ?_;simp -dsimp only[simprocAttr,↓aa,zp,hp];refine ah ?_;refine cb ?_;refine zi XH ?_;refine ah ?_;cases c with
       | true =>
        refine cN rfl ?_;refine aG ?_;simp -dsimp only[bD,ne_eq,Nat.reduceEqDiff,reduceCtorEq];refine cF ?_
        repeat(refine⟨by omega,?_⟩)
        refine fw ?_;refine⟨⟨z+1,ur⟩,by simp;omega,?_⟩;refine zq rfl ?_ ?_;simp -dsimp only[simprocAttr,↓aa,zp,zc]
        ·exact⟨by rw[OM];exact Sub.int (by simp),Sub.int (by simp)⟩
        rfl
       | false =>
        obtain⟨p0,p1,p2⟩:=RE rfl;obtain⟨b,hb⟩:∃b,g.blocks[p.toNat]?=some b:=⟨g.blocks[p.toNat]'(by omega),List.getElem?_eq_getElem _⟩
        have BV:b.term.to.length=1:=by
         unfold fY aF at p2;rw[hb]at p2;exact p2
        apply aM rfl<;>intro h
        ·cases h
        refine cm ?_;refine ay ?_
        repeat(refine⟨by omega,?_⟩)
        refine ah ?_;refine aS ?_;simp -dsimp only[simprocAttr,↓aa,zp,hb,BV]
        repeat(refine⟨by omega,?_⟩)
        refine ah ?_;apply aM rfl<;>intro h
        ·cases h
        refine kA ?_;refine cF ?_
        repeat(refine⟨by omega,?_⟩)
        refine fw ?_;refine⟨⟨z+1,ur⟩,by simp;omega,?_⟩;refine zq rfl ?_ ?_;simp -dsimp only[simprocAttr,↓aa,zp,zc]
        ·exact⟨by rw[OM];exact Sub.int (by simp),Sub.int (by simp)⟩
        rfl
      refine aG ?_;simp -dsimp only[bD,ne_eq,Nat.reduceEqDiff,reduceCtorEq];have ta:P.length<=z:=by
       have:=of_decide_eq_false h;omega
      have XX:=JP (bl:=x.blocks) ta;rw[nV]at XX;refine aS ?_;simp -dsimp only[simprocAttr,↓aa,zp,XX];refine ah ?_;apply aM rfl<;>intro h
      ·cases h
      refine kA ?_;refine cF ?_
      repeat(refine⟨by omega,?_⟩)
      refine fw ?_;refine⟨⟨i+1,aZ⟩,by simp;omega,?_⟩;refine zq rfl ?_ ?_;simp -dsimp only[simprocAttr,↓aa,zp,zc]
      ·exact Sub.int (by simp)
      rfl
     refine aG ?_;simp -dsimp only[bD,ne_eq,Nat.reduceEqDiff,reduceCtorEq];refine ay ?_;refine zi Wd ?_;refine ah ?_;refine aA 18 2 (.ip none [aI g.name,aw g.blocks]) rfl (by simp[al.aC]) trivial rfl ?_ ?_;rotate_left;simp -dsimp only[simprocAttr,↓aa,zp];rotate_left
     ·exact bT.mp rfl rfl
     refine bF 2 [(1,.ip none [a7 u.fns,aI u.main]),(3,.ip none [a7 G,aI u.main]),(40,a7 G),(41,aI G.length),(42,aI k),(6,.ip none [aI g.name,aw g.blocks]),(18,.ip none [aI g.name,aw g.blocks]),(19,aI 0)] (by simp) (by omega) [.gone,.gone] ?_ ?_ ?_ ?_ ?_
     ·rfl
     ·simp[al.upto,au,ae.upto,av,Func.ag,Block.ag,Edge.ag,Ins.ag,nL,gP,dL]
     ·simp[fL,St.get,bq,aY,Go.Av.look,Sub.refl]
     ·simp[al.upto,au,ae.upto,av,Func.ag,Block.ag,Edge.ag,Ins.ag,nL,gP,dL]
     refine ay ?_;refine zi RF ?_;refine ah ?_;apply aM rfl<;>intro h
     ·cases h
     refine kA ?_;refine cF ?_
     repeat(refine⟨by omega,?_⟩)
     refine fw ?_;refine⟨⟨k+1,aZ⟩,by simp;omega,?_⟩;refine zq rfl ?_ ?_;simp -dsimp only[simprocAttr,↓aa,zp,zc]
     ·exact Sub.int (by simp)
     rfl
    refine aG ?_;simp -dsimp only[bD,ne_eq,Nat.reduceEqDiff,reduceCtorEq];refine ay ?_;refine zi jK ?_;refine ah ?_;refine aq ?_;simp -dsimp only[simprocAttr,↓aa,zp,zr,Tryz.results3]
   rw[if_neg he]at K';have Zj:=ue he;rw[Zj]at K';refine zf true 0 Tryz.func3 Tryz.ntmps3 ?_;dsimp only[Tmp,TypeId,slotsOf];refine ay (ah ?_);refine aA 1 0 (.ip none [a7 u.fns,aI u.main]) rfl (by simp[al.aC]) trivial rfl ?_ ?_;rotate_left;simp -dsimp only[simprocAttr,↓aa,zp]
   ·refine cb ?_;refine zi RJ ?_;refine ah ?_;refine cd rfl ?_;refine cm ?_;refine cb ?_;refine zi sL ?_;refine zi TM ?_;refine ah ?_;refine cd rfl ?_;refine cm ?_;refine ay ?_;refine zi K' ?_;refine ah ?_;refine cb (ah ?_);refine cN rfl ?_;refine ay (ah ?_);refine aq ?_;simp -dsimp only[simprocAttr,↓aa,zp,zr,Tryz.results3]
   exact bT.mp rfl rfl
  have Dd:FG u=false:=by simpa using hs
  rw[Dd]at TM;refine zf true 0 Tryz.func3 Tryz.ntmps3 ?_;dsimp only[Tmp,TypeId,slotsOf];refine ay (ah ?_);refine aA 1 0 (.ip none [a7 u.fns,aI u.main]) rfl (by simp[al.aC]) trivial rfl ?_ ?_;rotate_left;simp -dsimp only[simprocAttr,↓aa,zp]
  ·refine cb ?_;refine zi RJ ?_;refine ah ?_;refine cd rfl ?_;refine cm ?_;refine cb ?_;refine zi sL ?_;refine zi TM ?_;refine ah ?_;refine cN rfl ?_;refine ay (ah ?_);refine aq ?_;simp -dsimp only[simprocAttr,↓aa,zp,zr,Tryz.results3]
  exact bT.mp rfl rfl
 obtain⟨e,BR⟩:∃e,e=dV u:=⟨_,rfl⟩
 rw[<-BR]at hc sL;have m5:decide (e=0)=false:=decide_eq_false hc;refine zf true 0 Tryz.func3 Tryz.ntmps3 ?_;dsimp only[Tmp,TypeId,slotsOf];refine ay (ah ?_);refine aA 1 0 (.ip none [a7 u.fns,aI u.main]) rfl (by simp[al.aC]) trivial rfl ?_ ?_;rotate_left;simp -dsimp only[simprocAttr,↓aa,zp]
 ·refine cb ?_;refine zi RJ ?_;refine ah ?_;refine cd rfl ?_;refine cm ?_;refine cJ ?_;simp -dsimp only[simprocAttr,↓aa,zp,m5];refine .inl ⟨_,sL,by simp only[au,ae.upto,zt,zu,av],an ?_⟩;simp -dsimp only[simprocAttr,↓aa,zp,m5];refine ah ?_;refine cN rfl ?_;refine ay (ah ?_);refine aq ?_;simp -dsimp only[simprocAttr,↓aa,zp,zr,Tryz.results3]
 exact bT.mp rfl rfl
end Go.Proofs.YtjdnhamngpafmaaGreat
