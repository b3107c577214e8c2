/- Texts of the proof, bound together and shortened by a program of mine. -/
import Derived.Test.YtjdnhamngpafmaaGreatG6
set_option linter.all false
set_option maxRecDepth 100000
set_option maxHeartbeats 4000000
namespace Go.Proofs.YtjdnhamngpafmaaGreat
open Go.Av Tryz
theorem vg(t:Int)(es:List Edge):FY t es=(es.map Edge.block).countP fun b=>decide (b=t):=by
 unfold FY;rw[List.countP_map];rfl
variable {g G:Func}
theorem RW.IF(h:RW g G)(t:Int):Ld t G.blocks=Ld t g.blocks:=by
 have e:(G.blocks.map fun b=>b.term.to).map (FY t)=(g.blocks.map fun b=>b.term.to).map (FY t):=by
  apply Gg;intro j;rw[Bv,Bv,Bv,Bv];cases hj:G.blocks[j]? with
  | none =>
   have:g.blocks[j]?=none:=by
    rw[pe]at hj ⊢;rw[<-h.len];exact hj
   rw[this]
  | some c =>
   obtain⟨b,h1,h2,_⟩:=h.blk j c hj;rw[h1];show some (FY t c.term.to)=some (FY t b.term.to);rw[vg,vg,h2]
 show(((G.blocks.map fun b=>b.term.to).map (FY t))).sum=_;rw[e];rfl
theorem RW.S4(h:RW g G){j:Nat}{c:Block}(hc:G.blocks[j]?=some c){x:Edge}(hx:x∈c.term.to):∃b e,g.blocks[j]?=some b∧e∈b.term.to∧e.block=x.block∧b.term.to.length=c.term.to.length∧x.args=[]:=by
 obtain⟨b,h1,h2,h3,_⟩:=h.blk j c hc;have hl:=Dj List.length h2;rw[BE,BE]at hl;have hm:x.block∈b.term.to.map Edge.block:=by
  rw[<-h2];exact List.mem_map.2 ⟨x,hx,rfl⟩
 obtain⟨e,he,heq⟩:=List.mem_map.1 hm;exact⟨b,e,h1,he,heq,hl.symm,h3 x hx⟩
theorem RW.gr(h:RW g G)(hg:FN g):FN G where
 ne:=fun q=>by
  have:=h.len;rw[q]at this;exact hg.ne (List.length_eq_zero_iff.1 this.symm)
 few:=by rw[h.len];exact hg.few
 to:=fun c hc=>by
  obtain⟨j,hj⟩:=List.mem_iff_getElem?.1 hc;obtain⟨b,h1,h2,_⟩:=h.blk j c hj;have hl:=Dj List.length h2;rw[BE,BE]at hl;rw[hl];exact hg.to b (AK h1)
 DN:=fun c hc e he=>by
  obtain⟨j,hj⟩:=List.mem_iff_getElem?.1 hc;obtain⟨b,e',h1,h2,h3,_⟩:=h.S4 hj he;have:=hg.DN b (AK h1) e' h2;rw[h.len,<-h3];exact Cd
structure fa(G:Func):Prop where
 gr:FN G
 par:∀(j:Nat) c,G.blocks[j]?=some c->0<j->c.params=[]
 args:∀c∈G.blocks,∀e∈c.term.to,e.args=[]
 few:∀c∈G.blocks,∀e∈c.term.to,2<=c.term.to.length->(bpM G e.block).length<=1
 ins:∀c∈G.blocks,c.ins.length<=2 ^ 47
theorem qju(h:RW g G)(hg:FN g)(hs:∀(k:Nat) c,g.blocks[k]?=some c->∀e∈c.term.to,N' g k e=false):fa G where
 gr:=h.gr hg
 par:=fun j c hc hj=>by
  obtain⟨b,h1,h2,h3,h4⟩:=h.blk j c hc;exact h4 hj
 args:=fun c hc e he=>by
  obtain⟨j,hj⟩:=List.mem_iff_getElem?.1 hc;exact(h.S4 hj he).choose_spec.choose_spec.2.2.2.2
 few:=fun c hc e he hl=>by
  obtain⟨j,hj⟩:=List.mem_iff_getElem?.1 hc;obtain⟨b,e',h1,h2,h3,h4,h5⟩:=h.S4 hj he;have hb:=AK h1;have RB:=hs j b h1 e' h2;have hr:=hg.DN b hb e' h2;unfold N' at RB;have Pf:A7 g (j:Int)=b:=by simp[A7,h1]
  rw[Pf,Ar I,PA,Kf]at RB;rw[kY (fun b hb e he=>qA) I hr.2]at RB;unfold bpM;rw[wq,h.IF,<-h3];omega
 ins:=fun c hc=>(h.fit.2.2 c hc).2.2.1
theorem qgo{f:Func}(AO:f.fit)(hc:Cj f=0)(hm:f.blocks.length+(DI f).news.length<=128):RW (DD f) (Ih f)∧fa (Ih f):=by
 have bf:=cr AO hm;have hcg:=cW AO hc hm;have Tf:=Sa AO hc;have hv:=Sa bf hcg;have hb:RW (DD f) (Ih f):=by
  refine qdL bf hv (fun v h=>?_) ?_ hv.fn.ins
  ·rw[so]at h;exact(Tf.below h).2.1
  cases hq:G8 f with
  | nil =>
   have:QC f=0:=by
    unfold QC;rw[hq];rfl
   rw[this];exact fJ
  | cons v r =>
   have:=Tf.below (v:=v) (by rw[hq];exact DQ);unfold Bi;omega
 exact⟨hb,qju hb hv.fn.gr fun k c hk e he=>uD Tf.fn.gr hv.fn.gr hk he⟩
theorem ng{u:Ad}(AO:u.fit)(hc:GN u=0)(h:Gc Jv u.fns=0):(Gp u).fit∧∀G∈(Gp u).fns,fa G:=by
 have hf:∀f∈u.fns,RW (DD f) (Ih f)∧fa (Ih f):=fun f hf=>qgo (AO.2.2 f hf) ((cT hc).2.2.2.1 f hf) (tg (ZU h f hf));refine⟨⟨AO.1,by
  show(u.fns.map Ih).length<=_;rw[BE];exact AO.2.1,fun G hG=>?_⟩,fun G hG=>?_⟩
 ·obtain⟨f,h1,rfl⟩:=List.mem_map.1 hG;exact(hf f h1).1.fit
 obtain⟨f,h1,rfl⟩:=List.mem_map.1 hG;exact(hf f h1).2
theorem qmA{u:Ad}(AO:u.fit)(hc:GN u=0)(h:Gc Jv u.fns=0):XJ (O8 u) (Gp u) (fun fn=>QC (AB u fn)):=by
 have hm:∀f∈u.fns,f.blocks.length+(DI f).news.length<=128:=fun f hf=>tg (ZU h f hf);have IE:=(cT hc).2.2.2.1;have hl:(O8 u).fns.length=u.fns.length:=by
  unfold O8;rw[BE]
 have hf:∀fn:Int,0<=fn->fn<(O8 u).fns.length->AB u fn∈u.fns∧AB (O8 u) fn=DD (AB u fn):=fun fn f0 f1=>⟨Nu f0 I,Xt f0 I⟩
 exact {
  len:=by
   show(u.fns.map Ih).length=_;rw[BE,hl]
  main:=rfl
  fn:=fun fn f0 f1=>by
   obtain⟨h1,h2⟩:=hf fn f0 f1;rw[h2];have:(Gp u).fns[fn.toNat]?=some (Ih (AB u fn)):=by
    show(u.fns.map Ih)[fn.toNat]?=_;have hx:u.fns[fn.toNat]?=some (u.fns[fn.toNat]' I):=AY _;rw[Bv,hx];unfold AB;rw[hx];rfl
   show(Gp u).fns[fn.toNat]?.getD default=_;rw[this];rfl
  ok:=fun fn f0 f1=>by
   obtain⟨h1,h2⟩:=hf fn f0 f1;rw[h2];exact Sa (cr (AO.2.2 _ h1) (hm _ h1)) (cW (AO.2.2 _ h1) (IE _ h1) (hm _ h1))
  below:=fun fn f0 f1 x hx=>by
   obtain⟨h1,h2⟩:=hf fn f0 f1;rw[h2,so]at hx;exact((Sa (AO.2.2 _ h1) (IE _ h1)).below hx).2.1
  yq:=fun fn f0 f1=>by
   obtain⟨h1,h2⟩:=hf fn f0 f1;rw[h2];have hv:=Sa (AO.2.2 _ h1) (IE _ h1);have hv2:=Sa (cr (AO.2.2 _ h1) (hm _ h1)) (cW (AO.2.2 _ h1) (IE _ h1) (hm _ h1));exact fun k c hk e he=>uD hv.fn.gr hv2.fn.gr hk he }
def KA(g:Func)(many:Nat)(N:List (List Bool))(k:Int):List Bool:=HP (A7 g k).ins (OC g many N (A7 g k).term)
structure Ng where
 N:List (List Bool)
 again:Bool
def Ny(g:Func)(many:Nat)(k:Int)(S:Ng):Ng:=if KA g many S.N k=G5 S.N k then S else⟨S.N.set k.toNat (KA g many S.N k),true⟩
def LC(g:Func)(many:Nat)(l:List Int)(S:Ng):Ng:=l.foldr (Ny g many) S
def Pu(g:Func)(many:Nat)(ord:List Int):Nat->Ng->Ng
 | 0,S=>S
 | q+1,S=>if S.again=true then Pu g many ord q (LC g many ord ⟨S.N,false⟩)else S
def Ty(n many:Nat):Ng:=⟨List.replicate n (List.replicate many false),true⟩
def Uv(g:Func)(many:Nat)(ord:List Int):List (List Bool):=(Pu g many ord 700000 (Ty g.blocks.length many)).N
def Ng.weight(many:Nat)(S:Ng):Nat:=(S.N.map fun l=>many-l.countP id).sum
structure Rw(g:Func)(many:Nat)(ord:List Int)(S:Ng):Prop where
 len:S.N.length=g.blocks.length
 sz:∀l∈S.N,l.length=many
 low:∀k∈ord,Ta (G5 S.N k) (KA g many S.N k)
theorem qfz(g:Func)(many:Nat)(N:List (List Bool))(k:Int):(KA g many N k).length=many:=by
 unfold KA;rw[ca,kq]
variable {many:Nat}
theorem qeC{A B:List (List Bool)}(h:∀k,Ta (G5 A k) (G5 B k))(k:Int):Ta (KA g many A k) (KA g many B k) :=
 qa6 _ (by rw[kq,kq]) (qdJ h _)
theorem aeu{α:Type}{f:α->Nat}:∀{l:List α} {i:Nat} {x y:α},l[i]?=some x->((l.set i y).map f).sum+f x=(l.map f).sum+f y
 | a::r,0,x,y,h=>by
  obtain rfl:a=x:=Aa
  simp only[OH,Bc,KH];omega
 | a::r,i+1,x,y,h=>by
  have:=aeu (f:=f) (l:=r) (i:=i) (x:=x) (y:=y) Aa;simp only[US,Bc,KH];omega
variable {ord:List Int}
theorem uw{S:Ng}(h:Rw g many ord S){k:Int}(hk:k∈ord)(h0:0<=k)(h1:k<g.blocks.length) :
  Rw g many ord (Ny g many k S)∧(Ny g many k S).weight many<=S.weight many∧((Ny g many k S).again=true->S.again=true∨(Ny g many k S).weight many<S.weight many):=by
 unfold Ny;split
 ·exact re
 rename_i AT;obtain⟨Hf,ho⟩:∃Hf,S.N[k.toNat]?=some Hf:=⟨S.N[k.toNat]' py,AY _⟩
 have hof:G5 S.N k=Hf:=by unfold G5;rw[ho];rfl
 obtain⟨nw,Ls⟩:∃nw,nw=KA g many S.N k:=⟨_,rfl⟩
 have TN:=h.low k hk;rw[hof]at AT TN;rw[<-Ls]at AT TN ⊢;have JA:nw.length=many:=by rw[Ls,qfz]
 have Jx:Hf.length=many:=h.sz Hf (AK ho);have Fg:=AE ho;have S5:∀j,Ta (G5 S.N j) (G5 (S.N.set k.toNat nw) j):=fun j=>by
  unfold G5;rw[FD];by_cases e:k.toNat=j.toNat
  ·rw[A9 e,A9 Fg,<-e,ho];exact TN
  rw[A4 e];exact fun v q=>q
 have hc:=xQ Hf nw I TN;have AF:=hc.2 (fun e=>AT e.symm);have B8:=PC (p:=id) (l:=nw);have hs:=aeu (f:=fun l:List Bool=>many-l.countP id) (y:=nw) ho;have hw:(⟨S.N.set k.toNat nw,true⟩:Ng).weight many<S.weight many:=by
  unfold Ng.weight;simp only at hs ⊢;omega
 refine⟨⟨jO,fun l hl=>?_,fun j hj=>?_⟩,Nat.le_of_lt hw,fun _=>.inr hw⟩
 ·rcases KE hl with q|q
  ·exact h.sz l q
  rw[q,JA]
 have hm:=qeC (g:=g) (many:=many) S5 j;by_cases e:k.toNat=j.toNat
 ·have Pj:G5 (S.N.set k.toNat nw) j=nw:=by
   unfold G5;rw[<-e,Bb Fg];rfl
  by_cases e2:k=j
  ·subst e2;simp only;rw[Pj];intro v hv;rw[Ls]at hv;exact hm v hv
  have Ff:=h.low j hj;simp only;rw[Pj];have hjo:G5 S.N j=Hf:=by
   unfold G5;rw[<-e,ho];rfl
  have hb:KA g many S.N j=KA g many S.N k:=by
   unfold KA A7;rw[e]
  intro v hv;refine hm v ?_;rw[hb,<-Ls];exact hv
 have Pj:G5 (S.N.set k.toNat nw) j=G5 S.N j:=by
  unfold G5;rw[Ap e]
 simp only;rw[Pj];intro v hv;exact hm v (h.low j hj v hv)
theorem fV{g:Func}{many:Nat}{ord:List Int}:∀(l:List Int) {S:Ng},Rw g many ord S->(∀k∈l,k∈ord∧0<=k∧k<g.blocks.length) ->
  Rw g many ord (LC g many l S)∧(LC g many l S).weight many<=S.weight many∧((LC g many l S).again=true->S.again=true∨(LC g many l S).weight many<S.weight many)
 | [],S,h,_=>⟨h,B6 _,fun q=>.inl q⟩
 | k::r,S,h,hl=>by
  obtain⟨h1,h2,h3⟩:=fV r h fun x hx=>hl x (Dw _ hx);obtain⟨k1,k2,k3⟩:=hl k DQ;obtain⟨q1,q2,q3⟩:=uw h1 k1 k2 k3;have e:LC g many (k::r) S=Ny g many k (LC g many r S):=rfl;rw[e];refine⟨q1,I,fun q=>?_⟩;rcases q3 q with p|p
  ·rcases h3 p with p|p
   ·exact .inl p
   exact .inr I
  exact .inr I
theorem mw(g:Func)(many:Nat)(ord:List Int):Rw g many ord (Ty g.blocks.length many):=by
 refine⟨by simp[Ty],fun l hl=>aal,fun k _ v hv=>?_⟩;unfold G5 Ty at hv;simp only[YA]at hv;split at hv
 ·exact B3 hv lh
 simp[Hs]at hv
theorem tt(n many:Nat):(Ty n many).weight many<=n*many:=by
 unfold Ng.weight Ty;rw[iY,iL];exact Nat.mul_le_mul_left _ (Nat.sub_le _ _)
theorem vp{S:Ng}(h:S.again=false):∀n,Pu g many ord n S=S
 | 0=>rfl
 | n+1=>by rw[Pu,h];rfl
theorem xd{g:Func}{many:Nat}{ord:List Int}(ho:∀k∈ord,0<=k∧k<g.blocks.length):∀(n:Nat) {S:Ng},Rw g many ord S->Rw g many ord (Pu g many ord n S)
 | 0,_,h=>h
 | n+1,S,h=>by
  rw[Pu];split
  ·exact xd ho n (fV ord (S:=⟨S.N,false⟩) ⟨h.len,h.sz,h.low⟩ fun k hk=>⟨hk,ho k hk⟩).1
  exact h
theorem wB(ho:∀k∈ord,0<=k∧k<g.blocks.length):(Uv g many ord).length=g.blocks.length∧∀l∈Uv g many ord,l.length=many:=by
 have:=xd ho 700000 (mw g many ord);exact⟨this.len,this.sz⟩
theorem qbp(b:Block)(s:List Bool)(many:Nat)(EH:s.length=many)(Dv:0<many)(SS:many<=2 ^ 20)(Fv:b.ins.length<=2 ^ 40)(G2:∀i∈b.ins,Ob many i.to∧(∀a∈i.args,Ob many a)∧i.args.length<=2 ^ 40)(ha:IL b.term=true->Ob many b.term.arg) :
  BR prog 104 [b.enc,.A3 1 (s.map eB) .nn] (.A3 1 ((HP b.ins (if IL b.term then JP s b.term.arg true else s)).map eB) .sh):=by
 obtain⟨s1,He⟩:∃s1,s1=if IL b.term then JP s b.term.arg true else s:=⟨_,rfl⟩
 rw[<-He];have qmS:s1.length=many:=by
  rw[He];split
  ·rw[Y',EH]
  exact EH
 obtain⟨R,hR⟩:∃R,R=HP b.ins s1:=⟨_,rfl⟩
 rw[<-hR];have AT:s≠[]:=fun e=>by rw[e]at EH;simp at EH;omega
 have B8:=qbf (O:=[.gone]) (by simp[A8.upto]) s AT I;rw[EH]at B8;obtain⟨uk,Te⟩:∃uk,uk=IL b.term:=⟨_,rfl⟩
 rw[<-Te]at He ha;refine zf true 0 func104 ntmps104 ?_;refine Cw ?_;refine Cz 2 0 (.ip none [AA b.params,B7 b.ins,aI b.term.kind,aI b.term.arg,aI b.term.n,AA b.term.cases,An b.term.to]) rfl Bd trivial rfl ?_ ?_;rotate_left;refine BL ?_;rotate_left
 ·exact Be
 refine BM ?_;refine .inr (.inl ⟨_,_,B8,.inl (B4 (zj ?_))⟩);refine Ak ?_;refine LO (⟨58,[(2,.ip none [AA b.params,B7 b.ins,aI b.term.kind,aI b.term.arg,aI b.term.n,AA b.term.cases,An b.term.to]),(5,.ms 1 0 many many)],[.gone,.cells (s1.map eB)]⟩) ?_ ?_
 ·by_cases k1:b.term.kind=1
  ·have d1:decide (b.term.kind=1)=true:=Ar k1;have hu:uk=false:=by rw[Te];simp[IL,k1]
   rw[hu,A4 EW]at He;subst He;refine Ch d1 ?_;refine PD ?_
   all_goals rfl
  have d1:decide (b.term.kind=1)=false:=Ac k1;by_cases k4:b.term.kind=4
  ·have d4:decide (b.term.kind=4)=true:=Ar k4;have hu:uk=false:=by rw[Te];simp[IL,k4]
   rw[hu,A4 EW]at He;subst He;refine Jm d1 d4 ?_;refine PD ?_
   all_goals rfl
  have d4:decide (b.term.kind=4)=false:=Ac k4;have hu:uk=true:=by rw[Te];simp[IL,k1,k4]
  rw[hu,A9 rfl]at He;obtain⟨a0,a1⟩:=ha hu;have hpb:s1=s.set b.term.arg.toNat true:=He;have Bg:=fP (l:=s) (j:=b.term.arg.toNat) I true;rw[<-hpb]at Bg;refine Jm d1 d4 ?_;refine FF ?_;refine RJ hT hm ?_;simp -dsimp only[simprocAttr,↓AG,zp,HW,Bg,EH]
  refine Ef ?_
  refine Yc ?_
  all_goals rfl
 refine GX ?_
 refine D1 ?_;refine Al (BZ (ι:={x:Nat×List Bool // x.1<=b.ins.length∧x.2.length=many∧R=HP (b.ins.take x.1) x.2}) (fun x=>⟨58,[(2,.ip none [AA b.params,B7 b.ins,aI b.term.kind,aI b.term.arg,aI b.term.n,AA b.term.cases,An b.term.to]),(5,.ms 1 0 many many),(6,aI ((x.1.1:Int)-1))],[.gone,.cells (x.1.2.map eB)]⟩) (fun x=>x.1.1) ⟨(b.ins.length,s1),B6 _,qmS,by rw[Jk];exact hR⟩ ?_ ?_)
 ·refine C6 ?_
  all_goals rfl
 rintro⟨⟨n,t⟩,hn,CI,R3⟩;simp only at hn CI R3;refine BF ?_;apply AZ rfl<;>intro h
 ·refine Az ?_;obtain⟨n,rfl⟩:∃m,n=m+1:=⟨n-1,by have:=T' h;omega⟩
  have AF:n<b.ins.length:=I
  obtain⟨i,hi⟩:∃i,b.ins[n]?=some i:=⟨b.ins[n],Gu⟩
  obtain⟨⟨hi0,NZ⟩,hia,qor⟩:=G2 i (AK hi);have BA:b.ins.take (n+1)=b.ins.take n++[i]:=by rw[Fs,hi];rfl
  have XO:HP (b.ins.take n++[i]) t=HP (b.ins.take n) (Mz i t):=by simp[HP]
  rw[BA,XO]at R3;obtain⟨j,hj⟩:∃j:Nat,i.to=(j:Int):=⟨i.to.toNat,I⟩
  have Bg:=fP (l:=t) (j:=j) I false;have F7:((n+1:Nat):Int)-1=(n:Nat):=I
  obtain⟨T,R5⟩:∃T,T=Mz i t:=⟨_,rfl⟩
  have Ti:T.length=many:=by rw[R5,uh,CI]
  rw[<-R5]at R3;have hpb:JP t i.to false=t.set j false:=by simp[JP,hj]
  unfold Mz QE at R5;rw[hpb]at R5;refine Ui ?_;simp -dsimp only[simprocAttr,↓AG,zp,F7,hi,hj,BH,HW,Bg]
  refine D1 ?_;refine L6 F7 hi ?_;refine Al (BZ (ι:={y:Nat×List Bool // y.1<=i.args.length∧y.2.length=many∧T=(i.args.drop y.1).foldl (fun s v=>JP s v true) y.2}) (fun y=>⟨58,[(2,.ip none [AA b.params,B7 b.ins,aI b.term.kind,aI b.term.arg,aI b.term.n,AA b.term.cases,An b.term.to]),(5,.ms 1 0 many many),(6,aI (n:Nat)),(47,AA i.args),(48,aI i.args.length),(49,aI y.1.1)],[.gone,.cells (y.1.2.map eB)]⟩) (fun y=>i.args.length-y.1.1) ⟨(0,t.set j false),A6,by simp[CI],R5⟩ ?_ ?_)
  ·refine zq rfl ?_ ?_;simp -dsimp only[simprocAttr,↓AG,zp,zc,F7]
   all_goals rfl
  rintro⟨⟨v,cur⟩,hv,B8,KS⟩;simp only at hv B8 KS;refine C3 (fun h=>?_) (fun h=>?_)
  ·refine Az ?_;have MX:v<i.args.length:=Aa
   obtain⟨a,haa⟩:∃a,i.args[v]?=some a:=⟨i.args[v],jf⟩
   obtain⟨a0,a1⟩:=hia a (AK haa);obtain⟨q,rfl⟩:∃q:Nat,a=(q:Int):=⟨a.toNat,I⟩
   rw[D9 haa,HG]at KS;have hpb:JP cur (q:Int) true=cur.set q true:=by simp[JP]
   rw[hpb]at KS;have Bg:=fP (l:=cur) (j:=q) I true;refine DR haa ?_;refine Dn ?_;simp -dsimp only[simprocAttr,↓AG,zp,BH,HW,Bg]
   refine ak ?_;refine⟨⟨(v+1,cur.set q true),MX,by simp[B8],KS⟩,Ai,?_⟩;refine Ba ?_ ?_
   ·exact BY
   rfl
  refine BO ?_;have Tg:v=i.args.length:=Ee
  subst Tg;rw[F',RY]at KS;subst KS;refine Bw ?_;refine⟨⟨(n,T),D6,Ti,R3⟩,A6,?_⟩;refine C6 ?_
  all_goals rfl
 refine BO ?_;have Il:n=0:=YJ
 subst Il;have hRt:R=t:=R3;subst hRt;refine Cz 5 1 (o:=.cells (R.map eB)) (.A3 1 (R.map eB) .nn) rfl Bd trivial rfl (uV rfl CI) ?_;refine BL ?_;refine D7 ?_;simp -dsimp only[simprocAttr,↓AG,zp,zr,results104];exact SY _ _
structure GfW(g:Func)(many:Nat):Prop where
 few:0<g.blocks.length∧g.blocks.length<=128
 SI:0<many∧many<=4096
 par:∀(k:Nat) b,g.blocks[k]?=some b->0<k->b.params=[]
 X2:∀b∈g.blocks,b.params.length<=4096∧∀v∈b.params,Ob many v
 ins:∀b∈g.blocks,b.ins.length<=8192∧∀i∈b.ins,Ob many i.to∧(∀a∈i.args,Ob many a)∧i.args.length<=4096
 arg:∀b∈g.blocks,Ob many b.term.arg
 to:∀b∈g.blocks,b.term.to.length<=257∧∀e∈b.term.to,1<=e.block∧e.block<g.blocks.length∧e.args=[]
def eG(s:List Bool):A2:=.A3 1 (s.map eB) .sh
theorem cP(n:Nat)(l:List (List Bool)):AQ n (l.map eG):=by
 rw[CF];intro x hx;obtain⟨s,_,rfl⟩:=List.mem_map.1 hx;exact⟨SY _ _,trivial⟩
theorem gj(n:Nat)(l:List (List Int)):AQ n (l.map AA):=by
 rw[CF];intro x hx;obtain⟨s,_,rfl⟩:=List.mem_map.1 hx;exact ai
theorem tB(l:List (List Bool)):∀d∈l.map eG,d.scalar:=fun d hd=>by
 obtain⟨s,_,rfl⟩:=List.mem_map.1 hd;trivial
theorem qiG(l:List (List Bool)):∀d∈l.map eG,d.cells.length=1:=fun d hd=>by
 obtain⟨s,_,rfl⟩:=List.mem_map.1 hd;rfl
theorem qkF(l:List (List Bool)):(l.map eG).map A2.Dd=AP (l.map eG):=by
 induction l with
 | nil=>rfl
 | cons a r ih =>
  simp only[Bc,AP,GF]at ih ⊢;rw[ih];rfl
theorem xU{O:List A8}{rows:List (List Bool)}{k:Nat}(hk:k<rows.length){s:List Bool}{o:Ec}:∀(j:Nat) (c d:A2),(As (rows.map eG) k [.A3 1 (s.map eB) o])[j]?=some c->((rows.set k s).map eG)[j]?=some d->Sub O c d:=fun j c d hc hd=>by
 rw[LK _ Ue,FD]at hc;rw[Bv,FD]at hd;by_cases e:k=j
 ·rw[A9 e,A9 Ue,AM]at hc;rw[A9 e,A9 Ue,FV,AM]at hd;rw[<-hc,<-hd];exact Sub.sh rfl
 rw[A4 e,Bv]at hc;rw[A4 e]at hd;rw[hc]at hd;rw[AM]at hd;rw[hd];exact Wa
theorem qgi{α:Type}(z y:α)(k n:Nat)(h:k<n):(List.replicate k z++List.replicate (n-k) y).set k z=List.replicate (k+1) z++List.replicate (n-(k+1)) y:=by
 rw[show n-k=(n-(k+1))+1 from I,KG (a:=y),OF _ _ A6,OG,FB,OH,iU (a:=z),Ez];rfl
theorem qdI{t:Term}(h:∀e∈t.to,e.args=[])(o:List Bool):Z1 t o=if IL t then JP o t.arg true else o:=by
 unfold Z1;generalize (if IL t then JP o t.arg true else o)=q;have:∀(l:List Edge),(∀e∈l,e.args=[])->l.foldl (fun o e=>QE o e.args) q=q:=fun l=>by
  induction l with
  | nil=>exact fun _=>rfl
  | cons e r ih =>
   intro hl;rw[HG,hl e DQ];exact ih fun x hx=>hl x (Dw _ hx)
 exact this t.to h
structure Nx where
 S:Ng
 q:Nat
theorem qbu(g:Func)(ord:List Int)(inn:List (List Int))(many:Nat)(hw:GfW g many)(ho:∀k∈ord,0<=k∧k<g.blocks.length)(Jx:ord.length<=128)(Fv:inn.length<=128) :
  BR prog 72 [.agg [aI g.name,AR g.blocks,AA ord,.A3 1 (inn.map AA) .sh],aI many] (.A3 1 ((Uv g many ord).map eG) .sh):=by
 obtain⟨Il,hn⟩:=hw.few;obtain⟨Dv,SS⟩:=hw.SI;obtain⟨R,hR⟩:∃R,R=Uv g many ord:=⟨_,rfl⟩
 have hRl:R.length=g.blocks.length:=by rw[hR];exact(wB ho).1
 rw[<-hR];unfold Uv at hR;obtain⟨N,hN⟩:∃N,N=g.blocks.length:=⟨_,rfl⟩
 have Oq:=mw g many ord;have hW0:=tt N many;rw[<-hN]at Il hn hR Oq hRl;have CV:(List.replicate many (A2.v (.bool false)))=(List.replicate many false).map eB:=by simp[eB]
 obtain⟨z,hz⟩:∃z,z=List.replicate many false:=⟨_,rfl⟩
 rw[<-hz]at CV;have IY:z.length=many:=qO
 have gX:∀(i:Nat) k,ord[i]?=some k->0<=k∧k<N:=fun i k h=>by rw[hN];exact ho k (AK h)
 refine zf true 0 func72 ntmps72 ?_;refine Cw ?_;refine Cz 2 0 (.ip none [aI g.name,AR g.blocks,AA ord,.A3 1 (inn.map AA) .sh]) rfl Bd trivial rfl ?_ ?_;rotate_left;refine BL ?_;rotate_left
 ·exact Be
 refine B9 ?_;simp -dsimp only[simprocAttr,↓AG,zp,<-hN,ux]
 refine D1 ?_;refine Lz 1 ((List.replicate N ([]:List Bool)).map eG) rfl A6 (tB _) (fun j c d hc hd=>?_) ?_
 ·have h1:=(List.mem_replicate.1 (AK hc)).2;rw[Bv]at hd;cases hj:(List.replicate N ([]:List Bool))[j]? with
  | none=>rw[hj]at hd;cases hd
  | some x =>
   have h2:=(List.mem_replicate.1 (AK hj)).2;rw[hj,FV,AM,h2]at hd;rw[h1,<-hd];exact Sub.sh rfl
 refine Ur ?_;refine Al (BZ (ι:={k:Nat // k<=N}) (fun k=>⟨104,[(1,aI many),(2,.ip none [aI g.name,AR g.blocks,AA ord,.A3 1 (inn.map AA) .sh]),(5,.ms 1 0 N N),(22,aI N),(23,aI k.1)],[.gone,.cells ((List.replicate k.1 z++List.replicate (N-k.1) []).map eG)]⟩) (fun k=>N-k.1) ⟨0,H4 _⟩ ?_ ?_)
 ·refine C6 ?_
  all_goals rfl
 rintro⟨k,hk⟩;refine C3 (fun h=>?_) (fun h=>?_)
 ·refine Az ?_;have LG:k<N:=Aa
  have Au:=qgi z ([]:List Bool) k N LG;have Jy:(List.replicate k z++List.replicate (N-k) ([]:List Bool)).length=N:=Ai
  generalize List.replicate k z++List.replicate (N-k) ([]:List Bool)=rows at *;refine PF ?_;refine zv0 ?_;refine aa CV Jy ?_
  refine D1 ?_;rw[show List.replicate many (([A2.v (Value.bool false)].getD 0 (A2.v (Value.bool false))).share)=z.map eB from CV];refine Lz (cs:=As (rows.map eG) k [.A3 1 (z.map eB) .ex]) 1 ((rows.set k z).map eG) rfl aaY (tB _) (xU I) ?_;rw[Au];refine BL ?_;refine Bw ?_;refine⟨⟨k+1,LG⟩,Ai,?_⟩;refine Ba ?_ ?_
  ·exact BY
  rfl
 refine BO ?_;have SR:k=N:=YJ
 subst SR;rw[FB,iW,F9];have hSN:List.replicate k z=(Ty k many).N:=by rw[hz];rfl
 rw[hSN];have hfu:(Ty k many).weight many<700000:=by
  have:k*many<=128*4096:=pW I SS;omega
 refine BF ?_;refine Al (BZ (ι:={X:Nx // Rw g many ord X.S∧R=(Pu g many ord X.q X.S).N∧(X.S.again=true->X.S.weight many<X.q)}) (fun X=>⟨104,[(1,aI many),(2,.ip none [aI g.name,AR g.blocks,AA ord,.A3 1 (inn.map AA) .sh]),(5,.ms 1 0 k k),(7,.v (.bool X.1.S.again))],[.gone,.cells (X.1.S.N.map eG)]⟩) (fun X=>X.1.S.weight many+if X.1.S.again then 1 else 0) ⟨⟨Ty k many,700000⟩,Oq,hR,fun _=>hfu⟩ ?_ ?_)
 ·refine Ba ?_ ?_
  all_goals first|rfl|exact Sub.refl _
 rintro⟨⟨S,q⟩,Ot,Tv,hwq⟩;simp only at Ot Tv hwq;refine BF ?_;apply AZ rfl<;>intro h
 ·refine Az ?_;have Er:S.again=true:=h;have hwq:=hwq Er;obtain⟨q,rfl⟩:∃q',q=q'+1:=⟨q-1,I⟩
  have cE:R=(Pu g many ord q (LC g many ord ⟨S.N,false⟩)).N:=by
   rw[Tv,Pu,A9 Er]
  have hSf:Rw g many ord ⟨S.N,false⟩:=⟨Ot.len,Ot.sz,Ot.low⟩
  obtain⟨ro1,ro2,Vf⟩:=fV ord hSf fun k hk=>⟨hk,ho k hk⟩
  obtain⟨S1,Tw⟩:∃S1,S1=LC g many ord ⟨S.N,false⟩:=⟨_,rfl⟩
  rw[<-Tw]at cE ro1 ro2 Vf;have hwS:(⟨S.N,false⟩:Ng).weight many=S.weight many:=rfl;rw[hwS]at ro2 Vf;refine Al ?_;refine Cc ?_;refine WY ?_;refine Al (BZ (ι:={Y:Nx // Y.q<=ord.length∧Rw g many ord Y.S∧S1=LC g many (ord.take Y.q) Y.S}) (fun Y=>⟨104,[(1,aI many),(2,.ip none [aI g.name,AR g.blocks,AA ord,.A3 1 (inn.map AA) .sh]),(5,.ms 1 0 k k),(7,.v (.bool Y.1.S.again)),(8,aI ((Y.1.q:Int)-1))],[.gone,.cells (Y.1.S.N.map eG)]⟩) (fun Y=>Y.1.q) ⟨⟨⟨S.N,false⟩,ord.length⟩,B6 _,hSf,by rw[Jk];exact Tw⟩ ?_ ?_)
  ·refine C6 ?_
   all_goals rfl
  rintro⟨⟨T,n⟩,Ib,Pa,Mg⟩;simp only at Ib Pa Mg;refine BF ?_;apply AZ rfl<;>intro h
  ·refine Az ?_;obtain⟨n,rfl⟩:∃m,n=m+1:=⟨n-1,by have:=T' h;omega⟩
   have AF:n<ord.length:=I
   obtain⟨o,To⟩:∃o,ord[n]?=some o:=⟨ord[n],Gu⟩
   obtain⟨o0,o1⟩:=gX n o To;have BA:ord.take (n+1)=ord.take n++[o]:=by rw[Fs,To];rfl
   have gZ:S1=LC g many (ord.take n) (Ny g many o T):=by
    rw[Mg,BA];simp[LC]
   have F7:((n+1:Nat):Int)-1=(n:Nat):=I
   obtain⟨b,hb⟩:∃b,g.blocks[o.toNat]?=some b:=⟨g.blocks[o.toNat]' I,AY _⟩
   have C5:=AK hb;have Ry:A7 g o=b:=by unfold A7;rw[hb];rfl
   obtain⟨t1,t2⟩:=hw.to b C5;obtain⟨i1,i2⟩:=hw.ins b C5;have R8:=hw.arg b C5;obtain⟨B,hB⟩:∃B,B=b.term.to.foldl (MB g T.N) z:=⟨_,rfl⟩
   have On:B.length=many:=by rw[hB,kp,IY]
   have qlY:KA g many T.N o=HP b.ins (if IL b.term then JP B b.term.arg true else B):=by
    unfold KA OC;rw[Ry,qdI (fun e he=>(t2 e he).2.2),<-hz,<-hB]
   have XO:=qbp b B many On Dv I I (fun i hi=>⟨(i2 i hi).1,(i2 i hi).2.1,by have:=(i2 i hi).2.2;omega⟩) (fun _=>R8);rw[<-qlY]at XO;obtain⟨nw,Ls⟩:∃nw,nw=KA g many T.N o:=⟨_,rfl⟩
   rw[<-Ls]at XO;obtain⟨Hf,hold⟩:∃Hf,T.N[o.toNat]?=some Hf:=⟨T.N[o.toNat]'(by rw[Pa.len];omega),AY _⟩
   have BD:Ny g many o T=if nw=Hf then T else⟨T.N.set o.toNat nw,true⟩:=by
    unfold Ny G5;rw[hold,Fp,<-Ls]
   have Ti:=Pa.len;have EH:=(uw Pa (AK To) o0 I).1;refine DW (Al ?_);refine L6 F7 To ?_;refine B9 ?_;simp -dsimp only[simprocAttr,↓AG,zp,qa3,CV]
   refine D1 ?_;refine Ej ?_;refine PG hb ?_;rw[<-hz];refine Al (BZ (ι:={x:Nat×List Bool // x.1<=b.term.to.length∧x.2.length=many∧B=(b.term.to.drop x.1).foldl (MB g T.N) x.2}) (fun x=>⟨104,[(1,aI many),(2,.ip none [aI g.name,AR g.blocks,AA ord,.A3 1 (inn.map AA) .sh]),(5,.ms 1 0 k k),(7,.v (.bool T.again)),(8,aI (n:Nat)),(9,aI o),(10,.ms 2 0 many many),(55,An b.term.to),(56,aI b.term.to.length),(57,aI x.1.1)],[.gone,.cells (T.N.map eG),.cells (x.1.2.map eB)]⟩) (fun x=>b.term.to.length-x.1.1) ⟨(0,z),H4 _,IY,hB⟩ ?_ ?_)
   ·refine zq rfl ?_ ?_;simp -dsimp only[simprocAttr,↓AG,zp,zc,F7]
    all_goals rfl
   rintro⟨⟨w,cur⟩,hwl,B8,PS⟩;simp only at hwl B8 PS;refine C3 (fun h=>?_) (fun h=>?_)
   ·refine Az ?_;have TU:w<b.term.to.length:=Aa
    obtain⟨e,GV⟩:∃e,b.term.to[w]?=some e:=⟨b.term.to[w],by simp[TU]⟩
    obtain⟨e1,e2,e3⟩:=t2 e (AK GV);rw[D9 GV,HG]at PS;obtain⟨S2,R4⟩:∃S2,T.N[e.block.toNat]?=some S2:=⟨T.N[e.block.toNat]'(by rw[Ti];omega),AY _⟩
    have qof:S2.length=many:=Pa.sz S2 (AK R4);obtain⟨c,hc⟩:∃c,g.blocks[e.block.toNat]?=some c:=⟨g.blocks[e.block.toNat]' I,AY _⟩
    have Jq:=hw.par _ c hc I;have hlE:MB g T.N cur e=QJ [] 0 S2 cur:=by
     unfold MB G5 A7;rw[R4,hc,Fp,Fp,Jq]
    rw[hlE]at PS;have hSg:(T.N.map eG)[e.block.toNat]?=some (.A3 1 (S2.map eB) .sh):=by rw[Bv,R4];rfl
    obtain⟨V,hV⟩:∃V,V=QJ [] 0 S2 cur:=⟨_,rfl⟩
    have hVl:V.length=many:=by rw[hV,kT,B8]
    rw[<-hV]at PS;refine DR GV ?_;refine Cz 12 3 (.ip none [aI e.block,AA e.args]) rfl Bd trivial rfl ?_ ?_;rotate_left;refine BL ?_;rotate_left
    ·exact Be
    refine Ei 3 [(1,aI many),(2,.ip none [aI g.name,AR g.blocks,AA ord,.A3 1 (inn.map AA) .sh]),(5,.ms 1 0 k k),(7,.v (.bool T.again)),(8,aI (n:Nat)),(9,aI o),(10,.ms 2 0 many many),(55,An b.term.to),(56,aI b.term.to.length),(57,aI w),(12,.ip none [aI e.block,AA e.args])] A6 I [.gone,.cells (T.N.map eG),.cells (cur.map eB)] ?_ ?_ ?_ ?_ ?_
    ·rfl
    ·simp[A8.upto,SY,cP]
    ·exact Es
    ·simp[A8.upto,AQ,A2.upto,BU,Func.AX,Block.AX,Edge.AX,Ins.AX,gj]
    refine B9 ?_;simp -dsimp only[simprocAttr,↓AG,zp,hSg,HW]
    refine D1 ?_;refine Al (BZ (ι:={y:Nat×List Bool // y.1<=S2.length∧y.2.length=many∧V=QJ [] y.1 (S2.drop y.1) y.2}) (fun y=>⟨104,[(1,aI many),(2,.ip none [aI g.name,AR g.blocks,AA ord,.A3 1 (inn.map AA) .sh]),(5,.ms 1 0 k k),(7,.v (.bool T.again)),(8,aI (n:Nat)),(9,aI o),(10,.ms 2 0 many many),(55,An b.term.to),(56,aI b.term.to.length),(57,aI w),(65,.A3 1 (S2.map eB) .sh),(66,aI S2.length),(67,aI y.1.1)],[.gone,.cells (T.N.map eG),.cells (y.1.2.map eB)]⟩) (fun y=>S2.length-y.1.1) ⟨(0,cur),H4 _,B8,hV⟩ ?_ ?_)
    ·refine C6 ?_
     all_goals rfl
    rintro⟨⟨v,c2⟩,hv,Kk,KS⟩;simp only at hv Kk KS;refine C3 (fun h=>?_) (fun h=>?_)
    ·refine Az ?_;have MX:v<S2.length:=Aa
     obtain⟨is,XU⟩:∃is,S2[v]?=some is:=⟨S2[v],jf⟩
     obtain⟨u,hu⟩:∃u,c2[v]?=some u:=⟨c2[v]' I,AY _⟩
     have qmw:(S2.map eB)[v]?=some (.v (.bool is)):=by rw[Bv,XU];rfl
     have hug:(c2.map eB)[v]?=some (.v (.bool u)):=by rw[Bv,hu];rfl
     have Bg:=fP (l:=c2) (j:=v) I (u ||is);have FI:c2.set v (u ||is)=if(is&&!Lf [] (v:Int))=true then c2.set v true else c2:=by
      have h0:Lf [] (v:Int)=false:=rfl;rw[h0];cases is with
      | true=>simp
      | false =>
       simp only[iO,iN,JS,Gf];apply Gg;intro i;rw[FD];split
       ·rename_i q;subst q;rw[A9 I,hu]
       rfl
     rw[D9 XU,QJ,<-FI]at KS;refine DR qmw ?_;cases u with
     | true =>
      rw[iP]at KS Bg;refine Dn ?_;simp -dsimp only[simprocAttr,↓AG,zp,hug,Bg,Kk,BH,HW]
      refine ak ?_;refine⟨⟨(v+1,c2.set v true),MX,by simp[Kk],KS⟩,Ai,?_⟩;refine Ba ?_ ?_
      ·exact BY
      rfl
     | false =>
      rw[Y5]at KS Bg;refine Dn ?_;simp -dsimp only[simprocAttr,↓AG,zp,hug,Bg,Kk,BH,HW]
      refine ak ?_;refine⟨⟨(v+1,c2.set v is),MX,by simp[Kk],KS⟩,Ai,?_⟩;refine Ba ?_ ?_
      ·exact BY
      rfl
    refine BO ?_;have Tg:S2.length<=v:=Aa
    rw[KD Tg,QJ]at KS;subst KS;refine Bw ?_;refine⟨⟨(w+1,V),TU,hVl,PS⟩,Ai,?_⟩;refine Ba ?_ ?_
    ·exact BY
    rfl
   refine BO ?_;have Vt:b.term.to.length<=w:=Aa
   rw[KD Vt,RY]at PS;subst PS;refine Cz 10 2 (o:=.cells (B.map eB)) (.A3 1 (B.map eB) .nn) rfl Bd trivial rfl (uV rfl On) ?_;refine BL ?_;have hog:(T.N.map eG)[o.toNat]?=some (.A3 1 (Hf.map eB) .sh):=by rw[Bv,hold];rfl
   have heq:=qbV nw Hf;have Mi:=XO.use (by simp[AQ,A2.upto,Block.enc,BU,Edge.AX,Ins.AX,SY]) [.gone,.cells (T.N.map eG),.gone];refine NJ hb ?_
   refine Ef ?_
   refine .inr (.inr ⟨_,Mi,B4 (zj ?_)⟩);refine Ak ?_;refine Ei 2 [(1,aI many),(2,.ip none [aI g.name,AR g.blocks,AA ord,.A3 1 (inn.map AA) .sh]),(5,.ms 1 0 k k),(7,.v (.bool T.again)),(8,aI (n:Nat)),(9,aI o),(15,.A3 1 (nw.map eB) .sh)] A6 I [.gone,.cells (T.N.map eG)] ?_ ?_ ?_ ?_ ?_
   ·rfl
   ·simp[A8.upto,cP]
   ·exact Es
   ·simp[A8.upto,AQ,A2.upto,BU,Func.AX,Block.AX,Edge.AX,Ins.AX,gj,SY]
   by_cases hq:nw=Hf
   ·rw[A9 hq]at BD;rw[BD]at gZ;rw[Ar hq]at heq;refine acj hog ?_;apply AZ rfl<;>intro h
    ·cases h
    refine H2 ?_;refine Bw ?_;refine⟨⟨⟨T,n⟩,D6,Pa,gZ⟩,A6,?_⟩;refine C6 ?_
    all_goals rfl
   rw[A4 hq]at BD;rw[BD]at gZ EH;rw[Ac hq]at heq;refine acj hog ?_;refine FF ?_;refine Dn ?_;simp -dsimp only[simprocAttr,↓AG,zp,HW]
   refine D1 ?_;refine Lz (cs:=As (T.N.map eG) o.toNat [.A3 1 (nw.map eB) .sh]) 1 ((T.N.set o.toNat nw).map eG) rfl aaY (tB _) (xU I) ?_;refine BL ?_;refine Bw ?_;refine⟨⟨⟨⟨T.N.set o.toNat nw,true⟩,n⟩,D6,EH,gZ⟩,A6,?_⟩;refine C6 ?_
   all_goals rfl
  refine BO ?_;have qmL:n=0:=YJ
  subst qmL;have hTS:S1=T:=Mg;subst hTS;have X9:S1.again=true->S1.weight many<q:=fun hh=>by
   rcases Vf hh with r|r
   ·cases r
   omega
  refine⟨⟨⟨S1,q⟩,ro1,cE,X9⟩,?_,?_⟩
  ·simp only[Er,L4];cases He:S1.again
   ·exact KM
   rcases Vf He with r|r
   ·cases r
   exact KM
  refine C6 ?_
  all_goals rfl
 refine BO ?_;have Er:S.again=false:=h;rw[vp Er]at Tv;subst Tv;have hSl:=Ot.len;refine Cz 5 1 (o:=.cells (S.N.map eG)) (.A3 1 (S.N.map eG) .sh) rfl Bd trivial rfl (Eh.ms rfl (qiG _) j4 (by rw[I7,Cb j4,qkF])) ?_;refine BL ?_;refine D7 ?_;simp -dsimp only[simprocAttr,↓AG,zp,zr,results72];exact cP _ _
def Eo(b:Block):Term:=if b.term.kind=0 then⟨4,0,3,[],[]⟩else⟨b.term.kind,0,b.term.n,b.term.cases,b.term.to⟩
def SC(t:Term):Bool:=decide (t.kind=2) ||decide (t.kind=3)
def DU(k:Nat)(b:Block):Block:=⟨[],if SC (Eo b)=true then [⟨(k:Int),0,0,[]⟩]else [],⟨(Eo b).kind,if SC (Eo b)=true then(k:Int)else 0,(Eo b).n,(Eo b).cases,(Eo b).to⟩⟩
def BT(f:Func):Func:=⟨-1,f.blocks.mapIdx DU⟩
theorem Nz(f:Func):(BT f).blocks.length=f.blocks.length:=pS
theorem Wy{f:Func}{k:Nat}{b:Block}(h:f.blocks[k]?=some b):(BT f).blocks[k]?=some (DU k b):=by
 unfold BT;rw[UR,h];rfl
end Go.Proofs.YtjdnhamngpafmaaGreat
namespace Go.Av
def xu(id:Nat)(O:List A8)(es:List (Value×A2))(r:A2)(O':List A8):Prop :=
 (es=[]∧r=.Ab [.v (.bool false)]∧O'=O)∨∃(l1 l2:List (Value×A2)) (k x:Value),es=l1++(k,.v x)::l2∧r=.Ab [.v (.bool true),.v k,.v x]∧O'=O.set id (.map (.iter (some (k,x))) (l1++l2))
theorem filter_push{seen:Array Nat}{e:MapEntry}:∀(l:List MapEntry) (l1 l2:List MapEntry),(l.map (·.born)).Nodup->(l.filter fun e=>!seen.contains e.born)=l1++e::l2->(l.filter fun x=>!(seen.push e.born).contains x.born)=l1++l2
 | [],l1,l2,_,h=>by
  rw[List.filter_nil]at h;exact B3 h.symm A6
 | a::r,l1,l2,hn,h=>by
  have DA:a.born ∉ r.map (·.born)∧(r.map (·.born)).Nodup:=List.nodup_cons.1 hn;have Qm:∀x:MapEntry,(seen.push e.born).contains x.born=(seen.contains x.born ||decide (x.born=e.born)):=fun x=>by
   rw[YF];simp
  have Lm:e∈(a::r).filter fun e=>!seen.contains e.born:=by
   rw[h];simp
  rw[pU]at h ⊢;rw[Qm];by_cases hs:seen.contains a.born=true
  ·rw[hs]at h ⊢;simp only[Y8,JS,Gf,iP]at h ⊢;exact filter_push r l1 l2 DA.2 h
  have Pn:seen.contains a.born=false:=a8
  rw[Pn]at h ⊢;simp only[iu,L4,Y5]at h ⊢;cases l1 with
  | nil =>
   simp only[HF,WC]at h;obtain⟨rfl,h2⟩:=h;simp only[decide_true,Y8,JS,Gf,HF];rw[<-h2];refine ia fun x hx=>?_;rw[Qm];have:x.born≠a.born:=fun q=>DA.1 (q ▸ List.mem_map.2 ⟨x,hx,rfl⟩);simp[this]
  | cons b l1 =>
   simp only[JR,WC]at h;obtain⟨rfl,h2⟩:=h;have Ov:e∈r:=by
    have:e∈r.filter fun e=>!seen.contains e.born:=by
     rw[h2];simp
    exact(List.mem_filter.1 this).1
   have AT:a.born≠e.born:=fun q=>DA.1 (q ▸ List.mem_map.2 ⟨e,Ov,rfl⟩);simp only[AT,decide_false,iu,L4,JR,WC,FA];exact filter_push r l1 l2 DA.2 h2
theorem qca{P:Program}{o:Oper}{σ:St}{x:Operand}{id:Nat}{cur:Option (Value×Value)}{es:List (Value×A2)}
  (ho:o.op=.next x false) (hd:∀d,o.dst=some d->d<σ.n) (hx:σ.ev x=some (.mp id 0)) (Ex:σ.objs[id]?=some (.map (.iter cur) es)):nH P o σ (xu id σ.objs es):=by
 intro base τ a g Ax hn Er hm K Q hK;have hg:=Ax.good;have hO:g.objs=σ.objs:=Ax.objs.trans hm;obtain⟨l,o1,Gw,h1,_,ex⟩:=(Ax.eval (Er x CM _ hx)).RT;have Fz:g.objs[id]?=some (.map (.iter cur) es):=Rf
 obtain⟨l',ob,e1,CA,hh,KQ⟩:=hg.map id _ es Fz;rw[Gw]at e1;simp only[AM]at e1;subst e1;obtain⟨m,clk,last,seen,arr,rfl,hh2,Jw,hb,TA,Bt,J8,zC⟩:=KQ;have AF:=Gq hh;have put:∀(r:A2) (u:Value) (g':G),xu id σ.objs es r g'.objs->Le g g'->Good g'->RV g' r u->(execOp a.eval o).run P g.w=.ok (.value u) g'.w->o.wp P a g.w K Q:=fun r u g' hR hle EA GJ Aj=>by
  unfold Oper.wp;rw[Aj,Oper.upon_value];refine hK r u g' hR ?_;cases IS:o.dst with
  | none=>exact Ax.step hle EA
  | some d=>exact Ax.put hle EA (d:=d) j6 GJ
 rcases qan (P:=P) g.w o.type l.block m clk last seen arr hh hh2 hb TA with⟨q1,q2⟩|⟨l1,l2,e,w1,q1,p1,p2,p3,p4,q2⟩
 ·rw[q1,Ed]at J8;refine put (.Ab [.v (.bool false)]) (.tuple #[.bool false]) g (.inl ⟨J8,rfl,hO⟩) (Le.refl g) hg (.Ab rfl fun i c u hc hu=>?_) (by simp[execOp,ho,ex,q2])
  match i,hc,hu with
  | 0,hc,hu =>
   simp at hc hu;subst hc;subst hu;exact .v trivial
  | i+1,hc,hu=>simp at hc
 rw[q1,Dx,Bc]at J8;have Lm:e∈arr.toList:=by
  have:e∈arr.toList.filter fun e=>!seen.contains e.born:=by
   rw[q1];simp
  exact(List.mem_filter.1 this).1
 obtain⟨i,hi⟩:=List.mem_iff_getElem?.1 Lm;have Bo:arr[i]?=some e:=T5
 obtain⟨f1,f2⟩:=Bt i e Bo;obtain⟨w2,Qp⟩:∃w2:World,w2 = { w1 with heap:=g.w.heap.setIfInBounds l.block (.mapIter (some m) clk (seen.push e.born) clk) }:=⟨_,rfl⟩
 rw[<-Qp]at q2;have fp:w2.heap=g.w.heap.setIfInBounds l.block (.mapIter (some m) clk (seen.push e.born) clk):=by rw[Qp]
 have bI:∀k,k≠l.block->w2.heap[k]?=g.w.heap[k]?:=fun k hk=>by rw[fp];exact cw (fun e=>hk e.symm)
 have Ew:N6 g id (.map (.iter cur) es) (some l) (.map (.iter (some (e.key,e.val))) (l1.map (fun e=>(e.key,A2.v e.val))++l2.map (fun e=>(e.key,A2.v e.val)))) w2:={
  obj:=Fz
  os:=by rw[Qp];exact p2
  tape:=by rw[Qp];exact p3
  output:=by rw[Qp];exact p4
  size:=by rw[fp];simp
  block:=fun k _ hk=>bI k (fun e=>hk l Gw trivial e.symm)
  cell:=fun b off x hx _=>by
   by_cases e:b=l.block
   ·subst e;simp only[G.cell,World.cell?,hh]at hx;cases hx
   simp only[World.cell?,bI b e];exact hx
  place:=fun l1 h1 _=>by
   simp only[AM]at h1;subst h1;exact .inr ⟨l,Gw,trivial,rfl,B6 _⟩
  spare:=fun m h=>NG
  plain:=fun _=>⟨Bd,Gw⟩
  gone:=A6}
 have hle:=Le.Am hg Ew;obtain⟨s1,s2⟩:=hle.stay hh2 Jw;refine put (.Ab [.v (.bool true),.v e.key,.v e.val]) (.tuple #[.bool true,e.key,e.val]) (g.Am id (some l) (.map (.iter (some (e.key,e.val))) (l1.map (fun e=>(e.key,A2.v e.val))++l2.map (fun e=>(e.key,A2.v e.val)))) w2)
  (.inr ⟨_,_,e.key,e.val,J8,rfl,by simp only[G.Am,hO]⟩) hle (Good.Am hg Ew ?_ ?_) (.Ab rfl fun i c u hc hu=>?_) (by simp[execOp,ho,ex,q2,G.Am])
 ·refine⟨l,.mapIter (some m) clk (seen.push e.born) clk,rfl,CA,?_,?_⟩
  ·simp only[G.Am];rw[fp,iJ AF]
  show ml _ _ _ _;refine⟨m,clk,clk,seen.push e.born,arr,rfl,s1,s2,hb,fun _=>rfl,Bt,?_,fun k x hkx=>?_⟩
  ·rw[filter_push arr.toList l1 l2 (qaI hb) q1,Dx]
  simp only[AM,NB]at hkx;exact⟨i,e,Bo,A6,hkx.1,hkx.2⟩
 ·intro l1 h1 _;simp only[AM]at h1;subst h1;rw[fp];simpa using AF
 match i,hc,hu with
 | 0,hc,hu =>
  simp at hc hu;subst hc;subst hu;exact .v trivial
 | 1,hc,hu =>
  simp at hc hu;subst hc;subst hu;exact .v f1
 | 2,hc,hu =>
  simp at hc hu;subst hc;subst hu;exact .v f2
 | i+3,hc,hu=>simp at hc
end Go.Av
namespace Go.Proofs.YtjdnhamngpafmaaGreat
open Go.Av Tryz
abbrev Env:=Int->Option Int
def F8(E:Env)(v x:Int):Env:=fun w=>if w=v then some x else E w
def FL(E:Env)(v:Int):Int:=(E v).getD 0
def Fc:Env:=fun _=>none
abbrev kI(v:Int):Value:=.int .i64 v
structure G7(es:List (Value×A2))(E:Env):Prop where
 fit:∀p∈es,∃v x:Int,p=(kI v,aI x)∧Bi v∧Bi x
 nd:(es.map Prod.fst).Nodup
 look:∀v:Int,HC es (kI v)=(E v).map aI
theorem Zf(a b:Int):P8 (kI a) (kI b)=decide (a=b):=rfl
theorem tC:G7 [] Fc:=⟨fun p hp=>B3 hp A6,List.nodup_nil,fun _=>rfl⟩
theorem vU{v w x:Int}:∀{es:List (Value×A2)},(∀p∈es,∃v x:Int,p=(kI v,aI x)∧Bi v∧Bi x)->HC (Fa es (kI v) (aI x)) (kI w)=if w=v then some (aI x)else HC es (kI w)
 | [],_=>by
  simp only[Fa,HC,Zf];by_cases e:w=v
  ·subst e;simp
  have e3:¬v=w:=fun q=>e q.symm;simp[e,e3]
 | p::r,h=>by
  obtain⟨a,b,rfl,_,_⟩:=h p DQ;have ih:=vU (v:=v) (w:=w) (x:=x) (es:=r) fun q hq=>h q (Dw _ hq);simp only[Fa,Zf];by_cases e:a=v
  ·subst e;simp only[decide_true,L4,HC,Zf];by_cases e2:w=a
   ·subst e2;simp
   have e3:¬a=w:=fun q=>e2 q.symm;simp[e2,e3]
  simp only[e,decide_false,JS,Gf,HC,Zf,ih];by_cases e2:a=w
  ·subst e2;simp[e]
  simp[e2]
theorem vH{v x:Int}:∀{es:List (Value×A2)},(∀p∈es,∃v x:Int,p=(kI v,aI x)∧Bi v∧Bi x)->((Fa es (kI v) (aI x)).map Prod.fst=es.map Prod.fst∧kI v∈es.map Prod.fst)∨((Fa es (kI v) (aI x)).map Prod.fst=es.map Prod.fst++[kI v]∧kI v ∉ es.map Prod.fst)
 | [],_=>.inr ⟨rfl,A6⟩
 | p::r,h=>by
  obtain⟨a,b,rfl,_,_⟩:=h p DQ;have ih:=vH (v:=v) (x:=x) (es:=r) fun q hq=>h q (Dw _ hq);simp only[Fa,Zf];by_cases e:a=v
  ·subst e;left;simp
  simp only[e,decide_false,JS,Gf,Bc];rcases ih with⟨q1,q2⟩|⟨q1,q2⟩
  ·exact .inl ⟨by rw[q1],Dw _ q2⟩
  refine .inr ⟨by rw[q1];rfl,fun q=>?_⟩;rcases List.mem_cons.1 q with q|q
  ·injection q with _ q;exact e q.symm
  exact q2 q
theorem wP{v x:Int}:∀{es:List (Value×A2)} {p:Value×A2},p∈Fa es (kI v) (aI x)->p∈es∨p=(kI v,aI x)
 | [],p,h=>.inr (by simpa[Fa]using h)
 | q::r,p,h=>by
  obtain⟨a,b⟩:=q;rw[Fa]at h;split at h
  ·rcases List.mem_cons.1 h with e|e
   ·exact .inr e
   exact .inl (Dw _ e)
  rcases List.mem_cons.1 h with e|e
  ·exact .inl (by rw[e];exact DQ)
  rcases wP e with e|e
  ·exact .inl (Dw _ e)
  exact .inr e
variable {es:List (Value×A2)}{E:Env}
theorem G7.put(h:G7 es E){v x:Int}(hv:Bi v)(hx:Bi x):G7 (Fa es (kI v) (aI x)) (F8 E v x):=by
 refine⟨fun p hp=>?_,?_,fun w=>?_⟩
 ·rcases wP hp with q|q
  ·exact h.fit p q
  exact⟨v,x,q,hv,hx⟩
 ·rcases vH (v:=v) (x:=x) h.fit with⟨q,_⟩|⟨q,q2⟩
  ·rw[q];exact h.nd
  rw[q,Rc];refine⟨h.nd,A6,fun a ha b hb=>?_⟩;rw[Fq]at hb;subst hb;exact fun e=>q2 (e ▸ ha)
 rw[vU h.fit,h.look];unfold F8;split<;>rfl
theorem G7.mem(h:G7 es E){v x:Int}:E v=some x↔(kI v,aI x)∈es:=by
 have key:∀{l:List (Value×A2)},(∀p∈l,∃v x:Int,p=(kI v,aI x)∧Bi v∧Bi x)->(l.map Prod.fst).Nodup->(HC l (kI v)=some (aI x)↔(kI v,aI x)∈l):=fun {l}=>by
  induction l with
  | nil=>intro _ _;simp[HC]
  | cons p r ih =>
   intro hf hn;obtain⟨a,b,rfl,_,_⟩:=hf p DQ;have DA:kI a ∉ r.map Prod.fst∧(r.map Prod.fst).Nodup:=List.nodup_cons.1 hn;have ih:=ih (fun q hq=>hf q (Dw _ hq)) DA.2;simp only[HC,Zf];by_cases e:a=v
   ·subst e;simp only[decide_true,L4,AM];constructor
    ·intro q;rw[q];exact DQ
    intro q;rcases List.mem_cons.1 q with q|q
    ·exact(cv q).2.symm
    exact B3 (List.mem_map.2 ⟨_,q,rfl⟩) DA.1
   simp only[e,decide_false,JS,Gf];rw[ih];constructor
   ·exact fun q=>Dw _ q
   intro q;rcases List.mem_cons.1 q with q|q
   ·have:=(cv q).1;injection this with _ this;exact B3 this.symm e
   exact q
 rw[<-key h.fit h.nd,h.look];cases hE:E v with
 | none=>simp
 | some y=>simp
structure TJ(EP:Env)(left:List (Value×A2))(E:Env):Prop where
 fit:∀p∈left,∃v x:Int,p=(kI v,aI x)∧Bi v∧Bi x
 nd:(left.map Prod.fst).Nodup
 all:∀v x:Int,EP v=some x↔((kI v,aI x)∈left∨E v=some x)
 new:∀v x:Int,(kI v,aI x)∈left->E v=none
variable {EP:Env}
theorem TJ.start(h:G7 es EP):TJ EP es Fc :=
 ⟨h.fit,h.nd,fun v x=>by rw[h.mem];simp[Fc],fun _ _ _=>rfl⟩
theorem TJ.step{l1 l2:List (Value×A2)}{k x:Value}(h:TJ EP (l1++(k,.v x)::l2) E):∃v y:Int,k=kI v∧x=kI y∧Bi v∧Bi y∧TJ EP (l1++l2) (F8 E v y):=by
 obtain⟨v,y,e,hv,hy⟩:=h.fit (k,.v x) A6;obtain⟨rfl,e2⟩:=cv e;obtain rfl:x=kI y:=by injection e2
 have HS:∀p,p∈l1++l2->p∈l1++(kI v,A2.v (kI y))::l2:=fun p hp=>by
  rcases List.mem_append.1 hp with q|q
  ·exact UQ _ q
  exact YB _ (Dw _ q)
 have Ic:=h.nd;rw[Dx,Bc]at Ic;have Qx:∀z,(kI v,z) ∉ l1++l2:=fun z hz=>by
  have hp:=List.perm_middle (a:=kI v) (l₁:=l1.map Prod.fst) (l₂:=l2.map Prod.fst);have:=List.nodup_cons.1 (hp.nodup_iff.1 Ic);rw[<-Dx]at this;exact this.1 (List.mem_map.2 ⟨_,hz,rfl⟩)
 refine⟨v,y,rfl,rfl,hv,hy,fun p hp=>h.fit p (HS p hp),?_,fun w z=>?_,fun w z hw=>?_⟩
 ·have hp:=List.perm_middle (a:=kI v) (l₁:=l1.map Prod.fst) (l₂:=l2.map Prod.fst);have:=List.nodup_cons.1 (hp.nodup_iff.1 Ic);rw[Dx];exact this.2
 ·rw[h.all];unfold F8;constructor
  ·rintro(q|q)
   ·rcases List.mem_append.1 q with q|q
    ·exact .inl (UQ _ q)
    rcases List.mem_cons.1 q with q|q
    ·obtain⟨q1,q2⟩:=cv q;injection q1 with _ q1;injection q2 with q2;injection q2 with _ q2;right;rw[A9 q1,q2]
    exact .inl (YB _ q)
   by_cases e:w=v
   ·subst e;have:=h.new w y A6;rw[this]at q;cases q
   right;rw[A4 e];exact q
  rintro(q|q)
  ·exact .inl (HS _ q)
  split at q
  ·rename_i e;rw[AM]at q;subst e;subst q;left;simp
  exact .inr q
 have AT:w≠v:=fun e=>by
  subst e;exact Qx _ hw
 unfold F8;rw[A4 AT];exact h.new w z (HS _ hw)
theorem TJ.done(h:TJ EP [] E):E=EP:=by
 funext v
 cases hE:EP v with
 | none =>
  cases h2:E v with
  | none=>rfl
  | some x =>
   have:=(h.all v x).2 (.inr h2);rw[hE]at this;cases this
 | some x =>
  rcases(h.all v x).1 hE with q|q
  ·cases q
  exact q
def DF(E:Env)(nx:Int):List Int->Env
 | []=>E
 | v::r=>DF (F8 E v nx) (nx+1) r
def C4:Env->Int->List Ins->Env×Int×List Ins
 | E,nx,[]=>(E,nx,[])
 | E,nx,i::r=>if i.op=100 then C4 (F8 E i.to ((i.args.map (FL E)).headD 0)) nx r
  else
   let q:=C4 (F8 E i.to nx) (nx+1) r
   (q.1,q.2.1,⟨nx,i.op,i.n,i.args.map (FL E)⟩::q.2.2)
def wC(g:Func)(ord:List Int)(inn:List (List Int))(N:List (List Bool))(nx:Int)(OB EN n:Nat):List A2 :=
 [aI g.name,AR g.blocks,AA ord,.A3 1 (inn.map AA) .sh,.A3 1 (N.map eG) .sh,aI nx,aI g.name,.ms OB 0 n n,.ms EN 0 n n]
variable {O:List A8}{g:Func}{ord:List Int}{inn:List (List Int)}{N:List (List Bool)}{nx:Int}{n:Nat}
theorem s9{W OB EN:Nat}(hW:O[W]?=some (.cells (wC g ord inn N nx OB EN n)))(hn:0<=nx∧nx<=2 ^ 40) :
  Aq prog 107 O [.mp W 0] (fun r O'=>r=aI nx∧O'=O.set W (.cells (wC g ord inn N (nx+1) OB EN n))):=by
 have hWn:(O.set W (.cells (wC g ord inn N (nx+1) OB EN n)))[W]?=some (.cells (wC g ord inn N (nx+1) OB EN n)):=Wh hW;unfold wC at hW hWn ⊢;have hx:nx+1-1=nx:=I
 refine U5 hT func107 rfl CW (by simp[ntmps107]) ?_;show AU prog _ _ _ ⟨15,_,_⟩;refine Cw ?_;refine QS hW ?_;refine L6 hWn hx ?_;refine F3 ?_;simp -dsimp only[simprocAttr,↓AG,zp,Sf,results107,JG,Mq,Hl,RE,RG,RF]
def Ey(g:Func)(ord:List Int)(inn:List (List Int))(N:List (List Bool))(nx:Int)(n:Nat)(C A:List A2):List A8 :=
 [.gone,.cells [aI 0,.A3 7 [] .ex],.gone,.gone,.gone,.cells C,.cells A,.cells (wC g ord inn N nx 5 6 n)]
variable {i:Nat}{C:List A2}{x:A2}
theorem UC(h:AQ n C)(hx:x.upto n):AQ n (C.set i x):=by
 rw[CF]at h ⊢;intro d hd;rcases KE hd with q|q
 ·exact h d q
 rw[q];exact hx
theorem G7.upto(h:G7 es E)(n:Nat):My n es:=by
 rw[Zj];intro p hp;obtain⟨v,x,rfl,_⟩:=h.fit p hp;trivial
variable {A:List A2}
theorem fQ{m:Nat}(hC:AQ m C)(hA:AQ 0 A)(hm:8<=m):∀o∈Ey g ord inn N nx n C A,o.upto m:=by
 intro o ho;simp only[Ey,CL,GG,Di]at ho;rcases ho with rfl|rfl|rfl|rfl|rfl|rfl|rfl|rfl
 ·trivial
 ·exact aU
 ·trivial
 ·trivial
 ·trivial
 ·exact hC
 ·exact P1 (H4 _) _ hA
 exact⟨trivial,⟨Block.AX _ _,trivial⟩,⟨BU _ _,trivial⟩,⟨gj _ _,trivial⟩,⟨cP _ _,trivial⟩,trivial,trivial,show 5<m from I,show 6<m from I,trivial⟩
def CB(C:List A2)(k:Nat)(ps:List Int)(is:List Ins):List A2:=(C.set (k*7) (AA ps)).set (k*7+1) (.A3 4 (is.map Ins.enc) (.tok 9))
variable {k:Nat}
theorem fh(hC:AQ 0 C)(hA:AQ 0 A)(x:Int)(es:List (Value×A2))(E:Env)(y:List Int)(z:List Ins)(hE:G7 es E):∀o∈Ey g ord inn N x n (CB C k y z) A++[.map (.int .i64) es,.spare z.length],o.upto 10:=fun o ho=>by
 rcases List.mem_append.1 ho with q|q
 ·exact fQ (UC (UC (P1 (H4 _) _ hC) (show A2.upto 10 (AA y) from⟨BU _ _,trivial⟩)) (show A2.upto 10 (.A3 4 (z.map Ins.enc) (.tok 9)) from⟨Ins.AX _ _,EW⟩)) hA I o q
 simp only[CL,GG,Di]at q;rcases q with rfl|rfl
 ·exact hE.upto 10
 trivial
structure Bx where
 v:Nat
 es:List (Value×A2)
def Cu(n:Int)(k:Nat):List Int:=(List.range k).map fun i:Nat=>n+(i:Int)
theorem sx(n:Int)(k:Nat):Cu n (k+1)=Cu n k++[n+(k:Int)]:=by
 unfold Cu;rw[Zu,Dx];rfl
theorem Q2(n:Int)(k:Nat):(Cu n k).length=k:=by unfold Cu;rw[BE,N7]
theorem kf:∀(l:List Int) (E:Env) (nx v:Int),DF E nx (l++[v])=F8 (DF E nx l) v (nx+l.length)
 | [],E,nx,v=>by simp[DF]
 | a::r,E,nx,v=>by
  simp only[JR,DF,CE];rw[kf r];congr 1;omega
variable {s:List Bool}{v:Nat}
theorem se{is:Bool}(h:s[v]?=some is)(n:Nat):DC n (s.take (v+1))=DC n (s.take v)++if is=true then [((n+v:Nat):Int)]else []:=by
 induction s generalizing v n with
 | nil=>simp at h
 | cons a r ih =>
  cases v with
  | zero =>
   obtain rfl:a=is:=Aa
   cases a<;>simp[DC]
  | succ v =>
   have:=ih (v:=v) Aa (n+1);simp only[Ra,DC];rw[this,show n+1+v=n+(v+1) from I];cases a<;>simp
theorem RI(h:∀d∈C,d.scalar)(hx:x.scalar):∀d∈C.set i x,d.scalar:=fun d hd=>by
 rcases KE hd with q|q
 ·exact h d q
 rw[q];exact hx
theorem lU{y:A2}(h:i<C.length->Sub O x y):∀(j:Nat) (c d:A2),(C.set i x)[j]?=some c->(C.set i y)[j]?=some d->Sub O c d:=fun j c d hc hd=>by
 rw[FD]at hc hd;split at hc
 ·rename_i e;rw[A9 e]at hd;split at hc
  ·rename_i e2;rw[A9 e2]at hd;rw[AM]at hc hd;rw[<-hc,<-hd];exact h e2
  cases hc
 rename_i e;rw[A4 e,hc,AM]at hd;rw[hd];exact Wa
theorem hZ(h:G7 es E)(v x:Int)(hv:Bi v)(hx:Bi x):HC (Fa es (.int .i64 v) (.v (.int .i64 x))) (.int .i64 v)=some (.v (.int .i64 x)):=by
 have:=(h.put hv hx).look v;unfold F8 at this;rw[A9 rfl]at this;exact Cd
variable {many:Nat}
theorem qd3{is:List Int}(R2:AQ 0 C)(R1:AQ 0 A)
  (hn:0<=nx∧nx<=2 ^ 30) (hC:C.length=n*7) (VU:∀d∈C,d.scalar) (hk:k<n) (Ln:k≠0) (ID:C[k*7]?=some (.A3 1 [] .ex)) (Dp:C[k*7+1]?=some (.A3 4 [] .ex)) (hs:N[k]?=some s) (EH:s.length=many) (SS:many<=4096) (hi:inn[k]?=some is) (Fv:is.length≠1) (qos:is.length<=2 ^ 30) (yE:n<=128) :
  Aq prog 106 (Ey g ord inn N nx n C A) [.mp 7 0,aI k] (fun r O'=>∃es,r=.mm 8∧G7 es (DF Fc nx (DC 0 s)) ∧
   O'=Ey g ord inn N (nx+(DC 0 s).length) n (CB C k (Cu nx (DC 0 s).length) []) A++[.map (.int .i64) es,.spare 0]):=by
 have Ij:decide ((k:Int)=0)=false:=Ac I;have BN:decide ((is.length:Int)=1)=false:=Ac I;have XT:(inn.map AA)[k]?=some (AA is):=jR
 have hsg:(N.map eG)[k]?=some (.A3 1 (s.map eB) .sh):=qX
 obtain⟨D,hD⟩:∃D,D=C.set (k*7+1) (.A3 4 [] (.tok 9)):=⟨_,rfl⟩
 have hDl:D.length=n*7:=by rw[hD,B2,hC]
 have hD0:D[k*7]?=some (.A3 1 [] .ex):=abk
 have hDs:∀d∈D,d.scalar:=aau
 have hDC:∀y,D.set (k*7) (AA y)=CB C k y []:=fun y=>by
  rw[hD];unfold CB;rw[Y7 _ _ I];rfl
 have hk7:k*7<D.length:=I
 have Lk:∀x:A2,(D.set (k*7) x)[k*7]?=some x:=fun x=>Bb hk7;have B8:∀x:A2,(D.set (k*7) x).length=n*7:=fun x=>by rw[B2,hDl]
 have El:∀x y:A2,As (D.set (k*7) x) (k*7) [y]=D.set (k*7) y:=fun x y=>by
  rw[LK _ (by rw[B2];exact hk7),Hr]
 have B0:∀(x:Int) (C':List A2) (X:List A8),0<=x∧x<=2 ^ 40->Aq prog 107 (Ey g ord inn N x n C' A++X) [.mp 7 0] (fun r O'=>r=aI x∧O'=Ey g ord inn N (x+1) n C' A++X):=fun x C' X hx=>s9 rfl hx;have VJ:∀v,(DC 0 (s.take v)).length<=4096:=fun v=>by
  have h1:=Xk (s.take v) 0;have h2:=PC (p:=id) (l:=s.take v);rw[Dy]at h2;omega
 have VF:=fun(x:Int) (es:List (Value×A2)) (E:Env) (y:List Int) (hE:G7 es E)=>fh (g:=g) (ord:=ord) (inn:=inn) (N:=N) (n:=n) (k:=k) R2 R1 x es E y [] hE;unfold Ey wC at B0 VF ⊢;have Bh:8<=10:=I
 refine rK ?_;refine DR Ij ?_;apply AZ rfl<;>intro h
 ·cases h
 refine B9 ?_;refine aa XT BN ?_
 refine D1 ?_;apply AZ rfl<;>intro h
 ·cases h
 refine B9 ?_;refine kK hsg ?_
 refine D1 ?_;refine No 5 (k*7+1) rfl Dp ?_;simp -dsimp only[simprocAttr,↓AG,zp,<-hD];refine No 5 (k*7) rfl hD0 ?_;refine BL ?_;refine Al (BZ (ι:={X:Bx // X.v<=s.length∧G7 X.es (DF Fc nx (DC 0 (s.take X.v)))}) (fun X=>⟨186,[(0,.mp 7 0),(1,aI k),(5,.mm 8),(23,.A3 1 (s.map eB) .sh),(24,aI s.length),(25,aI X.1.v)],[.gone,.cells [aI 0,.A3 7 [] .ex],.gone,.gone,.gone,.cells (D.set (k*7) (.A3 1 ((Cu nx (DC 0 (s.take X.1.v)).length).map aI) (.tok 10))),.cells A,.cells [aI g.name,AR g.blocks,AA ord,.A3 1 (inn.map AA) .sh,.A3 1 (N.map eG) .sh,aI (nx+((DC 0 (s.take X.1.v)).length:Int)),aI g.name,.ms 5 0 n n,.ms 6 0 n n],.map (.int .i64) X.1.es,.spare 0,.spare (DC 0 (s.take X.1.v)).length]⟩) (fun X=>s.length-X.1.v) ⟨⟨0,[]⟩,H4 _,tC⟩ ?_ ?_)
 ·refine C6 ?_
  all_goals (simp[DC,Cu];done)
 rintro⟨⟨v,es⟩,hv,hE⟩;simp only at hv hE;refine C3 (fun h=>?_) (fun h=>?_)
 ·refine Az ?_;have MX:v<s.length:=Aa
  obtain⟨b,hb⟩:∃b,s[v]?=some b:=⟨s[v],jf⟩
  have Tj:(s.map eB)[v]?=some (.v (.bool b)):=qW
  have BA:=se hb 0;rw[Db]at BA;have Pg:=VJ v;refine DR Tj ?_;cases b with
  | true =>
   rw[A9 rfl]at BA;have KP:(DC 0 (s.take (v+1))).length=(DC 0 (s.take v)).length+1:=by rw[BA,Bf];rfl
   have LD:DF Fc nx (DC 0 (s.take (v+1)))=F8 (DF Fc nx (DC 0 (s.take v))) (v:Int) (nx+(DC 0 (s.take v)).length):=by rw[BA,kf]
   have PI:=sx nx (DC 0 (s.take v)).length;generalize qle:(DC 0 (s.take v)).length=c at *;have XR:Bi (v:Int):=Rg
   have Qt:Bi (nx+(c:Int)):=Rg
   have VX:=hE.put XR Qt;have LG:=hZ hE (v:Int) (nx+(c:Int)) XR Qt;rw[<-LD]at VX;have V2:=B0 (nx+(c:Int)) (D.set (k*7) (.A3 1 ((Cu nx c).map aI) (.tok 10))) [.map (.int .i64) es,.spare 0,.spare c] I;have JC:((Cu nx c).map aI).length=c:=by rw[BE,Q2]
   have II:(Cu nx c).map aI++[aI (nx+(c:Int))]=(Cu nx (c+1)).map aI:=by rw[PI,Dx];rfl
   refine Cc ?_;refine FF ?_;refine jo ?_;refine Ak ?_;refine Dn ?_;simp -dsimp only[simprocAttr,↓AG,zp,Lk,LG,JC,El,II,B8,Fp,BH,HW]
   refine Gv ?_;refine Bw ?_;refine⟨⟨⟨v+1,Fa es (.int .i64 v) (.v (.int .i64 (nx+c)))⟩,MX,VX⟩,Ai,?_⟩;dsimp only;rw[KP];have cB:nx+((c+1:Nat):Int)=nx+(c:Int)+1:=I
   rw[cB];refine Ba ?_ ?_
   ·exact BY
   rfl
  | false =>
   rw[A4 EW,F9]at BA;refine AJ (fun h=>?_) (fun h=>?_)
   ·cases h
   refine H2 ?_;refine Bw ?_;refine⟨⟨⟨v+1,es⟩,MX,aaP⟩,Ai,?_⟩;dsimp only;rw[BA];refine Ba ?_ ?_
   ·exact BY
   rfl
 refine BO ?_;have Tg:s.length<=v:=Aa
 rw[Cb Tg]at hE ⊢;have M9:=hDC (Cu nx (DC 0 s).length);refine Lz (cs:=D.set (k*7) (.A3 1 ((Cu nx (DC 0 s).length).map aI) (.tok 10))) 5 (D.set (k*7) (AA (Cu nx (DC 0 s).length))) rfl (by rw[B2,B2]) (RI hDs trivial) (lU fun _=>Sub.sh rfl) ?_;refine Gi M9 ?_;refine rO ?_;exact⟨VF _ es _ _ hE,es,hE,rfl⟩
structure By where
 left:List (Value×A2)
 cur:Option (Value×Value)
 es:List (Value×A2)
 E:Env
theorem qgJ{y:A2}(hx:C[i]?=some x)(h:Sub O x y):∀(j:Nat) (c d:A2),C[j]?=some c->(C.set i y)[j]?=some d->Sub O c d:=fun j c d hc hd=>by
 rw[FD]at hd;split at hd
 ·rename_i e;subst e;split at hd
  ·rw[hx,AM]at hc;rw[AM]at hd;rw[<-hc,<-hd];exact h
  cases hd
 rw[hc,AM]at hd;rw[<-hd];exact Wa
theorem qeE{p:Int}{eP:List (Value×A2)}(R2:AQ 0 C)(R1:AQ 0 A)
  (hC:C.length=n*7) (VU:∀d∈C,d.scalar) (ID:C[k*7]?=some (.A3 1 [] .ex)) (Dp:C[k*7+1]?=some (.A3 4 [] .ex)) (hk:k<n) (Ln:k≠0) (hi:inn[k]?=some [p]) (hp:0<=p∧p<n) (hA:A[p.toNat]?=some (.im (.int .i64) eP)) (Mf:A.length=n) (hE:G7 eP EP) (yE:n<=128) :
  Aq prog 106 (Ey g ord inn N nx n C A) [.mp 7 0,aI k] (fun r O'=>∃es,r=.mm 8∧G7 es EP∧O'=Ey g ord inn N nx n (CB C k [] []) A++[.map (.int .i64) es,.spare 0]):=by
 have Ij:decide ((k:Int)=0)=false:=Ac I;have XT:(inn.map AA)[k]?=some (AA [p]):=jR
 have qoa:∀q∈eP,Mu q.1∧∃y,q.2=.v y:=fun q hq=>by
  obtain⟨v,x,rfl,hv,_⟩:=hE.fit q hq;exact⟨hv,_,rfl⟩
 have VF:=fun(es:List (Value×A2)) (E:Env) (hE:G7 es E)=>fh (g:=g) (ord:=ord) (inn:=inn) (N:=N) (n:=n) (k:=k) R2 R1 nx es E [] [] hE;obtain⟨D,hD⟩:∃D,D=C.set (k*7+1) (.A3 4 [] (.tok 9)):=⟨_,rfl⟩
 have hk7:k*7<C.length:=I
 have hDs:∀d∈D,d.scalar:=aau
 have hD0:D[k*7]?=some (.A3 1 [] .ex):=abk
 have hDC:D.set (k*7) (AA [])=CB C k [] []:=by
  rw[hD];unfold CB;rw[Y7 _ _ I];rfl
 unfold Ey wC at VF ⊢;have Bh:8<=10:=I
 refine rK ?_;refine DR Ij ?_;apply AZ rfl<;>intro h
 ·cases h
 refine B9 ?_;refine kK XT ?_
 refine D1 ?_;refine FF ?_;refine No 5 (k*7+1) rfl Dp ?_;simp -dsimp only[simprocAttr,↓AG,zp,<-hD];refine B9 ?_;refine aa XT hA ?_
 refine Gv ?_;refine Al (BZ (ι:={X:By // TJ EP X.left X.E∧G7 X.es X.E}) (fun X=>⟨186,[(0,.mp 7 0),(1,aI k),(5,.mm 8),(176,.mp 10 0)],[.gone,.cells [aI 0,.A3 7 [] .ex],.gone,.gone,.gone,.cells D,.cells A,.cells [aI g.name,AR g.blocks,AA ord,.A3 1 (inn.map AA) .sh,.A3 1 (N.map eG) .sh,aI nx,aI g.name,.ms 5 0 n n,.ms 6 0 n n],.map (.int .i64) X.1.es,.spare 0,.map (.iter X.1.cur) X.1.left]⟩) (fun X=>X.1.left.length) ⟨⟨eP,none,[],Fc⟩,TJ.start hE,tC⟩ ?_ ?_)
 ·refine C6 ?_
  all_goals rfl
 rintro⟨⟨left,cur,es,E⟩,hI,hEs⟩;simp only at hI hEs;refine DW (cN ⟨false,false⟩ hT 0 rfl rfl rfl A6 ?_);refine BL ?_;refine⟨_,qca rfl A6 rfl rfl,fun r O' hR=>?_⟩;rcases hR with⟨h1,h2,h3⟩|⟨l1,l2,kk,x,h1,h2,h3⟩
 ·subst h1;subst h2;subst h3;have hEP:=hI.done;subst hEP;refine Ki ?_;refine zu1 rfl ?_;refine BO ?_;refine Lz (cs:=D) 5 (D.set (k*7) (AA [])) rfl (by rw[B2]) (RI hDs trivial) (qgJ hD0 (Sub.sh rfl)) ?_;refine Gi hDC ?_;refine rO ?_;exact⟨VF _ _ hEs,es,hEs,rfl⟩
 subst h1;obtain⟨v,y,rfl,rfl,hv,hy,hI2⟩:=hI.step;have LD:=hEs.put hv hy;subst h2;subst h3;refine Ki ?_;refine zw1 rfl ?_;refine Az ?_;refine Al ?_;refine Cc ?_;refine HA (zl1 ?_);refine⟨⟨⟨l1++l2,some (kI v,kI y),Fa es (kI v) (aI y),F8 E v y⟩,hI2,LD⟩,A6,?_⟩;refine C6 ?_
 all_goals rfl
def sI(x:Int):Ins:=⟨x,0,0,[]⟩
def H9(E:Env)(s:List Bool)(v:Nat):List Int:=(DC 0 (s.take v)).filter fun w=>(E w).isNone
theorem wm:∀(l:List Int) (E:Env) (nx w:Int),w ∉ l->DF E nx l w=E w
 | [],_,_,_,_=>rfl
 | a::r,E,nx,w,h=>by
  rw[DF,wm r _ _ _ (fun q=>h (Dw _ q))];unfold F8;rw[A4 (show ¬w=a from fun q=>h (by rw[q];exact DQ))]
theorem qkv:(v:Int) ∉ H9 E s v:=fun h=>by
 have h1:=(List.mem_filter.1 h).1;obtain⟨j,hj,e⟩:=kW _ _ h1;have:=hj.lt;rw[Dy]at this;omega
theorem qiC{is:Bool}(h:s[v]?=some is):H9 E s (v+1)=H9 E s v++if(is&&(E (v:Int)).isNone)=true then [(v:Int)]else []:=by
 unfold H9;rw[se h 0,UT,Db];congr 1;cases is with
 | true =>
  simp only[L4,PA];cases hE:(E (v:Int)).isNone<;>simp[hE]
 | false=>simp
theorem mO(E:Env)(s:List Bool)(v:Nat):(H9 E s v).length<=s.length:=by
 have h1:=Xk (s.take v) 0;have h2:=PC (p:=id) (l:=s.take v);have h3:=cz (fun w=>(E w).isNone) (DC 0 (s.take v));rw[Dy]at h2;unfold H9;omega
theorem qd4{b0:Block}(R2:AQ 0 C)(R1:AQ 0 A)
  (hn:0<=nx∧nx<=2 ^ 30) (hC:C.length=n*7) (VU:∀d∈C,d.scalar) (Il:0<n) (ID:C[0]?=some (.A3 1 [] .ex)) (Dp:C[1]?=some (.A3 4 [] .ex)) (hs:N[0]?=some s) (EH:s.length=many) (SS:many<=4096) (hb0:g.blocks[0]?=some b0) (IH:b0.params.length<=4096) (Gn:∀v∈b0.params,Bi v) (yE:n<=128) :
  Aq prog 106 (Ey g ord inn N nx n C A) [.mp 7 0,aI 0] (fun r O'=>∃es,r=.mm 8∧G7 es (DF (DF Fc nx b0.params) (nx+b0.params.length) (H9 (DF Fc nx b0.params) s s.length)) ∧
   O'=Ey g ord inn N (nx+b0.params.length+(H9 (DF Fc nx b0.params) s s.length).length) n (CB C 0 (Cu nx b0.params.length) ((Cu (nx+b0.params.length) (H9 (DF Fc nx b0.params) s s.length).length).map sI)) A++[.map (.int .i64) es,.spare (H9 (DF Fc nx b0.params) s s.length).length]):=by
 have hsg:(N.map eG)[0]?=some (.A3 1 (s.map eB) .sh):=qX
 have Qw:0<C.length:=I
 have KP:1<C.length:=I
 have Qu:∀x y:A2,((C.set 0 x).set 1 y)[0]?=some x:=fun x y=>by rw[Ap EW,Bb Qw]
 have DJ:∀x y:A2,((C.set 0 x).set 1 y)[1]?=some y:=fun x y=>Bb (by simpa using KP);have qlV:∀x y:A2,(C.set 1 x).set 0 y=(C.set 0 y).set 1 x:=fun x y=>Y7 _ _ EW;have B8:∀x y:A2,((C.set 0 x).set 1 y).length=n*7:=fun x y=>by rw[B2,B2,hC]
 have Oe:∀x y z:A2,As ((C.set 0 x).set 1 y) 0 [z]=(C.set 0 z).set 1 y:=fun x y z=>by
  rw[LK _ (by simpa using Qw),Y7 _ _ EW,Hr]
 have Mm:∀x y z:A2,As ((C.set 0 x).set 1 y) 1 [z]=(C.set 0 x).set 1 z:=fun x y z=>by
  rw[LK _ (by simpa using KP),Hr]
 have B0:∀(x:Int) (C':List A2) (X:List A8),0<=x∧x<=2 ^ 40->Aq prog 107 (Ey g ord inn N x n C' A++X) [.mp 7 0] (fun r O'=>r=aI x∧O'=Ey g ord inn N (x+1) n C' A++X):=fun x C' X hx=>s9 rfl hx;have VF:=fun(x:Int) (es:List (Value×A2)) (E:Env) (y:List Int) (z:List Ins) (hE:G7 es E)=>fh (g:=g) (ord:=ord) (inn:=inn) (N:=N) (n:=n) (k:=0) R2 R1 x es E y z hE;obtain⟨E1,SK⟩:∃E1,E1=DF Fc nx b0.params:=⟨_,rfl⟩
 obtain⟨np,hnp⟩:∃np,np=b0.params.length:=⟨_,rfl⟩
 obtain⟨n1,F7⟩:∃n1,n1=nx+(np:Int):=⟨_,rfl⟩
 rw[<-SK,<-hnp,<-F7];rw[<-hnp]at IH;unfold Ey wC at B0 VF ⊢;have Bh:8<=10:=I
 refine rK ?_;refine DW (Al ?_);refine AJ (fun h=>?_) (fun h=>?_)
 ·refine No 5 1 rfl Dp ?_;refine BL ?_;refine No 5 0 rfl (by rw[Ap EW];exact ID) ?_;refine Gi qlV ?_;refine Ej ?_;refine PG hb0 ?_;refine Al (BZ (ι:={X:Bx // X.v<=np∧G7 X.es (DF Fc nx (b0.params.take X.v))}) (fun X=>⟨186,[(0,.mp 7 0),(1,aI 0),(5,.mm 8),(69,AA b0.params),(70,aI np),(71,aI X.1.v)],[.gone,.cells [aI 0,.A3 7 [] .ex],.gone,.gone,.gone,.cells ((C.set 0 (.A3 1 ((Cu nx X.1.v).map aI) (.tok 10))).set 1 (.A3 4 ([]) (.tok 9))),.cells A,.cells [aI g.name,AR g.blocks,AA ord,.A3 1 (inn.map AA) .sh,.A3 1 (N.map eG) .sh,aI (nx+(X.1.v:Int)),aI g.name,.ms 5 0 n n,.ms 6 0 n n],.map (.int .i64) X.1.es,.spare 0,.spare (X.1.v)]⟩) (fun X=>np-X.1.v) ⟨⟨0,[]⟩,H4 _,tC⟩ ?_ ?_)
  ·refine Ba ?_ ?_
   all_goals first|(simp[Cu];done)|(rw[hnp];exact Sub.refl _)
  rintro⟨⟨v,es⟩,hv,hE⟩;simp only at hv hE;refine C3 (fun h=>?_) (fun h=>?_)
  ·refine Az ?_;have MX:v<np:=Aa
   obtain⟨p,hp⟩:∃p,b0.params[v]?=some p:=⟨b0.params[v]' I,AY _⟩
   have hpf:=Gn p (AK hp);have LD:DF Fc nx (b0.params.take (v+1))=F8 (DF Fc nx (b0.params.take v)) p (nx+(v:Int)):=by
    rw[Fs,hp,pP,kf,Dy,show min v b0.params.length=v from I]
   have PI:=sx nx v;have Qt:Bi (nx+(v:Int)):=Rg
   have VX:=hE.put hpf Qt;have LG:=hZ hE p (nx+(v:Int)) hpf Qt;rw[<-LD]at VX;have V2:=B0 (nx+(v:Int)) ((C.set 0 (.A3 1 ((Cu nx v).map aI) (.tok 10))).set 1 (.A3 4 [] (.tok 9))) [.map (.int .i64) es,.spare 0,.spare v] I;have JC:((Cu nx v).map aI).length=v:=by rw[BE,Q2]
   have II:(Cu nx v).map aI++[aI (nx+(v:Int))]=(Cu nx (v+1)).map aI:=by rw[PI,Dx];rfl
   refine DR hp ?_;refine jo ?_;refine Ak ?_;refine Dn ?_;simp -dsimp only[simprocAttr,↓AG,zp,Qu,LG,JC,Oe,II,B8,Fp,BH,HW]
   refine Gv ?_;refine Bw ?_;refine⟨⟨⟨v+1,Fa es (.int .i64 p) (.v (.int .i64 (nx+v)))⟩,MX,VX⟩,Ai,?_⟩;dsimp only;have cB:nx+((v+1:Nat):Int)=nx+(v:Int)+1:=I
   rw[cB];refine Ba ?_ ?_
   ·exact BY
   rfl
  refine BO ?_;have Tg:v=np:=YJ
  subst Tg;rw[Cb I,<-SK]at hE;have IY:=mO E1 s;rw[<-F7];refine QS hsg ?_;refine Al (BZ (ι:={X:Bx // X.v<=s.length∧G7 X.es (DF E1 n1 (H9 E1 s X.v))}) (fun X=>⟨186,[(0,.mp 7 0),(1,aI 0),(5,.mm 8),(105,.A3 1 (s.map eB) .sh),(106,aI s.length),(107,aI X.1.v)],[.gone,.cells [aI 0,.A3 7 [] .ex],.gone,.gone,.gone,.cells ((C.set 0 (.A3 1 ((Cu nx v).map aI) (.tok 10))).set 1 (.A3 4 (((Cu n1 (H9 E1 s X.1.v).length).map sI).map Ins.enc) (.tok 9))),.cells A,.cells [aI g.name,AR g.blocks,AA ord,.A3 1 (inn.map AA) .sh,.A3 1 (N.map eG) .sh,aI (n1+((H9 E1 s X.1.v).length:Int)),aI g.name,.ms 5 0 n n,.ms 6 0 n n],.map (.int .i64) X.1.es,.spare ((H9 E1 s X.1.v).length),.spare v]⟩) (fun X=>s.length-X.1.v) ⟨⟨0,es⟩,H4 _,hE⟩ ?_ ?_)
  ·refine C6 ?_
   all_goals (simp[Cu,H9,DC];done)
  rintro⟨⟨w,es⟩,hw,hE⟩;simp only at hw hE;refine C3 (fun h=>?_) (fun h=>?_)
  ·refine Az ?_;have TU:w<s.length:=Aa
   obtain⟨b,hb⟩:∃b,s[w]?=some b:=⟨s[w],by simp[TU]⟩
   have Tj:(s.map eB)[w]?=some (.v (.bool b)):=qW
   have BA:=qiC (E:=E1) hb;have XA:=hE.look (w:Int);rw[wm _ _ _ _ qkv]at XA;have hzw:=IY w;refine DR Tj ?_;cases hEw:E1 (w:Int)with
   | some y =>
    rw[hEw]at BA XA;have hf:(b&&(some y).isNone)=false:=A6
    rw[hf,A4 EW,F9]at BA;cases b with
    | true =>
     refine Ch XA ?_;refine AJ (fun h=>?_) (fun h=>?_)
     ·cases h
     refine rW ?_;rw[BA];refine Ba ?_ ?_
     ·exact BY
     rfl
    | false =>
     refine Ch XA ?_;refine AJ (fun h=>?_) (fun h=>?_)
     ·cases h
     refine rW ?_;rw[BA];refine Ba ?_ ?_
     ·exact BY
     rfl
   | none =>
    rw[hEw]at BA XA;cases b with
    | false =>
     rw[A4 EW,F9]at BA;refine Ch XA ?_;refine AJ (fun h=>?_) (fun h=>?_)
     ·cases h
     refine rW ?_;rw[BA];refine Ba ?_ ?_
     ·exact BY
     rfl
    | true =>
     rw[A9 CX]at BA;have KP:(H9 E1 s (w+1)).length=(H9 E1 s w).length+1:=by rw[BA,Bf];rfl
     have LD:DF E1 n1 (H9 E1 s (w+1))=F8 (DF E1 n1 (H9 E1 s w)) (w:Int) (n1+(H9 E1 s w).length):=by rw[BA,kf]
     have PI:=sx n1 (H9 E1 s w).length;generalize qle:(H9 E1 s w).length=c at *;have XR:Bi (w:Int):=Rg
     have Qt:Bi (n1+(c:Int)):=Rg
     have VX:=hE.put XR Qt;have LG:=hZ hE (w:Int) (n1+(c:Int)) XR Qt;rw[<-LD]at VX;have V2:=B0 (n1+(c:Int)) ((C.set 0 (.A3 1 ((Cu nx v).map aI) (.tok 10))).set 1 (.A3 4 (((Cu n1 c).map sI).map Ins.enc) (.tok 9))) [.map (.int .i64) es,.spare c,.spare v] I;have JC:(((Cu n1 c).map sI).map Ins.enc).length=c:=by rw[BE,BE,Q2]
     have II:((Cu n1 c).map sI).map Ins.enc++[.agg [aI (n1+(c:Int)),aI 0,aI 0,.A3 1 [] .sh]]=((Cu n1 (c+1)).map sI).map Ins.enc:=by rw[PI,Dx,Dx];rfl
     refine Ch XA ?_;refine Cc ?_;refine FF ?_;refine jo ?_;refine Ak ?_;refine Dn ?_;simp -dsimp only[simprocAttr,↓AG,zp,Qu,DJ,LG,JC,Mm,II,B8,Fp,BH,HW]
     refine Gv ?_;refine Bw ?_;refine⟨⟨⟨w+1,Fa es (.int .i64 w) (.v (.int .i64 (n1+c)))⟩,TU,VX⟩,Ai,?_⟩;dsimp only;rw[KP];have cB:n1+((c+1:Nat):Int)=n1+(c:Int)+1:=I
     rw[cB];refine Ba ?_ ?_
     ·exact BY
     rfl
  refine BO ?_;have Vt:w=s.length:=YJ
  subst Vt;obtain⟨c,SN⟩:∃c,c=(H9 E1 s s.length).length:=⟨_,rfl⟩
  rw[<-SN];have hzc:((Cu n1 c).map sI).length=c:=by rw[BE,Q2]
  refine Lz (cs:=(C.set 0 (.A3 1 ((Cu nx v).map aI) (.tok 10))).set 1 (.A3 4 (((Cu n1 c).map sI).map Ins.enc) (.tok 9))) 5 ((C.set 0 (AA (Cu nx v))).set 1 (.A3 4 (((Cu n1 c).map sI).map Ins.enc) (.tok 9))) rfl qE (RI (RI VU trivial) trivial) (by rw[Y7 _ _ EW,Y7 (AA _) _ EW];exact lU fun _=>Sub.sh rfl) ?_;refine BL ?_;refine rO ?_;have AN:=VF (n1+(c:Int)) es _ (Cu nx v) ((Cu n1 c).map sI) hE;rw[hzc]at AN;exact⟨AN,es,hE,rfl⟩
 cases h
theorem tD(h:G7 es E)(v:Int):(HC es (.int .i64 v)).getD ([A2.v (.int .i64 0)].getD 0 (.v (.bool false)))=aI (FL E v):=by
 have:=h.look v;rw[show HC es (.int .i64 v)=(E v).map aI from this];unfold FL;cases E v<;>rfl
theorem qgI(h:G7 es E)(v:Int):Bi (FL E v):=by
 unfold FL;cases hE:E v with
 | none=>unfold Bi;simp
 | some x =>
  obtain⟨a,b,e,_,hf⟩:=h.fit _ (h.mem.1 hE);obtain⟨_,e⟩:=cv e;injection e with e;injection e with _ e;simpa[e]using hf
def QT(E:Env)(t:Term):Int:=if IL t=true then FL E t.arg else 0
def BB(C:List A2)(k:Nat)(ps:List Int)(is:List Ins)(t:Term)(arg:Int):List A2 :=
 As ((C.set (k*7) (AA ps)).set (k*7+1) (B7 is)) (k*7+2) [aI t.kind,aI arg,aI t.n,AA t.cases,.A3 2 [] .ex]
variable {ps:List Int}
theorem xq{is:List Ins}{t:Term}{arg:Int}(hC:AQ 0 C):AQ 0 (BB C k ps is t arg):=by
 have h:=UC (i:=k*7+1) (x:=B7 is) (UC (i:=k*7) (x:=AA ps) hC (show A2.upto 0 (AA ps) from⟨BU _ _,trivial⟩)) (show A2.upto 0 (B7 is) from⟨Ins.AX _ _,trivial⟩);rw[CF]at h ⊢;intro x hx;unfold BB As at hx;rcases List.mem_append.1 hx with q|q
 ·exact h x (KF q)
 rcases List.mem_append.1 q with q|q
 ·simp only[CL,GG,Di]at q;rcases q with rfl|rfl|rfl|rfl|rfl
  ·trivial
  ·trivial
  ·trivial
  ·exact ai
  exact s6
 exact h x (N9 q)
theorem qe2{is:List Ins}{t:Term}{arg:Int}(hC:∀d∈C,d.scalar):∀d∈BB C k ps is t arg,d.scalar:=by
 have h:=RI (i:=k*7+1) (x:=B7 is) (RI (i:=k*7) (x:=AA ps) hC trivial) trivial;intro x hx;unfold BB As at hx;rcases List.mem_append.1 hx with q|q
 ·exact h x (KF q)
 rcases List.mem_append.1 q with q|q
 ·simp only[CL,GG,Di]at q;rcases q with rfl|rfl|rfl|rfl|rfl<;>trivial
 exact h x (N9 q)
structure Bz where
 m:Nat
 es:List (Value×A2)
 E:Env
 nx:Int
 is:List Ins
variable {b:Block}
theorem qcF{Oy:Int}{S9:List Ins}{E0:Env}(R2:AQ 0 C)(R1:AQ 0 A)
  (hw:GfW g many) (hC:C.length=n*7) (hA:A.length=n) (VU:∀d∈C,d.scalar) (hk:k<n) (hn:n<=128) (hb:g.blocks[k]?=some b) (B8:b.term.cases.length<=4096)
  (Jq:∀i∈b.ins,i.op=100->i.args.length=1) (Od:0<=Oy∧Oy<=2 ^ 31) (Fv:S9.length<=4096)
  (Tj:Aq prog 106 (Ey g ord inn N nx n C A) [.mp 7 0,aI k] (fun r O'=>∃es,r=.mm 8∧G7 es E0∧O'=Ey g ord inn N Oy n (CB C k ps S9) A++[.map (.int .i64) es,.spare S9.length])) :
  Aq prog 73 (Ey g ord inn N nx n C A) [.mp 7 0,aI k] (fun r O'=>r=.Ab []∧∃es,G7 es (C4 E0 Oy b.ins).1 ∧
   O'=Ey g ord inn N (C4 E0 Oy b.ins).2.1 n (BB C k ps (S9++(C4 E0 Oy b.ins).2.2) b.term (QT (C4 E0 Oy b.ins).1 b.term)) (A.set k (.im (.int .i64) es))):=by
 obtain⟨hib,hia⟩:=hw.ins b (AK hb);obtain⟨q,hq⟩:∃q,q=C4 E0 Oy b.ins:=⟨_,rfl⟩
 obtain⟨E',nx',is'⟩:=q;rw[<-hq];have hk7:k*7<C.length:=I
 have Mk:k*7+1<C.length:=I
 have DJ:∀x y:A2,((C.set (k*7) x).set (k*7+1) y)[k*7+1]?=some y:=fun x y=>Bb (by simpa using Mk);have IG:∀x y:A2,((C.set (k*7) x).set (k*7+1) y).length=n*7:=fun x y=>by rw[B2,B2,hC]
 have Mm:∀x y z:A2,As ((C.set (k*7) x).set (k*7+1) y) (k*7+1) [z]=(C.set (k*7) x).set (k*7+1) z:=fun x y z=>by
  rw[LK _ (by simpa using Mk),Hr]
 have B0:∀(x:Int) (C':List A2) (X:List A8),0<=x∧x<=2 ^ 40->Aq prog 107 (Ey g ord inn N x n C' A++X) [.mp 7 0] (fun r O'=>r=aI x∧O'=Ey g ord inn N (x+1) n C' A++X):=fun x C' X hx=>s9 rfl hx;have ZB:=fun(x:Int) (es:List (Value×A2)) (E:Env) (z:List Ins) (hE:G7 es E)=>fh (g:=g) (ord:=ord) (inn:=inn) (N:=N) (n:=n) (k:=k) R2 R1 x es E ps z hE;unfold Ey wC at B0 ZB Tj;unfold CB at ZB Tj;unfold Ey wC;have Bh:8<=8:=I
 refine Ly hT true (8) func73 rfl CW (by simp[ntmps73]) I8 ?_;show AU prog _ _ _ ⟨130,_,_⟩;refine MM ?_;refine DW (cN ⟨false,false⟩ hT 2 rfl rfl rfl A6 ?_);refine BL ?_;refine⟨_,ZS rfl A6 rfl rfl Tj,fun r O' hR=>?_⟩;obtain⟨es,hr,hE,hO⟩:=hR;subst hr;subst hO;refine Ki ?_;refine QS hb ?_;refine Cz 5 10 (.ip none [AA b.params,B7 b.ins,aI b.term.kind,aI b.term.arg,aI b.term.n,AA b.term.cases,An b.term.to]) rfl Bd trivial rfl ?_ ?_;rotate_left;refine BL ?_;rotate_left
 ·exact Be
 refine Ei 10 [(0,.mp 7 0),(1,aI k),(4,.mm 8),(5,.ip none [AA b.params,B7 b.ins,aI b.term.kind,aI b.term.arg,aI b.term.n,AA b.term.cases,An b.term.to])] A6 I [.gone,.cells [aI 0,.A3 7 [] .ex],.gone,.gone,.gone,.cells ((C.set (k*7) (AA ps)).set (k*7+1) (.A3 4 (S9.map Ins.enc) (.tok 9))),.cells A,.cells [aI g.name,AR g.blocks,AA ord,.A3 1 (inn.map AA) .sh,.A3 1 (N.map eG) .sh,aI Oy,aI g.name,.ms 5 0 n n,.ms 6 0 n n],.map (.int .i64) es,.spare S9.length] ?_ ?_ ?_ ?_ ?_
 ·rfl
 ·exact ZB Oy es E0 S9 hE
 ·exact Es
 ·exact I9
 refine BF ?_;obtain⟨IF,VJ⟩:∃IF,IF=b.ins.length:=⟨_,rfl⟩
 refine Al (BZ (ι:={X:Bz // X.m<=IF∧G7 X.es X.E∧(∃rest,C4 X.E X.nx (b.ins.drop X.m)=(E',nx',rest)∧X.is++rest=S9++is')∧Oy<=X.nx∧X.nx<=Oy+X.m∧X.is.length<=S9.length+X.m}) (fun X=>⟨130,[(0,.mp 7 0),(1,aI k),(4,.mm 8),(5,.ip none [AA b.params,B7 b.ins,aI b.term.kind,aI b.term.arg,aI b.term.n,AA b.term.cases,An b.term.to]),(25,B7 b.ins),(26,aI IF),(27,aI X.1.m)],[.gone,.cells [aI 0,.A3 7 [] .ex],.gone,.gone,.gone,.cells ((C.set (k*7) (AA ps)).set (k*7+1) (.A3 4 (X.1.is.map Ins.enc) (.tok 9))),.cells A,.cells [aI g.name,AR g.blocks,AA ord,.A3 1 (inn.map AA) .sh,.A3 1 (N.map eG) .sh,aI X.1.nx,aI g.name,.ms 5 0 n n,.ms 6 0 n n],.map (.int .i64) X.1.es,.spare X.1.is.length]⟩) (fun X=>IF-X.1.m) ⟨⟨0,es,E0,Oy,S9⟩,H4 _,hE,⟨is',by rw[I7];exact hq.symm,rfl⟩,OK _,A6,A6⟩ ?_ ?_)
 ·refine Ba ?_ ?_
  all_goals first|rfl|(rw[VJ];exact Sub.refl _)
 clear hE;clear es;rintro⟨⟨m,es,E,x,is⟩,BX,hE,⟨rest,D3,c8⟩,Pt,KU,yh⟩;simp only at BX hE D3 c8 Pt KU yh;refine C3 (fun h=>?_) (fun h=>?_)
 ·refine Az ?_;have hlm:m<IF:=Aa
  obtain⟨i,hi⟩:∃i,b.ins[m]?=some i:=⟨b.ins[m]' I,AY _⟩
  obtain⟨NZ,Na,hi3⟩:=hia i (AK hi);rw[D9 hi]at D3;simp only[C4]at D3;obtain⟨ys,JE⟩:∃ys,ys=i.args.map (FL E):=⟨_,rfl⟩
  have qmh:ys.length=i.args.length:=by rw[JE,BE]
  rw[<-JE]at D3;refine DR hi ?_;refine Cz 7 10 (.ip none [aI i.to,aI i.op,aI i.n,AA i.args]) rfl Bd trivial rfl ?_ ?_;rotate_left;refine BL ?_;rotate_left
  ·exact Be
  refine Ei 10 [(0,.mp 7 0),(1,aI k),(4,.mm 8),(5,.ip none [AA b.params,B7 b.ins,aI b.term.kind,aI b.term.arg,aI b.term.n,AA b.term.cases,An b.term.to]),(25,B7 b.ins),(26,aI IF),(27,aI m),(7,.ip none [aI i.to,aI i.op,aI i.n,AA i.args])] A6 I [.gone,.cells [aI 0,.A3 7 [] .ex],.gone,.gone,.gone,.cells ((C.set (k*7) (AA ps)).set (k*7+1) (.A3 4 (is.map Ins.enc) (.tok 9))),.cells A,.cells [aI g.name,AR g.blocks,AA ord,.A3 1 (inn.map AA) .sh,.A3 1 (N.map eG) .sh,aI x,aI g.name,.ms 5 0 n n,.ms 6 0 n n],.map (.int .i64) es,.spare is.length] ?_ ?_ ?_ ?_ ?_
  ·rfl
  ·exact ZB x es E is hE
  ·exact Es
  ·exact I9
  refine Cc ?_;refine lW 8 rfl ?_;refine Ur ?_;refine Al (BZ (ι:={z:Nat // z<=i.args.length}) (fun z=>⟨130,[(0,.mp 7 0),(1,aI k),(4,.mm 8),(5,.ip none [AA b.params,B7 b.ins,aI b.term.kind,aI b.term.arg,aI b.term.n,AA b.term.cases,An b.term.to]),(25,B7 b.ins),(26,aI IF),(27,aI m),(7,.ip none [aI i.to,aI i.op,aI i.n,AA i.args]),(8,.A3 1 ((ys.take z.1).map aI) (.tok 10)),(32,AA i.args),(33,aI i.args.length),(34,aI z.1)],[.gone,.cells [aI 0,.A3 7 [] .ex],.gone,.gone,.gone,.cells ((C.set (k*7) (AA ps)).set (k*7+1) (.A3 4 (is.map Ins.enc) (.tok 9))),.cells A,.cells [aI g.name,AR g.blocks,AA ord,.A3 1 (inn.map AA) .sh,.A3 1 (N.map eG) .sh,aI x,aI g.name,.ms 5 0 n n,.ms 6 0 n n],.map (.int .i64) es,.spare is.length,.spare z.1]⟩) (fun z=>i.args.length-z.1) ⟨0,H4 _⟩ ?_ ?_)
  ·refine C6 ?_
   all_goals rfl
  rintro⟨z,hz⟩;refine C3 (fun h=>?_) (fun h=>?_)
  ·refine Az ?_;have IA:z<i.args.length:=Aa
   obtain⟨v,hv⟩:∃v,i.args[z]?=some v:=⟨i.args[z],Uh⟩
   have hyt:(ys.take (z+1)).map aI=(ys.take z).map aI++[aI (FL E v)]:=by
    rw[Fs,JE,Bv,hv];simp
   have hyl:((ys.take z).map aI).length=z:=dM
   have Vi:=tD hE v;refine DR hv ?_;refine Dn ?_;simp -dsimp only[simprocAttr,↓AG,zp,Vi,hyl,<-hyt]
   refine ak ?_;refine⟨⟨z+1,IA⟩,Ai,?_⟩;dsimp only;refine Ba ?_ ?_
   ·exact BY
   rfl
  refine BO ?_;have Oz:i.args.length<=z:=Aa
  rw[Cb I];by_cases DG:i.op=100
  ·have d100:decide (i.op=100)=true:=Ar DG;rw[A9 DG]at D3;have KP:=Jq i (AK hi) DG;have hy0:(ys.map aI)[0]?=some (aI (ys.headD 0)):=by
    match ys,qmh with
    | [],q=>rw[KP]at q;cases q
    | y::r,_=>rfl
   refine Ej ?_;simp -dsimp only[simprocAttr,↓AG,zp,d100];refine Ak ?_;refine FF ?_;refine NJ hy0 ?_
   refine Gv ?_;refine BO ?_;have hfy:Bi (ys.headD 0):=by
    cases ys with
    | nil=>unfold Bi;simp
    | cons y r =>
     obtain⟨v,_,e⟩:=List.mem_map.1 (JE ▸ DQ:y∈i.args.map (FL E));rw[<-e];exact qgI hE v
   have hft:Bi i.to:=by
    have:=NZ;have:=hw.SI;unfold Ob at *;unfold Bi;omega
   have LD:=hE.put hft hfy;have EC:=ZB x _ _ is LD;refine Ei 10 [(0,.mp 7 0),(1,aI k),(4,.mm 8),(5,.ip none [AA b.params,B7 b.ins,aI b.term.kind,aI b.term.arg,aI b.term.n,AA b.term.cases,An b.term.to]),(25,B7 b.ins),(26,aI IF),(27,aI m)] A6 I [.gone,.cells [aI 0,.A3 7 [] .ex],.gone,.gone,.gone,.cells ((C.set (k*7) (AA ps)).set (k*7+1) (.A3 4 (is.map Ins.enc) (.tok 9))),.cells A,.cells [aI g.name,AR g.blocks,AA ord,.A3 1 (inn.map AA) .sh,.A3 1 (N.map eG) .sh,aI x,aI g.name,.ms 5 0 n n,.ms 6 0 n n],.map (.int .i64) (Fa es (.int .i64 i.to) (.v (.int .i64 (ys.headD 0)))),.spare is.length] ?_ ?_ ?_ ?_ ?_
   ·rfl
   ·exact EC
   ·exact Es
   ·exact I9
   refine Bw ?_;refine⟨⟨⟨m+1,_,_,x,is⟩,hlm,LD,⟨rest,D3,c8⟩,Pt,D6,D6⟩,Ai,?_⟩;dsimp only;refine Ba ?_ ?_
   ·exact BY
   rfl
  have d100:decide (i.op=100)=false:=Ac DG;rw[A4 DG]at D3;refine Ej ?_;simp -dsimp only[simprocAttr,↓AG,zp,d100];refine ML ?_;have V2:=B0 x ((C.set (k*7) (AA ps)).set (k*7+1) (.A3 4 (is.map Ins.enc) (.tok 9))) [.map (.int .i64) es,.spare is.length,.spare z] I;refine jo ?_;refine Gj ?_;have Qt:Bi x:=Rg
  have hft:Bi i.to:=by
   have:=NZ;have:=hw.SI;unfold Ob at *;unfold Bi;omega
  have LD:=hE.put hft Qt;have LG:=hZ hE i.to x hft Qt;have JC:(is.map Ins.enc).length=is.length:=BE _;have II:is.map Ins.enc++[.agg [aI x,aI i.op,aI i.n,.A3 1 (ys.map aI) .sh]]=(is++[(⟨x,i.op,i.n,ys⟩:Ins)]).map Ins.enc:=by rw[Dx];rfl
  have EC:=ZB (x+1) _ _ (is++[(⟨x,i.op,i.n,ys⟩:Ins)]) LD;rw[Bf]at EC;refine Dn ?_;simp -dsimp only[simprocAttr,↓AG,zp,DJ,LG,JC,Mm,II,IG,Fp,BH,HW]
  refine Gv ?_;refine Ei 10 [(0,.mp 7 0),(1,aI k),(4,.mm 8),(5,.ip none [AA b.params,B7 b.ins,aI b.term.kind,aI b.term.arg,aI b.term.n,AA b.term.cases,An b.term.to]),(25,B7 b.ins),(26,aI IF),(27,aI m)] A6 I [.gone,.cells [aI 0,.A3 7 [] .ex],.gone,.gone,.gone,.cells ((C.set (k*7) (AA ps)).set (k*7+1) (.A3 4 ((is++[(⟨x,i.op,i.n,ys⟩:Ins)]).map Ins.enc) (.tok 9))),.cells A,.cells [aI g.name,AR g.blocks,AA ord,.A3 1 (inn.map AA) .sh,.A3 1 (N.map eG) .sh,aI (x+1),aI g.name,.ms 5 0 n n,.ms 6 0 n n],.map (.int .i64) (Fa es (.int .i64 i.to) (.v (.int .i64 x))),.spare (is.length+1)] ?_ ?_ ?_ ?_ ?_
  ·rfl
  ·exact EC
  ·exact Es
  ·exact I9
  refine Bw ?_;refine⟨⟨⟨m+1,_,_,x+1,is++[(⟨x,i.op,i.n,ys⟩:Ins)]⟩,hlm,LD,⟨(C4 (F8 E i.to x) (x+1) (b.ins.drop (m+1))).2.2,?_,?_⟩,D6,D6,Ai⟩,Ai,?_⟩
  ·simp only[NB]at D3;obtain⟨h1,h2,_⟩:=D3;show C4 (F8 E i.to x) (x+1) (b.ins.drop (m+1))=_;rw[<-h1,<-h2]
  ·simp only[NB]at D3;simp only[Ez,aa2,D3.2.2,c8]
  dsimp only;rw[Bf,IU];refine Ba ?_ ?_
  ·exact BY
  rfl
 refine BO ?_;have hmm:m=IF:=YJ
 subst hmm;rw[KD I]at D3;simp only[C4,NB]at D3;obtain⟨e1,e2,e3⟩:=D3;subst e1;subst e2;subst e3;rw[F9]at c8;rw[<-c8];have oB:=sU b.term.cases I;have Vi:=tD hE b.term.arg;refine BM ?_;refine .inl ⟨_,oB,aaG,B4 ?_⟩;refine BL ?_;refine Gj ?_;refine LO (⟨130,[(0,.mp 7 0),(1,aI k),(4,.mm 8),(11,.mp 10 0)],[.gone,.cells [aI 0,.A3 7 [] .ex],.gone,.gone,.gone,.cells ((C.set (k*7) (AA ps)).set (k*7+1) (.A3 4 (is.map Ins.enc) (.tok 9))),.cells A,.cells [aI g.name,AR g.blocks,AA ord,.A3 1 (inn.map AA) .sh,.A3 1 (N.map eG) .sh,aI x,aI g.name,.ms 5 0 n n,.ms 6 0 n n],.map (.int .i64) es,.spare is.length,.cells [aI b.term.kind,aI (QT E b.term),aI b.term.n,AA b.term.cases,.A3 2 [] .ex]]⟩) ?_ ?_
 ·obtain⟨uk,Te⟩:∃uk,uk=IL b.term:=⟨_,rfl⟩
  unfold QT;rw[<-Te];by_cases k1:b.term.kind=1
  ·have d1:decide (b.term.kind=1)=true:=Ar k1;have hu:uk=false:=by rw[Te];simp[IL,k1]
   rw[hu,A4 EW];refine Ch d1 ?_;refine PD ?_
   all_goals rfl
  have d1:decide (b.term.kind=1)=false:=Ac k1;by_cases k4:b.term.kind=4
  ·have d4:decide (b.term.kind=4)=true:=Ar k4;have hu:uk=false:=by rw[Te];simp[IL,k4]
   rw[hu,A4 EW];refine Jm d1 d4 ?_;refine PD ?_
   all_goals rfl
  have d4:decide (b.term.kind=4)=false:=Ac k4;have hu:uk=true:=by rw[Te];simp[IL,k1,k4]
  rw[hu,A9 rfl];refine Jm d1 d4 ?_;refine FF ?_;refine RJ hT hm ?_;refine Gi Vi ?_;refine Yc ?_
  all_goals rfl
 refine Lz (cs:=(C.set (k*7) (AA ps)).set (k*7+1) (.A3 4 (is.map Ins.enc) (.tok 9))) 5 ((C.set (k*7) (AA ps)).set (k*7+1) (B7 is)) rfl qE (RI (RI VU trivial) trivial) (lU fun _=>Sub.sh rfl) ?_;refine BL ?_;refine B9 ?_;refine kK IG ?_
 refine Gv ?_;refine Cz 4 8 (.im (.int .i64) es) rfl Bd trivial rfl (Eh.mm rfl) ?_;refine BL ?_;have hpA:∀y:A2,As A k [y]=A.set k y:=fun y=>LK y I;have bx:=fQ (g:=g) (ord:=ord) (inn:=inn) (N:=N) (nx:=x) (n:=n) (m:=8) (P1 (H4 _) _ (xq (k:=k) (ps:=ps) (is:=is) (t:=b.term) (arg:=QT E b.term) R2)) (UC (i:=k) (x:=.im (.int .i64) es) R1 (hE.upto 0)) (B6 _);unfold Ey wC at bx;refine Dn ?_;refine aa hA hpA ?_
 refine Ef ?_
 refine Ga ?_;simp -dsimp only[simprocAttr,↓AG,zp,zr,results73];exact⟨bx,trivial,es,hE,rfl⟩
def NS(inn:List (List Int))(N:List (List Bool))(E:Env)(e:Edge):Edge :=
 ⟨e.block,if 1<(inn.getD e.block.toNat []).length then(DC 0 (N.getD e.block.toNat [])).map (FL E)else []⟩
theorem qcG(R2:AQ 0 C)(R1:AQ 0 A)
  (hw:GfW g many) (hC:C.length=n*7) (hA:A.length=n) (VU:∀d∈C,d.scalar) (hk:k<n) (hn:n<=128) (hgn:g.blocks.length=n) (hb:g.blocks[k]?=some b)
  (Fv:inn.length=n) (hNl:N.length=n) (hNr:∀s∈N,s.length<=4096) (hir:∀l∈inn,l.length<=2 ^ 30) (hak:A[k]?=some (.im (.int .i64) es)) (hE:G7 es E) (hc6:C[k*7+6]?=some (.A3 2 [] .ex)) :
  Aq prog 74 (Ey g ord inn N nx n C A) [.mp 7 0,aI k] (fun r O'=>r=.Ab []∧O'=Ey g ord inn N nx n (C.set (k*7+6) (An (b.term.to.map (NS inn N E)))) A):=by
 obtain⟨CI,hte⟩:=hw.to b (AK hb);obtain⟨T,hT'⟩:∃T,T=b.term.to.map (NS inn N E):=⟨_,rfl⟩
 have Ti:T.length=b.term.to.length:=by rw[hT',BE]
 have qlW:∀(z:Nat) e,b.term.to[z]?=some e->T[z]?=some (NS inn N E e):=fun z e he=>by
  rw[hT',Bv,he];rfl
 rw[<-hT'];clear hT';have hk6:k*7+6<C.length:=I
 have hg6:∀x:A2,(C.set (k*7+6) x)[k*7+6]?=some x:=fun x=>Bb hk6;have IG:∀x:A2,(C.set (k*7+6) x).length=n*7:=fun x=>by rw[B2,hC]
 have hp6:∀x z:A2,As (C.set (k*7+6) x) (k*7+6) [z]=C.set (k*7+6) z:=fun x z=>by
  rw[LK _ (by simpa using hk6),Hr]
 have oZ:∀(l:List Edge),∀o∈Ey g ord inn N nx n (C.set (k*7+6) (.A3 2 (l.map Edge.enc) (.tok 8))) A++[.spare l.length],o.upto 9:=fun l o ho=>by
  rcases List.mem_append.1 ho with q|q
  ·exact fQ (UC (P1 (H4 _) _ R2) (show A2.upto 9 (.A3 2 (l.map Edge.enc) (.tok 8)) from⟨Edge.AX _ _,EW⟩)) R1 I o q
  rw[List.mem_singleton.1 q];trivial
 have bx:=fQ (g:=g) (ord:=ord) (inn:=inn) (N:=N) (nx:=nx) (n:=n) (m:=8) (P1 (H4 _) _ (UC (i:=k*7+6) (x:=An T) R2 (show A2.upto 0 (An T) from⟨Edge.AX _ _,trivial⟩))) R1 (B6 _);unfold Ey wC at oZ bx ⊢;have Bh:8<=8:=I
 refine Ly hT true (8) func74 rfl CW (by simp[ntmps74]) I8 ?_;show AU prog _ _ _ ⟨92,_,_⟩;refine MM ?_;refine No 5 (k*7+6) rfl hc6 ?_;refine BL ?_;refine QS hb ?_;obtain⟨IF,VJ⟩:∃IF,IF=b.term.to.length:=⟨_,rfl⟩
 refine Al (BZ (ι:={z:Nat // z<=IF}) (fun z=>⟨92,[(0,.mp 7 0),(1,aI k),(19,An b.term.to),(20,aI IF),(21,aI z.1)],[.gone,.cells [aI 0,.A3 7 [] .ex],.gone,.gone,.gone,.cells (C.set (k*7+6) (.A3 2 ((T.take z.1).map Edge.enc) (.tok 8))),.cells A,.cells [aI g.name,AR g.blocks,AA ord,.A3 1 (inn.map AA) .sh,.A3 1 (N.map eG) .sh,aI nx,aI g.name,.ms 5 0 n n,.ms 6 0 n n],.spare z.1]⟩) (fun z=>IF-z.1) ⟨0,H4 _⟩ ?_ ?_)
 ·refine Ba ?_ ?_
  all_goals first|rfl|(rw[VJ];exact Sub.refl _)
 rintro⟨z,hz⟩;refine C3 (fun h=>?_) (fun h=>?_)
 ·refine Az ?_;have IA:z<IF:=Aa
  obtain⟨e,he⟩:∃e,b.term.to[z]?=some e:=⟨b.term.to[z]' I,AY _⟩
  obtain⟨Gw,NY,he3⟩:=hte e (AK he);obtain⟨j,hj⟩:∃j:Nat,e.block=(j:Int):=⟨e.block.toNat,I⟩
  obtain⟨is,hi⟩:∃is,inn[j]?=some is:=⟨inn[j]' I,AY _⟩
  obtain⟨s,hs⟩:∃s,N[j]?=some s:=⟨N[j]' I,AY _⟩
  have EH:=hNr s (AK hs);have yh:=hir is (AK hi);have XT:(inn.map AA)[j]?=some (AA is):=jR
  have hsg:(N.map eG)[j]?=some (.A3 1 (s.map eB) .sh):=qX
  obtain⟨ys,JE⟩:∃ys,ys=if 1<is.length then(DC 0 s).map (FL E)else []:=⟨_,rfl⟩
  have hed:NS inn N E e=⟨(j:Int),ys⟩:=by
   rw[JE];unfold NS;rw[hj,BH,KC,KC,hi,hs];rfl
  have BA:(T.take (z+1)).map Edge.enc=(T.take z).map Edge.enc++[.agg [aI (j:Int),.A3 1 (ys.map aI) .sh]]:=by
   rw[Fs,qlW z e he,hed,Dx];rfl
  have bw:((T.take z).map Edge.enc).length=z:=dM
  have Dl:=oZ (T.take z);have EC:=oZ (T.take (z+1));rw[show(T.take z).length=z from NF]at Dl;rw[show(T.take (z+1)).length=z+1 from NF]at EC;generalize (T.take z).map Edge.enc=TZ at *;refine DR he ?_;refine Cz 5 9 (.ip none [aI e.block,AA e.args]) rfl Bd trivial rfl ?_ ?_;rotate_left;refine BL ?_;rotate_left
  ·exact Be
  refine Ei 9 [(0,.mp 7 0),(1,aI k),(19,An b.term.to),(20,aI IF),(21,aI z),(5,.ip none [aI e.block,AA e.args])] A6 I [.gone,.cells [aI 0,.A3 7 [] .ex],.gone,.gone,.gone,.cells (C.set (k*7+6) (.A3 2 TZ (.tok 8))),.cells A,.cells [aI g.name,AR g.blocks,AA ord,.A3 1 (inn.map AA) .sh,.A3 1 (N.map eG) .sh,aI nx,aI g.name,.ms 5 0 n n,.ms 6 0 n n],.spare z] ?_ ?_ ?_ ?_ ?_
  ·rfl
  ·exact Dl
  ·exact Es
  ·exact I9
  refine Ch hj ?_;refine No 9 1 rfl rfl ?_;refine BL ?_;refine LO (⟨92,[(0,.mp 7 0),(1,aI k),(19,An b.term.to),(20,aI IF),(21,aI z),(6,.mp 9 0)],[.gone,.cells [aI 0,.A3 7 [] .ex],.gone,.gone,.gone,.cells (C.set (k*7+6) (.A3 2 TZ (.tok 8))),.cells A,.cells [aI g.name,AR g.blocks,AA ord,.A3 1 (inn.map AA) .sh,.A3 1 (N.map eG) .sh,aI nx,aI g.name,.ms 5 0 n n,.ms 6 0 n n],.spare z,.cells [aI j,.A3 1 (ys.map aI) (.tok 10)],.spare ys.length]⟩) ?_ ?_
  ·by_cases hq:1<is.length
   ·have d:decide ((1:Int)<is.length)=true:=Ar I;rw[A9 hq]at JE;refine B9 ?_;simp -dsimp only[simprocAttr,↓AG,zp,hj,XT,d,BH,HW]
    refine Gv ?_;apply AZ rfl<;>intro h
    ·refine B9 ?_;refine aa hj hsg ?_
     refine Gv ?_;refine Al (BZ (ι:={v:Nat // v<=s.length}) (fun v=>⟨92,[(0,.mp 7 0),(1,aI k),(19,An b.term.to),(20,aI IF),(21,aI z),(6,.mp 9 0),(46,.A3 1 (s.map eB) .sh),(47,aI s.length),(48,aI v.1)],[.gone,.cells [aI 0,.A3 7 [] .ex],.gone,.gone,.gone,.cells (C.set (k*7+6) (.A3 2 TZ (.tok 8))),.cells A,.cells [aI g.name,AR g.blocks,AA ord,.A3 1 (inn.map AA) .sh,.A3 1 (N.map eG) .sh,aI nx,aI g.name,.ms 5 0 n n,.ms 6 0 n n],.spare z,.cells [aI j,.A3 1 (((DC 0 (s.take v.1)).map (FL E)).map aI) (.tok 10)],.spare (DC 0 (s.take v.1)).length]⟩) (fun v=>s.length-v.1) ⟨0,H4 _⟩ ?_ ?_)
     ·refine C6 ?_
      all_goals rfl
     rintro⟨v,hv⟩;refine C3 (fun h=>?_) (fun h=>?_)
     ·refine Az ?_;have MX:v<s.length:=Aa
      obtain⟨c,hc⟩:∃c,s[v]?=some c:=⟨s[v],jf⟩
      have Tj:(s.map eB)[v]?=some (.v (.bool c)):=by rw[Bv,hc];rfl
      have htq:=se hc 0;rw[Db]at htq;have Pg:(DC 0 (s.take v)).length<=4096:=by
       have h1:=Xk (s.take v) 0;have h2:=PC (p:=id) (l:=s.take v);rw[Dy]at h2;omega
      refine DR Tj ?_;cases c with
      | true =>
       rw[A9 rfl]at htq;have KP:(DC 0 (s.take (v+1))).length=(DC 0 (s.take v)).length+1:=by rw[htq,Bf];rfl
       have II:((DC 0 (s.take v)).map (FL E)).map aI++[aI (FL E (v:Int))]=((DC 0 (s.take (v+1))).map (FL E)).map aI:=by rw[htq];simp
       have JC:(((DC 0 (s.take v)).map (FL E)).map aI).length=(DC 0 (s.take v)).length:=A6
       have Vi:=tD hE (v:Int);refine Cc ?_;refine FF ?_;refine Dn ?_;simp -dsimp only[simprocAttr,↓AG,zp,hak,Vi,JC,II,hA,BH,HW]
       refine Gv ?_;refine Bw ?_;refine⟨⟨v+1,MX⟩,Ai,?_⟩;dsimp only;rw[KP];refine Ba ?_ ?_
       ·exact BY
       rfl
      | false =>
       rw[A4 EW,F9]at htq;refine AJ (fun h=>?_) (fun h=>?_)
       ·cases h
       refine H2 ?_;refine Bw ?_;refine⟨⟨v+1,MX⟩,Ai,?_⟩;dsimp only;rw[htq];refine Ba ?_ ?_
       ·exact BY
       rfl
     refine BO ?_;have Tg:s.length<=v:=Aa
     rw[Cb Tg];rw[JE];show Hy _ _;refine C6 ?_
     all_goals (simp;done)
    cases h
   have d:decide ((1:Int)<is.length)=false:=Ac I;rw[A4 hq]at JE;subst JE;refine B9 ?_;simp -dsimp only[simprocAttr,↓AG,zp,hj,XT,d,BH,HW]
   refine Gv ?_;refine PD ?_
   all_goals rfl
  refine Dn ?_;simp -dsimp only[simprocAttr,↓AG,zp,hg6,bw,IG,hp6,<-BA,BH,HW]
  refine Gv ?_;rw[BA]at EC ⊢;refine Ei 9 [(0,.mp 7 0),(1,aI k),(19,An b.term.to),(20,aI IF),(21,aI z)] A6 I [.gone,.cells [aI 0,.A3 7 [] .ex],.gone,.gone,.gone,.cells (C.set (k*7+6) (.A3 2 (TZ++[.agg [aI (j:Int),.A3 1 (ys.map aI) .sh]]) (.tok 8))),.cells A,.cells [aI g.name,AR g.blocks,AA ord,.A3 1 (inn.map AA) .sh,.A3 1 (N.map eG) .sh,aI nx,aI g.name,.ms 5 0 n n,.ms 6 0 n n],.spare (z+1)] ?_ ?_ ?_ ?_ ?_
  ·rfl
  ·exact EC
  ·exact Es
  ·exact I9
  refine Bw ?_;refine⟨⟨z+1,IA⟩,Ai,?_⟩;dsimp only;rw[BA];refine Ba ?_ ?_
  ·exact BY
  rfl
 have Oz:IF<=z:=Aa
 rw[Cb I];refine Lz (cs:=C.set (k*7+6) (.A3 2 (T.map Edge.enc) (.tok 8))) 5 (C.set (k*7+6) (An T)) rfl qE (RI VU trivial) (lU fun _=>Sub.sh rfl) ?_;refine BL ?_;refine BO ?_
 skip
 simp -dsimp only[simprocAttr,↓AG,zp,zr,results74];exact⟨bx,trivial⟩
def Bp(f:Func):Func:=⟨f.name,(DP (BT f)).map fun k=>Dq (A7 f k) (A7 (Bj (BT f)) (DZ (BT f) k)).term.to⟩
def Fh(m v:Int):Int:=max m (v+1)
def N0(m:Int)(i:Ins):Int:=i.args.foldl Fh (Fh m i.to)
def Kw(m:Int)(b:Block):Int:=b.ins.foldl N0 (b.params.foldl Fh (Fh m b.term.arg))
def N1(f:Func):Int:=f.blocks.foldl Kw 0
structure Ws where
 nx:Int
 B:Nat->Option Block
 EE:Nat->Env
structure Wb where
 E:Env
 nx:Int
 ps:List Int
 is:List Ins
section
variable (g:Func) (inn:List (List Int)) (N:List (List Bool))
def Cl(k:Nat)(S:Ws):Wb :=
 if k=0 then
  ⟨DF (DF Fc S.nx (A7 g 0).params) (S.nx+(A7 g 0).params.length) (H9 (DF Fc S.nx (A7 g 0).params) (N.getD 0 []) (N.getD 0 []).length),
   S.nx+(A7 g 0).params.length+(H9 (DF Fc S.nx (A7 g 0).params) (N.getD 0 []) (N.getD 0 []).length).length,
   Cu S.nx (A7 g 0).params.length,
   (Cu (S.nx+(A7 g 0).params.length) (H9 (DF Fc S.nx (A7 g 0).params) (N.getD 0 []) (N.getD 0 []).length).length).map sI⟩
 else if(inn.getD k []).length=1 then⟨S.EE ((inn.getD k []).headD 0).toNat,S.nx,[],[]⟩
 else⟨DF Fc S.nx (DC 0 (N.getD k [])),S.nx+(DC 0 (N.getD k [])).length,Cu S.nx (DC 0 (N.getD k [])).length,[]⟩
def Is(k:Nat)(S:Ws):Ws :=
 let w:=Cl g inn N k S;let b:=A7 g k;let q:=C4 w.E w.nx b.ins
 ⟨q.2.1,fun j=>if j=k then some ⟨w.ps,w.is++q.2.2,⟨b.term.kind,QT q.1 b.term,b.term.n,b.term.cases,[]⟩⟩else S.B j,fun j=>if j=k then q.1 else S.EE j⟩
def Dk(l:List Int):Ws:=l.foldl (fun S k=>Is g inn N k.toNat S) ⟨0,fun _=>none,fun _=>Fc⟩
def OR(S:Ws)(j:Nat):Block:=Dq ((S.B j).getD ⟨[],[],⟨0,0,0,[],[]⟩⟩) ((A7 g j).term.to.map (NS inn N (S.EE j)))
end
def GO(f:Func):List (List Bool):=Uv (Bp f) (N1 f).toNat (Cf (Bj (BT f)))
def Sv(f:Func):Ws:=Dk (Bp f) (Eb (Bj (BT f))) (GO f) (Cf (Bj (BT f)))
def Hk(f:Func):Func:=⟨f.name,(List.range (Bp f).blocks.length).map (OR (Bp f) (Eb (Bj (BT f))) (GO f) (Sv f))⟩
def chO:Option Block->List A2
 | none=>[.A3 1 [] .ex,.A3 4 [] .ex,aI 0,aI 0,aI 0,.A3 1 [] .ex,.A3 2 [] .ex]
 | some b=>[AA b.params,B7 b.ins,aI b.term.kind,aI b.term.arg,aI b.term.n,AA b.term.cases,.A3 2 [] .ex]
theorem eX:∀(l:List Ins) (E:Env) (nx:Int),nx<=(C4 E nx l).2.1∧(C4 E nx l).2.1<=nx+l.length
 | [],E,nx=>by simp[C4]
 | i::r,E,nx=>by
  rw[C4];split
  ·have:=eX r (F8 E i.to ((i.args.map (FL E)).headD 0)) nx;rw[CE];omega
  have:=eX r (F8 E i.to nx) (nx+1);rw[CE];simp only;omega
structure Oa(g:Func)(ord:List Int)(inn:List (List Int))(N:List (List Bool))(many n:Nat):Prop where
 gw:GfW g many
 len:g.blocks.length=n
 MW:∀k∈ord,0<=k∧k<n
 nd:∀(i j:Nat) k,ord[i]?=some k->ord[j]?=some k->i=j
 one:∀(i:Nat) k p,ord[i]?=some k->k≠0->inn[k.toNat]?=some [p]->p∈ord.take i
 few:ord.length<=128
 gF:inn.length=n
 zO:∀l∈inn,l.length<=2 ^ 30
 Nl:N.length=n
 Ns:∀s∈N,s.length=many
 cases:∀b∈g.blocks,b.term.cases.length<=4096
 cp:∀b∈g.blocks,∀i∈b.ins,i.op=100->i.args.length=1
structure WI(ord:List Int)(n i:Nat)(S:Ws)(C A:List A2):Prop where
 QX:C.length=n*7
 ch:∀j<n,∀r<7,C[j*7+r]?=(chO (S.B j))[r]?
 NN:A.length=n
 en:∀k∈ord.take i,∃es,A[k.toNat]?=some (.im (.int .i64) es)∧G7 es (S.EE k.toNat)
 no:∀j:Nat,(j:Int) ∉ ord.take i->S.B j=none
 ok:∀k∈ord.take i,∃b,S.B k.toNat=some b
 U0:AQ 0 C
 Tx:∀d∈C,d.scalar
 U':AQ 0 A
 nx:0<=S.nx∧S.nx<=i*20000
theorem qk4(hC:C.length=n*7)(hk:k<n){ps:List Int}{is:List Ins}{t:Term}{arg:Int}:(BB C k ps is t arg).length=n*7:=by
 unfold BB;rw[P' abN,B2,B2,hC]
theorem qk3(hC:C.length=n*7)(hk:k<n){ps:List Int}{is:List Ins}{t:Term}{arg:Int}{j r:Nat}(hr:r<7) :
  (BB C k ps is t arg)[j*7+r]?=if j=k then(chO (some ⟨ps,is,⟨t.kind,arg,t.n,t.cases,[]⟩⟩))[r]? else C[j*7+r]?:=by
 unfold BB;rw[Xl abN];simp only[CE,GD];by_cases e:j=k
 ·subst e;rw[A9 rfl]
  match r,hr with
  | 0,_ =>
   rw[A4 I,Ap I,J4,Bb I];rfl
  | 1,_ =>
   rw[A4 I,Bb dY];rfl
  | 2,_ | 3,_ | 4,_ | 5,_ | 6,_ =>
   rw[A9 I,show ∀a b,j*7+a-(j*7+b)=a-b from fun a b=>I];rfl
 rw[A4 e,A4 I,Ap I,Ap I]
variable {S:Ws}{j:Nat}
section
variable {g:Func} {ord:List Int} {inn:List (List Int)} {N:List (List Bool)} {many n:Nat}
theorem Oa.row(h:Oa g ord inn N many n){k:Nat}(hk:k<n):N[k]?=some (N.getD k [])∧(N.getD k []).length=many∧inn[k]?=some (inn.getD k [])∧(inn.getD k []).length<=2 ^ 30∧g.blocks[k]?=some (A7 g k):=by
 have h1:N[k]?=some (N[k]'(by rw[h.Nl];exact hk)):=AY _;have h2:inn[k]?=some (inn[k]'(by rw[h.gF];exact hk)):=AY _;have h3:N.getD k []=N[k]'(by rw[h.Nl];exact hk):=by rw[KC,h1];rfl
 have h4:inn.getD k []=inn[k]'(by rw[h.gF];exact hk):=by rw[KC,h2];rfl
 rw[h3,h4];refine⟨h1,h.Ns _ (MG _),h2,h.zO _ (MG _),?_⟩;have:=K7 (f:=g) (k:=(k:Int)) I py
 rwa [BH]at this
theorem cc(h:Oa g ord inn N many n){k:Nat}(hk:k<n)(S:Ws):S.nx<=(Cl g inn N k S).nx∧(Cl g inn N k S).nx<=S.nx+8192∧(Cl g inn N k S).is.length<=4096:=by
 obtain⟨h1,h2,h3,h4,h5⟩:=h.row hk;have hm:=h.gw.SI;unfold Cl;split
 ·rename_i e;subst e;have hz:=mO (DF Fc S.nx (A7 g 0).params) (N.getD 0 []) (N.getD 0 []).length;have hp:=(h.gw.X2 _ (AK h5)).1;have Vo:(A7 g 0).params.length<=4096:=hp;simp only[BE,Q2];omega
 split
 ·simp only[GD];omega
 have e1:=Xk (N.getD k []) 0;have e2:=PC (p:=id) (l:=N.getD k []);simp only[GD];omega
theorem WI.step(h:Oa g ord inn N many n){i:Nat}{S:Ws}{C A:List A2}(hI:WI ord n i S C A){k:Nat}(hk:ord[i]?=some (k:Int)){es:List (Value×A2)}
  (hE:G7 es (C4 (Cl g inn N k S).E (Cl g inn N k S).nx (A7 g k).ins).1) :
  WI ord n (i+1) (Is g inn N k S) (BB C k (Cl g inn N k S).ps ((Cl g inn N k S).is++(C4 (Cl g inn N k S).E (Cl g inn N k S).nx (A7 g k).ins).2.2) (A7 g k).term (QT (C4 (Cl g inn N k S).E (Cl g inn N k S).nx (A7 g k).ins).1 (A7 g k).term))
   (A.set k (.im (.int .i64) es)):=by
 have EG:k<n:=pq
 obtain⟨h1,h2,h3⟩:=cc h EG S;have hr:=(h.row EG).2.2.2.2;have hib:=(h.gw.ins _ (AK hr)).1;have G2:=eX (A7 g k).ins (Cl g inn N k S).E (Cl g inn N k S).nx;have Od:=hI.nx;have BA:ord.take (i+1)=ord.take i++[(k:Int)]:=by rw[Fs,hk];rfl
 refine⟨qk4 hI.QX EG,fun j hj r hr=>?_,by rw[B2,hI.NN],fun j hj=>?_,fun j hj=>?_,fun j hj=>?_,xq hI.U0,qe2 hI.Tx,UC hI.U' (hE.upto 0),?_⟩
 ·rw[qk3 hI.QX EG hr];unfold Is;simp only;by_cases e:j=k
  ·subst e;rw[A9 rfl,A9 rfl]
  rw[A4 e,A4 e];exact hI.ch j hj r hr
 ·rw[BA]at hj;by_cases e:j.toNat=k
  ·refine⟨es,?_,?_⟩
   ·rw[e,Bb (by rw[hI.NN];exact EG)]
   unfold Is;simp only;rw[A9 e];exact hE
  rcases List.mem_append.1 hj with q|q
  ·obtain⟨es',q1,q2⟩:=hI.en j q;refine⟨es',?_,?_⟩
   ·rw[Ap (fun x=>e x.symm),q1]
   unfold Is;simp only;rw[A4 e];exact q2
  rw[Fq]at q;subst q;exact B3 (BH k) e
 ·rw[BA]at hj;unfold Is;simp only;rw[A4 (fun e=>hj (by rw[e];simp))];exact hI.no j fun q=>hj (UQ _ q)
 ·rw[BA]at hj;unfold Is;simp only;by_cases e:j.toNat=k
  ·rw[A9 e];exact⟨_,rfl⟩
  rw[A4 e];rcases List.mem_append.1 hj with q|q
  ·exact hI.ok j q
  rw[Fq]at q;subst q;exact B3 (BH k) e
 exact adJ
structure WE(g:Func)(inn:List (List Int))(N:List (List Bool))(n j:Nat)(S:Ws)(C A:List A2):Prop where
 QX:C.length=n*7
 ch:∀i<n,∀r<7,C[i*7+r]?=(if i<j then(OR g inn N S i).enc.cells else chO (S.B i))[r]?
 ok:∀i<n,∃b,S.B i=some b
 NN:A.length=n
 en:∀i<n,∃es,A[i]?=some (.im (.int .i64) es)∧G7 es (S.EE i)
 U0:AQ 0 C
 Tx:∀d∈C,d.scalar
 U':AQ 0 A
theorem WI.done(hI:WI ord n i S C A)(Br:∀j<n,(j:Int)∈ord.take i):WE g inn N n 0 S C A:=by
 refine⟨hI.QX,fun j hj r hr=>?_,fun j hj=>?_,hI.NN,fun j hj=>?_,hI.U0,hI.Tx,hI.U'⟩
 ·rw[A4 I];exact hI.ch j hj r hr
 ·have:=hI.ok _ (Br j hj)
  rwa [BH]at this
 have:=hI.en _ (Br j hj)
 rwa [BH]at this
theorem WE.step(hI:WE g inn N n j S C A)(hj:j<n):WE g inn N n (j+1) S (C.set (j*7+6) (An ((A7 g j).term.to.map (NS inn N (S.EE j))))) A:=by
 refine⟨by rw[B2,hI.QX],fun i hi r hr=>?_,hI.ok,hI.NN,hI.en,UC hI.U0 ⟨Edge.AX _ _,trivial⟩,RI hI.Tx trivial,hI.U'⟩;have h0:=hI.ch i hi r hr;rw[FD];by_cases e:i=j
 ·subst e;rw[A4 (Nat.lt_irrefl i)]at h0;rw[A9 (Nat.lt_succ_self i)];obtain⟨b,hb⟩:=hI.ok i hi;rw[hb]at h0;unfold OR;rw[hb]
  match r,hr with
  | 0,_ | 1,_ | 2,_ | 3,_ | 4,_ | 5,_ =>
   rw[A4 I,h0];rfl
  | 6,_ =>
   rw[A9 rfl,A9 (by rw[hI.QX];omega)];rfl
 rw[A4 I,h0];by_cases e2:i<j
 ·rw[A9 e2,A9 I]
 rw[A4 e2,A4 I]
theorem WE.cells(hI:WE g inn N n n S C A):C=AP (((List.range n).map (OR g inn N S)).map Block.enc):=by
 have Ag:∀x∈((List.range n).map (OR g inn N S)).map Block.enc,x.cells.length=7:=fun x hx=>by
  obtain⟨b,_,rfl⟩:=List.mem_map.1 hx;rfl
 have hl:=Ja Ag;rw[BE,BE,N7]at hl;refine Gg fun p=>?_;by_cases hp:p<n*7
 ·obtain⟨i,r,hi,hr,e⟩:∃i r,i<n∧r<7∧p=i*7+r:=⟨p / 7,p % 7,I,I,I⟩
  subst e;rw[hI.ch i hi r hr,A9 hi];have hx:(((List.range n).map (OR g inn N S)).map Block.enc)[i]?=some (OR g inn N S i).enc:=by
   rw[Bv,Bv,J3 hi];rfl
  have hc:(OR g inn N S i).enc.cells[r]?=some ((OR g inn N S i).enc.cells[r]'hr):=AY _;rw[om Ag hx hc,hc]
 rw[H3 (by rw[hI.QX];omega),H3 I]
end
def VE(E:Env)(es es':List (Int×SV)):Prop:=∀w x,E w=some x->Bq es' x=Bq es w
def bN(xs:List Int)(es:List (Int×SV)):List (Int×SV):=xs.foldl (fun es x=>CQ es x (.word 0)) es
section
variable (u v:Ad) (L:Int->Int->Prop) (β:Int->Int->Int) (En:Int->Int->Nat->Env) (Ps:Int->Int->Nat->Nat) (c:Int)
structure xr(fn b:Int):Prop where
 cpy:∀(m:Nat) i,(A7 (AB u fn) b).ins[m]?=some i->i.op=100->∃a y,i.args=[a]∧En fn b m a=some y∧En fn b (m+1)=F8 (En fn b m) i.to y∧Ps fn b (m+1)=Ps fn b m
 ins:∀(m:Nat) i,(A7 (AB u fn) b).ins[m]?=some i->i.op≠100->∃x,(A7 (AB v fn) (β fn b)).ins[Ps fn b m]?=some ⟨x,i.op,i.n,i.args.map (FL (En fn b m))⟩ ∧
  (∀a∈i.args,∃y,En fn b m a=some y)∧En fn b (m+1)=F8 (En fn b m) i.to x∧(∀w y,En fn b m w=some y->y≠x)∧Ps fn b (m+1)=Ps fn b m+1
 fin:(A7 (AB v fn) (β fn b)).ins[Ps fn b (A7 (AB u fn) b).ins.length]?=none
 term:(A7 (AB v fn) (β fn b)).term.kind=(A7 (AB u fn) b).term.kind∧(A7 (AB v fn) (β fn b)).term.n=(A7 (AB u fn) b).term.n∧(A7 (AB v fn) (β fn b)).term.cases=(A7 (AB u fn) b).term.cases
 arg:IL (A7 (AB u fn) b).term=true->En fn b (A7 (AB u fn) b).ins.length (A7 (AB u fn) b).term.arg=some (A7 (AB v fn) (β fn b)).term.arg
 S4:∀(q:Nat) e,(A7 (AB u fn) b).term.to[q]?=some e->∃e',(A7 (AB v fn) (β fn b)).term.to[q]?=some e'∧L fn e.block∧e'.block=β fn e.block∧Ps fn e.block 0=0∧(A7 (AB u fn) e.block).params=[] ∧
  ∀es es',VE (En fn b (A7 (AB u fn) b).ins.length) es es'->VE (En fn e.block 0) es (C7 es' (A7 (AB v fn) (β fn e.block)).params (BV es' e'.args))
structure Yy:Prop where
 len:v.fns.length=u.fns.length
 main:v.main=u.main
 zero:∀fn:Int,0<=fn->fn<u.fns.length->L fn 0∧β fn 0=0∧(A7 (AB v fn) 0).params.length=(A7 (AB u fn) 0).params.length∧(Ps fn 0 0:Int)+1<=c ∧
  ∃(xs:List Int) (B:List Ins),xs.length=Ps fn 0 0∧(A7 (AB v fn) 0).ins=xs.map sI++B∧∀args:List SV,args.length=(A7 (AB u fn) 0).params.length->VE (En fn 0 0) (C7 [] (A7 (AB u fn) 0).params args) (bN xs (C7 [] (A7 (AB v fn) 0).params args))
 S':∀fn b:Int,0<=fn->fn<u.fns.length->L fn b->xr u v L β En Ps fn b
structure FRe(f f':Fr):Prop where
 ids:f'.AW=f.AW∧f'.Ay=f.Ay∧f'.fn=f.fn
 at_:L f.fn f.blk
 blk:f'.blk=β f.fn f.blk
 pos:f'.pos=Ps f.fn f.blk f.pos
 vals:VE (En f.fn f.blk f.pos) f.vals f'.vals
def bo(t t':Int):List Fr->List Fr->Prop
 | [],[]=>True
 | f::r,f'::r'=>(∀x,FRe L β En Ps { f with vals:=CQ f.vals t x } { f' with vals:=CQ f'.vals t' x })∧bo f.to f'.to r r'
 | _,_=>False
def xv:List Fr->List Fr->Prop
 | f::r,f'::r'=>FRe L β En Ps f f'∧bo L β En Ps f.to f'.to r r'
 | _,_=>False
def OP(m m':Mach):Prop:=∃fs l,m'=m.put fs l∧(m.over=false->xv L β En Ps m.frames fs)∧c*m.left<=l
end
variable {es':List (Int×SV)}
theorem VE.take{es:List (Int×SV)}(h:VE E es es'){l:List Int}(hl:∀a∈l,∃y,E a=some y):BV es' (l.map (FL E))=BV es l:=by
 unfold BV;rw[HV];refine Rb fun a ha=>?_;obtain⟨y,hy⟩:=hl a ha;show Bq es' (FL E a)=_;unfold FL;rw[hy];exact h a y hy
theorem VE.put{es:List (Int×SV)}(h:VE E es es'){t x:Int}(hx:∀w y,E w=some y->y≠x)(s:SV):VE (F8 E t x) (CQ es t s) (CQ es' x s):=fun w y hw=>by
 rw[Nv,Nv];unfold F8 at hw;split at hw
 ·rename_i e;rw[AM]at hw;rw[A9 hw,A9 e.symm]
 rename_i e;rw[A4 (fun q=>hx w y hw q.symm),A4 (fun q=>e q.symm)];exact h w y hw
theorem VE.cpy{es:List (Int×SV)}(h:VE E es es'){t a y:Int}(ha:E a=some y):VE (F8 E t y) (CQ es t (Bq es a)) es':=fun w z hw=>by
 rw[Nv];unfold F8 at hw;split at hw
 ·rename_i e;rw[AM]at hw;rw[A9 e.symm,<-hw];exact h a y ha
 rename_i e;rw[A4 (fun q=>e q.symm)];exact h w z hw
theorem qe8{i j:Ins}(h1:j.op=i.op)(h2:j.n=i.n)(X:Mach)(args:List SV):X.exec j args=X.exec i args:=by
 obtain⟨a1,a2,a3,a4⟩:=i;obtain⟨b1,b2,b3,b4⟩:=j;simp only at h1 h2;subst h1;subst h2;rfl
theorem vL{v:Ad}{fn b:Int}{m:Mach}(ho:m.over=false)(hs:m.short=false){f':Fr}{r':List Fr}(h1:f'.fn=fn)(h2:f'.blk=b) :
  ∀(xs:List Int) (A B:List Ins) (Ek:List (Int×SV)) (l:Int),(A7 (AB v fn) b).ins=A++(xs.map sI++B)->(xs.length:Int)<=l ->
   Mach.Steps v xs.length (m.put ({ f' with pos:=A.length,vals:=Ek }::r') l) (m.put ({ f' with pos:=A.length+xs.length,vals:=bN xs Ek }::r') (l-xs.length))
 | [],A,B,Ek,l,hi,hl=>by
   have:l-(([]:List Int).length:Int)=l:=A6
   rw[this];exact Uu
 | x::M,A,B,Ek,l,hi,hl=>by
  rw[CE]at hl;have Na:(A7 (AB v fn) b).ins=(A++[sI x])++(M.map sI++B):=by rw[hi];simp
  have q2:=vL ho hs h1 h2 (r':=r') M (A++[sI x]) B (CQ Ek x (.word 0)) (l-1) Na I;rw[Bf,IU]at q2;have Au:Mach.step v { m.put ({ f' with pos:=A.length,vals:=Ek }::r') l with left:=l-1 }=m.put ({ f' with pos:=A.length+1,vals:=CQ Ek x (.word 0) }::r') (l-1):=by
   unfold Mach.step Mach.put;simp only;rw[h1,h2,hi,Dg (B6 _),FB];simp only[Bc,JR,Dh];rfl
  exact abw Au
section
variable {u v:Ad} {L:Int->Int->Prop} {β:Int->Int->Int} {En:Int->Int->Nat->Env} {Ps:Int->Int->Nat->Nat} {c:Int}
theorem qaB(T:Yy u v L β En Ps c){m:Mach}(ho:m.over=false)(D5:m.short=false){fs':List Fr}{y:Int}{fn:Int}(Cv:0<=fn∧fn<u.fns.length)(args:List SV)(hlen:args.length=(A7 (AB u fn) 0).params.length){to to':Int}
  (hR:bo L β En Ps to to' m.frames fs') (l0:0<=m.left) (l1:c*m.left+(c-1)<=y) :
  ∃n CT,Mach.Steps v n ((m.put fs' y).enter v fn args to') CT∧OP L β En Ps c (m.enter u fn args to) CT:=by
 obtain⟨z1,z2,z3,z4,xs,B,z5,z6,z7⟩:=T.zero fn Cv.1 Cv.2;obtain⟨M,hM⟩:∃M,M=m.enter u fn args to:=⟨_,rfl⟩
 obtain⟨f',DH⟩:∃f':Fr,f'=⟨m.next+1,m.next,fn,0,0,to',C7 [] (A7 (AB v fn) 0).params args⟩:=⟨_,rfl⟩
 have hE:(m.put fs' y).enter v fn args to'=M.put ({ f' with pos:=([]:List Ins).length,vals:=C7 [] (A7 (AB v fn) 0).params args }::fs') y:=by
  rw[hM,DH];rfl
 have B8:0<=c*m.left:=ir I l0;have hMo:M.over=false:=by rw[hM];exact ho
 have hMs:M.short=false:=by rw[hM];exact D5
 have Aj:=vL (v:=v) (m:=M) hMo hMs (f':=f') (r':=fs') (fn:=fn) (b:=0) Jl Jl xs [] B (C7 [] (A7 (AB v fn) 0).params args) y (by rw[z6];rfl) I;rw[hE];subst hM;refine⟨_,_,Aj,_,_,rfl,fun _=>?_,?_⟩
 ·show xv L β En Ps (⟨m.next+1,m.next,fn,0,0,to,C7 [] (A7 (AB u fn) 0).params args⟩::m.frames) _;rw[DH];exact⟨⟨⟨rfl,rfl,rfl⟩,z1,z2.symm,by show([]:List Ins).length+xs.length=_;rw[z5];simp,z7 args hlen⟩,hR⟩
 show c*m.left<=y-xs.length;omega
theorem qdO{m:Mach}{f f':Fr}{r r':List Fr}{y:Int}(hm:m.frames=f::r)(hR:bo L β En Ps f.to f'.to r r')(l1:c*m.left<=y)(x:SV):OP L β En Ps c (m.leave f x) ((m.put (f'::r') y).leave f' x):=by
 unfold Mach.leave;rw[hm];simp only[iq,Mach.put];cases r with
 | nil =>
  cases r' with
  | nil=>exact⟨[],y,rfl,fun q=>(by simp[Mach.stop]at q),l1⟩
  | cons g' r'=>exact False.elim hR
 | cons g r =>
  cases r' with
  | nil=>exact False.elim hR
  | cons g' r' =>
   simp only;exact⟨{ g' with vals:=CQ g'.vals f'.to x }::r',y,rfl,fun _=>⟨hR.1 x,hR.2⟩,l1⟩
theorem qfP(T:Yy u v L β En Ps c)(hu:HL u)(hc:1<=c){m m':Mach}(hm:CY u m)(ho:m.over=false)(h1:1<=m.left)(hs:(Mach.step u { m with left:=m.left-1 }).short=false)
  (h5:¬((Mach.step u { m with left:=m.left-1 }).over=true∧(Mach.step u { m with left:=m.left-1 }).fin=5)) (hr:OP L β En Ps c m m') :
  ∃n CT,Mach.Steps v n m' CT∧OP L β En Ps c (Mach.step u { m with left:=m.left-1 }) CT:=by
 obtain⟨fs,l,rfl,Mj,l1⟩:=hr;have Mj:=Mj ho;obtain⟨AT,D5⟩:=hm.over ho;have B8:1*m.left<=c*m.left:=Sy hc I;have BQ:c*(m.left-1)=c*m.left-c:=qv
 have SN:c*1<=c*m.left:=aa4 h1 I;obtain⟨M,Tt⟩:∃M:Mach,M = { m with left:=m.left-1 }:=⟨_,rfl⟩
 have gd:M.left=m.left-1:=by rw[Tt]
 have VZ:M.frames=m.frames:=by rw[Tt]
 have hMo:M.over=false:=by rw[Tt];exact ho
 have hMs:M.short=false:=by rw[Tt];exact D5
 have El:∀fs' y,M.put fs' y=m.put fs' y:=fun fs' y=>by rw[Tt];rfl
 have yv:∀{CT:Mach},(∃k m3,Mach.Steps v k CT m3∧OP L β En Ps c (Mach.step u M) m3)->Mach.step v (M.put fs (l-1))=CT->∃n CT,Mach.Steps v n (m.put fs l) CT∧OP L β En Ps c (Mach.step u M) CT:=fun {CT} hR e=>by
  obtain⟨k,m3,s1,s2⟩:=hR;refine⟨k+1,m3,.cons ho D5 aJ ?_,s2⟩;have:Mach.step v { m.put fs l with left:=(m.put fs l).left-1 }=CT:=by rw[<-e,Tt];rfl
  rw[this];exact s1
 have one:∀{CT:Mach},OP L β En Ps c (Mach.step u M) CT->Mach.step v (M.put fs (l-1))=CT->∃n CT,Mach.Steps v n (m.put fs l) CT∧OP L β En Ps c (Mach.step u M) CT:=fun hR e=>yv ⟨0,_,.refl _,hR⟩ e;have EJ:CY u M:=by
  have:=(Wg hm ho I).1
  rwa [Mach.WA h1,<-Tt]at this
 rw[<-Tt]at hs h5 ⊢;obtain⟨f,r,B0⟩:∃f r,m.frames=f::r:=by
  cases hq:m.frames with
  | nil=>exact B3 hq AT
  | cons f r=>exact⟨f,r,rfl⟩
 rw[B0]at Mj VZ;obtain⟨f',r',rfl⟩:∃f' r',fs=f'::r':=by
  cases fs with
  | nil=>exact False.elim Mj
  | cons f' r'=>exact⟨f',r',rfl⟩
 obtain⟨hF,hR⟩:=Mj;have F6:=EJ.frames f (by rw[VZ];simp);have hb:=hu.blocks _ (Nu F6.fn.1 F6.fn.2) _ (M' F6.blk.1 F6.blk.2);have hB:=T.S' f.fn f.blk F6.fn.1 F6.fn.2 hF.at_;have BD:=mT u VZ;have G6:Mach.step v (M.put (f'::r') (l-1))=match (A7 (AB v f.fn) (β f.fn f.blk)).ins[Ps f.fn f.blk f.pos]? with
   | none=>(M.put (f'::r') (l-1)).finish v f' (A7 (AB v f.fn) (β f.fn f.blk)).term
   | some i=>((M.put (f'::r') (l-1)).BW { f' with pos:=f'.pos+1 }).act v { f' with pos:=f'.pos+1 } i (BV f'.vals i.args):=by
  have key:∀(bl:Block) (p:Nat),A7 (AB v f'.fn) f'.blk=bl->f'.pos=p->Mach.step v (M.put (f'::r') (l-1))=match bl.ins[p]? with
    | none=>(M.put (f'::r') (l-1)).finish v f' bl.term
    | some i=>((M.put (f'::r') (l-1)).BW { f' with pos:=f'.pos+1 }).act v { f' with pos:=f'.pos+1 } i (BV f'.vals i.args):=by
   rintro _ _ rfl rfl;rfl
  exact key _ _ (by rw[hF.ids.2.2,hF.blk]) hF.pos
 cases hi:(A7 (AB u f.fn) f.blk).ins[f.pos]? with
 | none =>
  rw[hi]at BD;simp only at BD;have JK:f.pos=(A7 (AB u f.fn) f.blk).ins.length:=by
   have h2:=List.getElem?_eq_none_iff.1 hi;have h3:=F6.pos;omega
  have hV:=hF.vals;rw[JK]at hV G6;rw[hB.fin]at G6;simp only at G6;obtain⟨t1,t2,t3⟩:=hB.term;have along:∀(q:Nat) e,(A7 (AB u f.fn) f.blk).term.to[q]?=some e->Mach.step u M=M.follow u f e->(∀e',(A7 (AB v f.fn) (β f.fn f.blk)).term.to[q]?=some e'->Mach.step v (M.put (f'::r') (l-1))=(M.put (f'::r') (l-1)).follow v f' e')->∃n CT,Mach.Steps v n (m.put (f'::r') l) CT∧OP L β En Ps c (Mach.step u M) CT:=fun q e he Pp qmV=>by
   obtain⟨e',e1,e2,e3,e4,e5,e6⟩:=hB.S4 q e he;refine one ?_ (qmV e' e1);rw[Pp];refine⟨{ f' with blk:=e'.block,pos:=0,vals:=C7 f'.vals (A7 (AB v f'.fn) e'.block).params (BV f'.vals e'.args) }::r',l-1,rfl,fun _=>?_,pz⟩;have BK:(M.follow u f e).frames = { f with blk:=e.block,pos:=0,vals:=C7 f.vals (A7 (AB u f.fn) e.block).params (BV f.vals e.args) }::r:=by
    exact dz VZ
   rw[BK];refine⟨⟨hF.ids,e2,e3,e4.symm,?_⟩,hR⟩;show VE (En f.fn e.block 0) (C7 f.vals (A7 (AB u f.fn) e.block).params _) (C7 f'.vals (A7 (AB v f'.fn) e'.block).params _);rw[e5,e3,hF.ids.2.2];have:C7 f.vals [] (BV f.vals e.args)=f.vals:=by cases BV f.vals e.args<;>rfl
   rw[this];exact e6 f.vals f'.vals hV
  unfold Mach.finish at BD;by_cases q4:(A7 (AB u f.fn) f.blk).term.kind=4
  ·rw[A9 q4]at BD;unfold Mach.finish at G6;rw[A9 (by rw[t1];exact q4),t2]at G6;refine one ?_ G6;rw[BD];exact⟨f'::r',l-1,rfl,fun q=>je,pz⟩
  rw[A4 q4]at BD;by_cases q1:(A7 (AB u f.fn) f.blk).term.kind=1
  ·rw[A9 q1]at BD;have hl:=hb.term.jump q1;obtain⟨e,he⟩:∃e,(A7 (AB u f.fn) f.blk).term.to[0]?=some e:=⟨(A7 (AB u f.fn) f.blk).term.to[0]' I,AY _⟩
   rw[he]at BD;refine along 0 e he BD fun e' Fu=>?_;rw[G6];unfold Mach.finish;rw[A4 (by rw[t1];exact q4),A9 (by rw[t1];exact q1),Fu];rfl
  rw[A4 q1]at BD;have gK:=hB.arg (by unfold IL;simp[q1,q4]);have Xe:=hV _ _ gK;by_cases q0:(A7 (AB u f.fn) f.blk).term.kind=0
  ·rw[A9 q0]at BD;unfold Mach.finish at G6;rw[A4 I,A4 I,A9 I,Xe]at G6;refine one ?_ G6;rw[BD];exact qdO VZ hR qN _
  rw[A4 q0]at BD;by_cases qk:(Bq f.vals (A7 (AB u f.fn) f.blk).term.arg).kind≠0
  ·rw[A9 qk]at BD;exact B3 ⟨ja,ja⟩ h5
  rw[A4 qk]at BD;obtain⟨e,he⟩:=cf hb.term q0 q1 q4 (Bq f.vals (A7 (AB u f.fn) f.blk).term.arg).n;rw[he]at BD;refine along _ e he BD fun e' Fu=>?_;rw[G6];unfold Mach.finish;have F5:K3 (A7 (AB v f.fn) (β f.fn f.blk)).term=K3 (A7 (AB u f.fn) f.blk).term:=by
   funext n
   unfold K3;rw[t1,t3]
  rw[A4 I,A4 I,A4 I,Xe,A4 qk,F5,Fu];rfl
 | some i =>
  rw[hi]at BD;simp only at BD;have Km:=AK hi;have Ia:=hb.ins i Km;have AF:=AE hi;by_cases DG:i.op=100
  ·obtain⟨a,y,a1,a2,a3,a4⟩:=hB.cpy f.pos i hi DG;have Pp:Mach.step u M=M.BW { f with pos:=f.pos+1,vals:=CQ f.vals i.to (Bq f.vals a) }:=by
    rw[BD];unfold Mach.act;rw[A4 I,A4 I];have hex:(M.BW { f with pos:=f.pos+1 }).exec i (BV f.vals i.args)=(M.BW { f with pos:=f.pos+1 },Bq f.vals a,0):=by
     unfold Mach.exec;rw[A4 I,A4 I,A4 I,A4 I,A4 I,A4 I,A9 DG,a1];rfl
    rw[hex];rfl
   refine⟨0,_,.refl _,?_⟩;rw[Pp];refine⟨f'::r',l,by rw[Tt];rfl,fun _=>?_,pz⟩;have BK:(M.BW { f with pos:=f.pos+1,vals:=CQ f.vals i.to (Bq f.vals a) }).frames = { f with pos:=f.pos+1,vals:=CQ f.vals i.to (Bq f.vals a) }::r:=by
    exact dz VZ
   rw[BK];refine⟨⟨hF.ids,hF.at_,hF.blk,by show f'.pos=Ps f.fn f.blk (f.pos+1);rw[a4,hF.pos],?_⟩,hR⟩;show VE (En f.fn f.blk (f.pos+1)) _ _;rw[a3];exact hF.vals.cpy a2
  obtain⟨x,x1,x2,x3,x4,x5⟩:=hB.ins f.pos i hi DG;rw[x1]at G6;simp only at G6;rw[hF.vals.take x2]at G6;have nQ:bo L β En Ps i.to x ({ f with pos:=f.pos+1 }::r) ({ f' with pos:=f'.pos+1 }::r') :=
   ⟨fun s=>⟨hF.ids,hF.at_,hF.blk,by show f'.pos+1=Ps f.fn f.blk (f.pos+1);rw[x5,hF.pos],by show VE (En f.fn f.blk (f.pos+1)) (CQ f.vals i.to s) (CQ f'.vals x s);rw[x3];exact hF.vals.put x4 s⟩,hR⟩
  suffices h:∃k m3,Mach.Steps v k (Mach.step v (M.put (f'::r') (l-1))) m3∧OP L β En Ps c (Mach.step u M) m3 from yv h rfl;have k1:c*M.left+(c-1)<=l-1:=qN
  have k0:0<=M.left:=qN
  rw[BD]at hs ⊢;rw[G6];have TP:M.frames≠[]:=by rw[VZ];simp
  have E8:J' u M { f with pos:=f.pos+1 }:=⟨F6.fn,F6.blk,AF,F6.vals⟩
  have LF:J' u (M.BW { f with pos:=f.pos+1 }) { f with pos:=f.pos+1 }:=E8.of_heap CX;have hM2:=EJ.BW TP E8;have ha:=Y2 LF.vals i.args;have DK:=Zi f.vals i.args;have MU:(M.BW { f with pos:=f.pos+1 }).frames = { f with pos:=f.pos+1 }::r:=by
   exact dz VZ
  have e2:(M.put (f'::r') (l-1)).BW { f' with pos:=f'.pos+1 }=(M.BW { f with pos:=f.pos+1 }).put ({ f' with pos:=f'.pos+1 }::r') (l-1):=rfl;rw[e2];generalize l-1=y at *;have hvk:(({ f with pos:=f.pos+1 }:Fr)).vals=f.vals:=rfl;rw[hvk]at ha;unfold Mach.act at hs ⊢;have enter:∀fn:Int,0<=fn∧fn<u.fns.length->(BV f.vals i.args).length=(A7 (AB u fn) 0).params.length->∃k m3,Mach.Steps v k (((M.BW { f with pos:=f.pos+1 }).put ({ f' with pos:=f'.pos+1 }::r') y).enter v fn (BV f.vals i.args) x) m3∧OP L β En Ps c ((M.BW { f with pos:=f.pos+1 }).enter u fn (BV f.vals i.args) i.to) m3:=fun fn Cv Vl =>
   qaB T (m:=M.BW { f with pos:=f.pos+1 }) hMo hMs Cv _ Vl (by rw[MU];exact nQ) k0 k1
  have stop:∀e n:Int,∃k m3,Mach.Steps v k (((M.BW { f with pos:=f.pos+1 }).put ({ f' with pos:=f'.pos+1 }::r') y).stop e n) m3∧OP L β En Ps c ((M.BW { f with pos:=f.pos+1 }).stop e n) m3:=fun e n =>
   ⟨0,_,.refl _,_,y,rfl,fun q=>je,by show c*M.left<=y;omega⟩
  by_cases FO:i.op=13
  ·rw[A9 FO,A9 FO];obtain⟨c1,c2,c3⟩:=Ia.call FO;exact enter _ ⟨c1,c2⟩ (by rw[DK];exact c3.symm)
  rw[A4 FO]at hs;rw[A4 FO,A4 FO];by_cases GH:i.op=14
  ·rw[A9 GH,A9 GH];by_cases Ig:(BS (BV f.vals i.args) 0).kind=2
   ·have Cv:=SV.Wf.fn (P4 ha 0) Ig;have z3:=(T.zero _ Cv.1 Cv.2).2.2.1;rw[z3];by_cases IG:(BS (BV f.vals i.args) 0).kind=2∧(A7 (AB u (BS (BV f.vals i.args) 0).n) 0).params.length=(BV f.vals i.args).length
    ·rw[A9 IG,A9 IG];exact enter _ Cv IG.2.symm
    rw[A4 IG,A4 IG];exact stop _ _
   rw[A4 (fun q=>Ig q.1),A4 (fun q=>Ig q.1)];exact stop _ _
  rw[A4 GH]at hs;rw[A4 GH,A4 GH];have hx:=ay hM2 Ia DK ha;have GK:=(Mach.gu { f with pos:=f.pos+1 } i.to ((M.BW { f with pos:=f.pos+1 }).exec i (BV f.vals i.args))).1;rw[GK]at hs;have JY:(M.BW { f with pos:=f.pos+1 }).left<=y:=by
   have:1*M.left<=c*M.left:=Sy hc k0;show M.left<=y;omega
  have qmp:∀X:Mach,X.exec ⟨x,i.op,i.n,i.args.map (FL (En f.fn f.blk f.pos))⟩ (BV f.vals i.args)=X.exec i (BV f.vals i.args):=fun X=>qe8 rfl rfl X _;rw[qmp,Mach.lg _ _ _ _ _ hs hx.left.1 JY];generalize (M.BW { f with pos:=f.pos+1 }).exec i (BV f.vals i.args)=X at *;obtain⟨E,E2⟩:=X;have hxf:E.frames = { f with pos:=f.pos+1 }::r:=by
   rw[<-MU];exact hx.frames
  have JC:E.left<=M.left:=hx.left.2;obtain⟨w1,w2⟩:=ox E E2 { f with pos:=f.pos+1 } i.to;refine⟨0,_,.refl _,_,_,sn E E2 { f with pos:=f.pos+1 } _ _ i.to _ _,fun _=>?_,?_⟩
  ·rw[w1,hxf];exact⟨nQ.1 _,nQ.2⟩
  rw[w2];have k2:c*M.left<=y:=I
  have:=la hc k2 (a:=M.left-E.left) I;rw[show M.left-(M.left-E.left)=E.left from I]at this;exact Cd
end
section
variable {u v:Ad} {L:Int->Int->Prop} {β:Int->Int->Int} {En:Int->Int->Nat->Env} {Ps:Int->Int->Nat->Nat} {c:Int}
theorem wV(T:Yy u v L β En Ps c)(hu:HL u)(hc:1<=c):∀(k:Nat) (m m':Mach),CY u m->OP L β En Ps c m m'->(Mach.run u k m).short=false->(Mach.run u k m).fin≠5->∃n CT,Mach.Steps v n m' CT∧OP L β En Ps c (Mach.run u k m) CT
 | 0,m,m',hm,hr,hs,h5=>⟨0,m',.refl _,hr⟩
 | k+1,m,m',hm,hr,hs,h5=>by
  cases ho:m.over with
  | true =>
   rw[Nr ho]at hs ⊢;exact⟨0,m',.refl _,hr⟩
  | false =>
   have Aj:Mach.run u (k+1) m=if(m.Ae 1).short then m.Ae 1 else Mach.run u k (Mach.step u (m.Ae 1)):=qF
   rw[Aj]at hs h5 ⊢;by_cases hp:m.left<1
   ·rw[cn hp]at hs;simp at hs
   obtain⟨q1,q2,q3,q4,q5⟩:=Wg hm ho hp;rw[A4 df]at hs h5 ⊢;have Gk:(m.Ae 1).frames.length+(m.Ae 1).left+1<=2 ^ 40:=by
    have:=hm.depth;rw[q4,q5];omega
   have Au:=CY.step hu q1 q2 Gk;have GK:(Mach.step u (m.Ae 1)).short=false:=by
    cases hx:(Mach.step u (m.Ae 1)).short with
    | false=>rfl
    | true =>
     have ho:(Mach.step u (m.Ae 1)).over=true:=by
      cases hy:(Mach.step u (m.Ae 1)).over with
      | true=>rfl
      | false=>rw[(Au.over hy).2]at hx;cases hx
     rw[Nr ho,hx]at hs;cases hs
   have hs5:¬((Mach.step u (m.Ae 1)).over=true∧(Mach.step u (m.Ae 1)).fin=5):=fun q=>by
    rw[Nr q.1]at h5;exact h5 q.2
   rw[Mach.WA I]at Au GK hs hs5 h5 ⊢;obtain⟨n,m1,s1,s2⟩:=qfP T hu hc hm ho I GK hs5 hr;obtain⟨n2,m2,s3,s4⟩:=wV T hu hc k _ m1 Au s2 hs h5;exact⟨n+n2,m2,s1.trans s3,s4⟩
theorem qbN(T:Yy u v L β En Ps c)(hu:HL u)(hv:HL v)(hc:1<=c){F G:Int}(hF:0<=F∧F<=2 ^ 38)(hG:G<=2 ^ 39)(CA:c*F+(c-1)<=G)(he:(D2 u F).e=0)(h5:(D2 u F).fin≠5) :
  (D2 v G).e=0∧(D2 v G).out=(D2 u F).out∧(D2 v G).fin=(D2 u F).fin∧(D2 v G).val=(D2 u F).val:=by
 have hcF:1*F<=c*F:=Sy hc hF.1;have Vr:=tQ hu (fuel:=F) hF.1 I;have Nf:=tQ hv (fuel:=G) I hG;have Dp:=(T.zero u.main hu.main.1 hu.main.2).2.2.2.1;obtain⟨n0,m0,S0,bK⟩:=qaB T (m:=Mach.start F) rfl rfl (fs':=[]) (y:=G) hu.main [] (by rw[hu.none];rfl) (to:=0) (to':=0) trivial hF.1 CA;have Oq:((Mach.start F).put [] G).enter v u.main [] 0=(Mach.start G).enter v v.main [] 0:=by rw[T.main];rfl
 rw[Oq]at S0;unfold D2 at he h5 ⊢;simp only at he h5 ⊢;have hru:=Ut hu (F.toNat+2) _ Vr YH;have GJ:=Ut hv (G.toNat+2) _ Nf YH;have bu:=fun h h5=>wV T hu hc (F.toNat+2) _ m0 Vr bK h h5;generalize Mach.run u (F.toNat+2) ((Mach.start F).enter u u.main [] 0)=E at *;cases hs:E.short with
 | true =>
  rw[hs]at he;simp at he
 | false =>
  rw[hs]at h5;simp only[JS,Gf]at h5;obtain⟨n1,m1,S1,fs,l,EJ,_,_⟩:=bu hs h5;have S:=S0.trans S1;generalize n0+n1=n1 at *;have hle:n1<=G.toNat+2:=N8 fun q=>by
   have:=S.before (G.toNat+2) I;rw[GJ.1]at this;cases this
  have Ge:Mach.run v (G.toNat+2) ((Mach.start G).enter v v.main [] 0)=m1:=by
   have:=S.run (G.toNat+2-n1);rw[show n1+(G.toNat+2-n1)=G.toNat+2 from I]at this;rw[this];exact Nr abR _
  have b2:m1.short=false:=by rw[EJ];exact hs
  rw[Ge,b2];simp only[JS,Gf];rw[EJ];exact⟨trivial,rfl,rfl,rfl⟩
theorem qaN(T:Yy u v L β En Ps c)(hu:HL u)(hv:HL v)(hc:1<=c){F G:Int}(hF:0<=F∧F<=2 ^ 38)(hG:0<=G∧G<=1000000)(hcF:c*F+c<=2 ^ 38)(he:(D2 u F).e=0)(h5:(D2 u F).fin≠5) :
  (D2 v G).e=13∨((D2 v G).e=0∧(D2 v G).out=(D2 u F).out∧(D2 v G).fin=(D2 u F).fin∧(D2 v G).val=(D2 u F).val):=by
 have qok:0<=c*F:=ir I hF.1;obtain⟨H,hH⟩:∃H,H=c*F+c+G:=⟨_,rfl⟩
 have hR:=qbN T hu hv hc (G:=H) hF I I he h5;generalize D2 u F=A at *;have Nf:=eN hv (fuel:=G) hG.1 hG.2;have GJ:=Ut hv (G.toNat+2) _ Nf YH;cases hs:(Mach.run v (G.toNat+2) ((Mach.start G).enter v v.main [] 0)).short with
 | true =>
  refine .inl ?_;unfold D2;simp only;rw[hs];rfl
 | false =>
  refine .inr ?_;have hl:0<=(Mach.run v (G.toNat+2) ((Mach.start G).enter v v.main [] 0)).left:=(GJ.2.2.2 hs).left;have D5:=vK hv (H-G) (G.toNat+2) _ Nf (B6 _) hs I (H.toNat+2) (.inl I);have e0:((Mach.start G).enter v v.main [] 0).shift (H-G)=(Mach.start H).enter v v.main [] 0:=by
   unfold Mach.shift Mach.enter Mach.start;simp only[Mach.mk.injEq,FA,FW];omega
  rw[e0]at D5;unfold D2 at hR ⊢;simp only at hR ⊢;rw[D5]at hR;have GK:((Mach.run v (G.toNat+2) ((Mach.start G).enter v v.main [] 0)).shift (H-G)).short=false:=hs;rw[GK]at hR;rw[hs];simp only[JS,Gf]at hR ⊢;exact hR
end
variable {m:Int}
theorem nc{v:Int}:m<=Fh m v∧v+1<=Fh m v:=by unfold Fh;omega
theorem lR:∀(l:List Int) (m:Int),m<=l.foldl Fh m∧∀v∈l,v+1<=l.foldl Fh m
 | [],m=>⟨OK _,fun v hv=>YO⟩
 | a::r,m=>by
  obtain⟨h1,h2⟩:=lR r (Fh m a);obtain⟨h3,h4⟩:=nc (m:=m) (v:=a);rw[HG];refine⟨I,fun v hv=>?_⟩;rcases List.mem_cons.1 hv with q|q
  ·subst q;omega
  exact h2 v q
theorem qgr(m:Int)(i:Ins):m<=N0 m i∧i.to+1<=N0 m i∧∀a∈i.args,a+1<=N0 m i:=by
 unfold N0;obtain⟨h1,h2⟩:=lR i.args (Fh m i.to);obtain⟨h3,h4⟩:=nc (m:=m) (v:=i.to);exact⟨I,I,h2⟩
theorem vY:∀(l:List Ins) (m:Int),m<=l.foldl N0 m∧∀i∈l,i.to+1<=l.foldl N0 m∧∀a∈i.args,a+1<=l.foldl N0 m
 | [],m=>⟨OK _,fun v hv=>YO⟩
 | i::r,m=>by
  obtain⟨h1,h2⟩:=vY r (N0 m i);obtain⟨h3,h4,h5⟩:=qgr m i;rw[HG];refine⟨I,fun j hj=>?_⟩;rcases List.mem_cons.1 hj with q|q
  ·subst q;exact⟨I,fun a ha=>by have:=h5 a ha;omega⟩
  exact h2 j q
theorem qgp(m:Int)(b:Block):m<=Kw m b∧b.term.arg+1<=Kw m b∧(∀v∈b.params,v+1<=Kw m b)∧∀i∈b.ins,i.to+1<=Kw m b∧∀a∈i.args,a+1<=Kw m b:=by
 unfold Kw;obtain⟨h1,h2⟩:=lR b.params (Fh m b.term.arg);obtain⟨h3,h4⟩:=nc (m:=m) (v:=b.term.arg);obtain⟨h5,h6⟩:=vY b.ins (b.params.foldl Fh (Fh m b.term.arg));exact⟨I,I,fun v hv=>by have:=h2 v hv;omega,h6⟩
theorem cm:∀(l:List Block) (m:Int),m<=l.foldl Kw m∧∀b∈l,b.term.arg+1<=l.foldl Kw m∧(∀v∈b.params,v+1<=l.foldl Kw m)∧∀i∈b.ins,i.to+1<=l.foldl Kw m∧∀a∈i.args,a+1<=l.foldl Kw m
 | [],m=>⟨OK _,fun v hv=>YO⟩
 | b::r,m=>by
  obtain⟨h1,h2⟩:=cm r (Kw m b);obtain⟨h3,h4,h5,h6⟩:=qgp m b;rw[HG];refine⟨I,fun j hj=>?_⟩;rcases List.mem_cons.1 hj with q|q
  ·subst q;exact⟨I,fun v hv=>by have:=h5 v hv;omega,fun i hi=>⟨by have:=(h6 i hi).1;omega,fun a ha=>by have:=(h6 i hi).2 a ha;omega⟩⟩
  exact h2 j q
theorem fj{c:Int}:∀(l:List Int) {m:Int},m<=c->(∀v∈l,v<c)->l.foldl Fh m<=c
 | [],_,h,_=>h
 | a::r,m,h,hl=>by
  rw[HG];refine fj r ?_ fun v hv=>hl v (Dw _ hv);have:=hl a DQ;unfold Fh;omega
theorem qgs{c:Int}{i:Ins}(h:m<=c)(h1:i.to<c)(h2:∀a∈i.args,a<c):N0 m i<=c:=by
 unfold N0;exact fj _ jL h2
theorem vZ{c:Int}:∀(l:List Ins) {m:Int},m<=c->(∀i∈l,i.to<c∧∀a∈i.args,a<c)->l.foldl N0 m<=c
 | [],_,h,_=>h
 | a::r,m,h,hl=>by
  rw[HG];have:=hl a DQ;exact vZ r (qgs h this.1 this.2) fun v hv=>hl v (Dw _ hv)
theorem qgq{c:Int}(h:m<=c)(h1:b.term.arg<c)(h2:∀v∈b.params,v<c)(h3:∀i∈b.ins,i.to<c∧∀a∈i.args,a<c):Kw m b<=c:=by
 unfold Kw;exact vZ _ (fj _ jL h2) h3
theorem vX{c:Int}:∀(l:List Block) {m:Int},m<=c->(∀b∈l,b.term.arg<c∧(∀v∈b.params,v<c)∧∀i∈b.ins,i.to<c∧∀a∈i.args,a<c)->l.foldl Kw m<=c
 | [],_,h,_=>h
 | a::r,m,h,hl=>by
  rw[HG];have:=hl a DQ;exact vX r (qgq h this.1 this.2.1 this.2.2) fun v hv=>hl v (Dw _ hv)
variable {f:Func}
theorem lQ(h:Lc f){b:Block}(hb:b∈f.blocks){i:Ins}(hi:i∈b.ins):(0<=i.to∧i.to<=4095)∧(∀a∈i.args,0<=a∧a<=4095)∧i.args.length<=16∧(i.op=100->i.args.length=1):=by
 have h0:=h.C4 b hb i hi;by_cases e:i.op=100
 ·unfold Ro at h0;split at h0
  ·simp at h0
  rename_i h1;simp only[Hq,not_or,OI,ib,dF,not_exists,not_and]at h1;rw[A4 da]at h0;split at h0
  ·simp at h0
  rename_i h2;exact⟨RN.1 (by simpa using h1.1),fun a ha=>RN.1 abS,I,fun _=>I⟩
 have hf:=h.form b hb i hi e;unfold Ro at h0;split at h0
 ·simp at h0
 rename_i h1;simp only[Hq,not_or,OI,ib,dF,not_exists,not_and]at h1;exact⟨RN.1 (by simpa using h1.1),fun a ha=>RN.1 abS,hf.len,fun q=>B3 q e⟩
theorem va(h:Lc f):0<N1 f∧N1 f<=4096:=by
 have hc:N1 f<=4096:=vX f.blocks EW fun b hb=>⟨by have:=RN.1 (h.arg b hb);omega,fun v hv=>by have:=RN.1 (h.X2 b hb v hv);omega,fun i hi=>by
  obtain⟨q1,q2,_⟩:=lQ h hb hi;exact⟨I,fun a ha=>by have:=q2 a ha;omega⟩⟩
 obtain⟨b,hb⟩:=List.exists_mem_of_ne_nil _ h.ne;have:=((cm f.blocks 0).2 b hb).1;have:=RN.1 (h.arg b hb);unfold N1 at *;omega
theorem fR(AO:f.fit):(BT f).fit:=by
 refine⟨by unfold BT Bi;simp,by rw[Nz];exact AO.2.1,fun c hc=>?_⟩;obtain⟨k,hk⟩:=List.mem_iff_getElem?.1 hc;have hl:=AE hk;rw[Nz]at hl;have hb:f.blocks[k]?=some f.blocks[k]:=AY hl;rw[Wy hb,AM]at hk;obtain⟨b1,b2,b3,b4,t1,t2,t3,t4,t5,t6,t7⟩:=AO.2.2 _ (AK hb);have Fg:=AO.2.1;have hkf:Bi (k:Int):=Rg
 have hz:Bi 0:=Rg
 generalize f.blocks[k]=b at *;subst hk;have hT:Bi (Eo b).kind∧Bi (Eo b).n∧It (Eo b).cases∧(Eo b).cases.length<=2 ^ 47∧(Eo b).to.length<=2 ^ 47∧∀e∈(Eo b).to,e.fit:=by
  unfold Eo;split
  ·exact⟨qY,qY,by simp[It],A6,A6,fun e he=>by cases he⟩
  exact⟨t1,t3,t4,t5,t6,t7⟩
 obtain⟨u1,u2,u3,u4,u5,u6⟩:=hT;refine⟨by simp[It,DU],by simp[DU],?_,fun i hi=>?_,u1,?_,u2,u3,u4,u5,u6⟩
 ·unfold DU;simp only;split<;>simp
 ·unfold DU at hi;simp only at hi;split at hi
  ·rw[Fq]at hi;subst hi;exact⟨hkf,hz,hz,by simp[It],A6⟩
  cases hi
 unfold DU;simp only;split
 ·exact hkf
 exact hz
theorem qef{c:Nat}(k:Nat){ls:List (List Int)}(e:Edge)(h:∀l∈ls,l.length<=c):∀l∈Ka k ls e,l.length<=c+1:=fun l hl=>by
 unfold Ka at hl;rcases KE hl with q|q
 ·have:=h l q;omega
 rw[q,Bf,IU];cases hq:ls[e.block.toNat]? with
 | none=>simp
 | some m =>
  have:=h m (AK hq);exact NI
theorem uz{c:Nat}(k:Nat):∀(es:List Edge) {ls:List (List Int)},(∀l∈ls,l.length<=c)->∀l∈LV k ls es,l.length<=c+es.length
 | [],_,h=>h
 | e::r,ls,h=>by
  intro l hl;have:=uz (c:=c+1) k r (qef k e h) l hl;rw[CE];omega
theorem vB:∀(bs:List Block) {k c:Nat} {ls:List (List Int)},(∀b∈bs,b.term.to.length<=257)->(∀l∈ls,l.length<=c)->∀l∈N3 k ls bs,l.length<=c+bs.length*257
 | [],_,c,_,_,h=>by simpa[N3]using h
 | b::r,k,c,ls,hb,h=>by
  intro l hl;have h1:=hb b DQ;have:=vB r (k:=k+1) (c:=c+b.term.to.length) (fun x hx=>hb x (Dw _ hx)) (uz k b.term.to h) l hl;rw[CE];omega
section
variable {f:Func} (AO:f.fit) (hm:Lc f) (hc:Cj (BT f)=0)
include AO hm hc
theorem Uz:FN (BT f):=(Mp (fR AO) hc).gr
theorem mo:(Bj (BT f)).fit:=qel (fR AO) (Uz AO hm hc)
theorem wN:Cj (Bj (BT f))=0:=qcL (fR AO) hc
theorem Yz:FN (Bj (BT f)):=(Mp (mo AO hm hc) (wN AO hm hc)).gr
theorem Wj:(Bp f).blocks.length=(Bj (BT f)).blocks.length:=by
 unfold Bp;rw[BE,Q0]
theorem Yw(h:(Bp f).blocks[j]?=some b):∃(k:Nat) (c:Block),(DP (BT f))[j]?=some (k:Int)∧f.blocks[k]?=some c∧b=Dq c (A7 (Bj (BT f)) (j:Int)).term.to:=by
 have hw:=Kx (Uz AO hm hc);unfold Bp at h;rw[Bv,PB]at h;obtain⟨k,hk,rfl⟩:=h;have hr:=hw.range k (LL.1 (AK hk));rw[Nz]at hr;refine⟨k.toNat,A7 f k,by rw[hk];congr 1;omega,K7 hr.1 hr.2,?_⟩;rw[Yp hw hk]
theorem wO(hj:j<(Bj (BT f)).blocks.length):(A7 (Bj (BT f)) (j:Int)).term.to.length<=257∧∀e∈(A7 (Bj (BT f)) (j:Int)).term.to,1<=e.block∧e.block<(Bp f).blocks.length∧e.args=[]:=by
 have hg:=Yz AO hm hc;have hb:=K7 (f:=Bj (BT f)) (k:=(j:Int)) I I;rw[BH]at hb;have C5:=AK hb;refine⟨hg.to _ C5,fun e he=>?_⟩;have:=hg.DN _ C5 e he;rw[Wj AO hm hc];refine⟨this.1,this.2,?_⟩;obtain⟨k,q1,q2⟩:=Xs.1 hb;rw[q2,Q8]at he;obtain⟨x,hx,rfl⟩:=List.mem_map.1 he;show x.args=[]
 have hw:=Kx (Uz AO hm hc);have hr:=hw.range k (LL.1 (AK q1));rw[Nz]at hr;have hk:=K7 hr.1 hr.2;have Hu:=Wy hk;have Po:A7 (BT f) k=DU k.toNat (A7 f k):=by
  unfold A7 at Hu ⊢;rw[Hu];rfl
 rw[Po]at hx;have L8:x∈(Eo (A7 f k)).to:=hx;unfold Eo at L8;split at L8
 ·cases L8
 have hE:=LS (hm.fin _ (AK hk));obtain⟨⟨p1,p2⟩,p3⟩:=hE.DN x L8;have CN:=K7 (f:=f) (k:=x.block) I I;rw[hm.bare _ _ CN I]at p3;exact List.length_eq_zero_iff.1 p3
theorem yu:GfW (Bp f) (N1 f).toNat:=by
 have hw:=Kx (Uz AO hm hc);have hg:=Yz AO hm hc;have hl:=Wj AO hm hc;have SS:=va hm;have Em:∀b∈(Bp f).blocks,∃c∈f.blocks,b.params=c.params∧b.ins=c.ins∧b.term.arg=c.term.arg:=fun b hb=>by
  obtain⟨j,hj⟩:=List.mem_iff_getElem?.1 hb;obtain⟨k,c,_,h2,rfl⟩:=Yw AO hm hc hj;exact⟨c,AK h2,rfl,rfl,rfl⟩
 have G2:∀v:Int,0<=v->v+1<=N1 f->Ob (N1 f).toNat v:=fun v h0 h1=>by
  unfold Ob;omega
 refine⟨?_,I,fun j b hj h0=>?_,fun b hb=>?_,fun b hb=>?_,fun b hb=>?_,fun b hb=>?_⟩
 ·rw[hl];exact⟨by have:=List.length_pos_iff.2 hg.ne;omega,hg.few⟩
 ·obtain⟨k,c,h1,h2,rfl⟩:=Yw AO hm hc hj;have hk:k≠0:=fun e=>by
   subst e;have:=lT hw h1 (lA hw);omega
  exact hm.bare k c h2 I
 ·obtain⟨c,FQ,h1,_⟩:=Em b hb;rw[h1];refine⟨?_,fun v hv=>?_⟩
  ·obtain⟨k,hk⟩:=List.mem_iff_getElem?.1 FQ;by_cases e:k=0
   ·subst e;have:=hm.args;unfold A7 at this;rw[show((0:Int).toNat)=0 from rfl,hk]at this;simp only[Fp]at this;omega
   rw[hm.bare k c hk I];simp
  exact G2 v (RN.1 (hm.X2 c FQ v hv)).1 (((cm f.blocks 0).2 c FQ).2.1 v hv)
 ·obtain⟨c,FQ,_,h2,_⟩:=Em b hb;rw[h2];refine⟨by have:=hm.ins c FQ;omega,fun i hi=>?_⟩;obtain⟨q1,q2,q3,_⟩:=lQ hm FQ hi;have hM:=((cm f.blocks 0).2 c FQ).2.2 i hi;exact⟨G2 _ q1.1 hM.1,fun a ha=>G2 a (q2 a ha).1 (hM.2 a ha),I⟩
 ·obtain⟨c,FQ,_,_,h3⟩:=Em b hb;rw[h3];exact G2 _ (RN.1 (hm.arg c FQ)).1 ((cm f.blocks 0).2 c FQ).1
 obtain⟨j,hj⟩:=List.mem_iff_getElem?.1 hb;have Ff:=AE hj;rw[hl]at Ff;obtain⟨k,c,_,_,rfl⟩:=Yw AO hm hc hj;exact wO AO hm hc Ff
theorem bq:Oa (Bp f) (Cf (Bj (BT f))) (Eb (Bj (BT f))) (GO f) (N1 f).toNat (Bp f).blocks.length:=by
 have hg:=Yz AO hm hc;have hw:=Kx hg;have hl:=Wj AO hm hc;have ED:∀k∈Cf (Bj (BT f)),0<=k∧k<(Bp f).blocks.length:=fun k hk=>by
  obtain⟨i,hi⟩:=List.mem_iff_getElem?.1 hk;have:=hw.range k (by rw[hw.at_ i k hi];omega);rw[hl];exact Cd
 have hN:=wB (g:=Bp f) (many:=(N1 f).toNat) ED;have Em:∀b∈(Bp f).blocks,∃c∈f.blocks,b.ins=c.ins∧b.term.cases=c.term.cases:=fun b hb=>by
  obtain⟨j,hj⟩:=List.mem_iff_getElem?.1 hb;obtain⟨k,c,_,h2,rfl⟩:=Yw AO hm hc hj;exact⟨c,AK h2,rfl,rfl⟩
 refine⟨yu AO hm hc,rfl,ED,fun i j k hi hj=>?_,fun i k p hi hk hp=>?_,hw.few,by rw[vF,hl],fun l hlm=>?_,hN.1,hN.2,fun b hb=>?_,fun b hb i hi=>?_⟩
 ·have h1:=hw.at_ i k hi;have h2:=hw.at_ j k hj;omega
 ·have:=qbx hg hi;rw[hp]at this;simp only[Hq,F0,Cp,Fp,List.any_cons,List.any_nil,iO]at this;rcases this with q|q
  ·exact B3 q.2 hk
  exact wE.1 q
 ·have:=vB (Bj (BT f)).blocks (k:=0) (c:=0) (ls:=List.replicate (Bj (BT f)).blocks.length []) hg.to (fun l hl=>aal) l hlm;have hf:=hg.few;omega
 ·obtain⟨c,FQ,_,h2⟩:=Em b hb;rw[h2];have:=(LS (hm.fin c FQ)).cases;omega
 obtain⟨c,FQ,h1,_⟩:=Em b hb;rw[h1]at hi;exact(lQ hm FQ hi).2.2.2
theorem mi(hj:j<(Bp f).blocks.length):(j:Int)∈Cf (Bj (BT f)):=by
 have hw:=Kx (Yz AO hm hc);have Br:=qej (Uz AO hm hc) hw;rw[Wj AO hm hc]at hj;rw[bH hw]at Br;have:=List.length_filter_eq_length_iff.1 (Br.trans (by rw[BE,N7])) (j:Int) (List.mem_map.2 ⟨j,List.mem_range.2 hj,rfl⟩);exact AK (hw.get _ (T' this))
end
def EF(E:Env):Prop:=∀v x,E v=some x->Bi x
theorem EF.get(h:EF E)(v:Int):Bi (FL E v):=by
 unfold FL;cases hE:E v with
 | none=>unfold Bi;simp
 | some x=>exact h v x hE
theorem EF.none:EF Fc:=fun v x h=>by cases h
theorem EF.up(h:EF E)(v:Int){x:Int}(hx:Bi x):EF (F8 E v x):=fun w y hy=>by
 unfold F8 at hy;split at hy
 ·rw[AM]at hy;rw[<-hy];exact hx
 exact h w y hy
theorem EF.SH:∀(l:List Int) {E:Env} {nx:Int},EF E->0<=nx->nx+l.length<=2 ^ 40->EF (DF E nx l)
 | [],_,_,h,_,_=>h
 | a::r,E,nx,h,h0,h1=>by
  rw[CE]at h1;rw[DF];exact EF.SH r (h.up a Rg) I I
theorem qeB{l:List Int}(h:It l):Bi (l.headD 0):=by
 cases l with
 | nil=>unfold Bi;simp
 | cons a r=>exact h a DQ
theorem ll:∀(l:List Ins) {E:Env} {nx:Int},EF E->0<=nx->nx+l.length<=2 ^ 40->(∀i∈l,i.fit)->EF (C4 E nx l).1∧(C4 E nx l).2.2.length<=l.length∧∀i∈(C4 E nx l).2.2,i.fit∧i.op≠100
 | [],_,_,h,_,_,_=>⟨h,B6 _,fun i hi=>by cases hi⟩
 | i::r,E,nx,h,h0,h1,hl=>by
  rw[CE]at h1;have hi:=hl i DQ;have hr:=fun x hx=>hl x (Dw i hx);have JE:It (i.args.map (FL E)):=fun x hx=>by
   obtain⟨a,_,rfl⟩:=List.mem_map.1 hx;exact h.get a
  rw[C4];split
  ·obtain⟨q1,q2,q3⟩:=ll r (h.up i.to (qeB JE)) h0 I hr;exact⟨q1,pw,q3⟩
  rename_i AT;have hx:Bi nx:=Rg
  obtain⟨q1,q2,q3⟩:=ll r (h.up i.to hx) (by omega:0<=nx+1) I hr;refine⟨q1,by simp only[CE];omega,fun j hj=>?_⟩;rcases List.mem_cons.1 hj with e|e
  ·subst e;exact⟨⟨hx,hi.2.1,hi.2.2.1,JE,by rw[BE];exact hi.2.2.2.2⟩,AT⟩
  exact q3 j e
structure BkF(b:Block):Prop where
 par:It b.params
 qmF:b.params.length<=8192
 qmi:b.ins.length<=16384
 ins:∀i∈b.ins,i.fit∧i.op≠100
 kind:Bi b.term.kind
 arg:Bi b.term.arg
 n:Bi b.term.n
 cases:It b.term.cases
 qls:b.term.cases.length<=2 ^ 47
structure WsF(S:Ws)(i:Nat):Prop where
 nx:0<=S.nx∧S.nx<=i*20000
 ee:∀j,EF (S.EE j)
 b:∀j b,S.B j=some b->BkF b
theorem tc{n:Int}(h0:0<=n)(h1:n+k<=2 ^ 40):It (Cu n k):=fun x hx=>by
 unfold Cu at hx;obtain⟨i,hi,rfl⟩:=List.mem_map.1 hx;have:=List.mem_range.1 hi;unfold Bi;omega
section
variable {g:Func} {ord:List Int} {inn:List (List Int)} {N:List (List Bool)} {many n:Nat}
theorem qiA(h:Oa g ord inn N many n){k:Nat}(hk:k<n){S:Ws}{i:Nat}(hS:WsF S i)(hi:i<=128) :
  EF (Cl g inn N k S).E∧It (Cl g inn N k S).ps∧(Cl g inn N k S).ps.length<=8192∧∀j∈(Cl g inn N k S).is,j.fit∧j.op≠100:=by
 obtain⟨h1,h2,h3,h4,h5⟩:=h.row hk;have hm:=h.gw.SI;have Od:=hS.nx;have e1:=Xk (N.getD k []) 0;have e2:=PC (p:=id) (l:=N.getD k []);unfold Cl;split
 ·rename_i e;subst e;have hz:=mO (DF Fc S.nx (A7 g 0).params) (N.getD 0 []) (N.getD 0 []).length;have hp:=(h.gw.X2 _ (AK h5)).1;have Vo:(A7 g 0).params.length<=4096:=hp;refine⟨EF.SH _ (EF.SH _ EF.none I I) I I,tc I I,by rw[Q2];omega,fun j hj=>?_⟩;obtain⟨x,hx,rfl⟩:=List.mem_map.1 hj;have:=tc (n:=S.nx+(A7 g 0).params.length) (k:=(H9 (DF Fc S.nx (A7 g 0).params) (N.getD 0 []) (N.getD 0 []).length).length) I I x hx;exact⟨⟨this,by unfold Bi sI;simp,by unfold Bi sI;simp,fun y hy=>(by simp[sI]at hy),by simp[sI]⟩,by simp[sI]⟩
 split
 ·exact⟨hS.ee _,fun x hx=>(by simp at hx),A6,fun j hj=>qu⟩
 exact⟨EF.SH _ EF.none I I,tc I I,by rw[Q2];omega,fun j hj=>qu⟩
theorem qfW(h:Oa g ord inn N many n)(hg:∀b∈g.blocks,b.fit){k:Nat}(hk:k<n){S:Ws}{i:Nat}(hS:WsF S i)(hi:i<128):WsF (Is g inn N k S) (i+1):=by
 obtain⟨h1,h2,h3,h4,h5⟩:=h.row hk;obtain⟨w1,w2,w3,w4⟩:=qiA h hk hS I;obtain⟨c1,c2,c3⟩:=cc h hk S;have C5:=AK h5;have hib:=(h.gw.ins _ C5).1;obtain⟨b1,b2,b3,b4,t1,t2,t3,t4,t5,t6,t7⟩:=hg _ C5;have Od:=hS.nx;have G2:=eX (A7 g k).ins (Cl g inn N k S).E (Cl g inn N k S).nx;obtain⟨q1,q2,q3⟩:=ll (A7 g k).ins w1 (nx:=(Cl g inn N k S).nx) I I b4;refine⟨?_,fun j=>?_,fun j b hb=>?_⟩
 ·exact adJ
 ·unfold Is;simp only;split
  ·exact q1
  exact hS.ee j
 unfold Is at hb;simp only at hb;split at hb
 ·rw[AM]at hb;subst hb;refine⟨w2,w3,by simp only[Bf];omega,fun j hj=>?_,t1,?_,t3,t4,t5⟩
  ·rcases List.mem_append.1 hj with e|e
   ·exact w4 j e
   exact q3 j e
  show Bi (QT _ _);unfold QT;split
  ·exact q1.get _
  unfold Bi;simp
 exact hS.b j b hb
theorem wL(h:Oa g ord inn N many n)(hg:∀b∈g.blocks,b.fit):∀(i:Nat),i<=ord.length->WsF (Dk g inn N (ord.take i)) i
 | 0,_=>⟨aab,fun j=>EF.none,fun j b hb=>by cases hb⟩
 | i+1,hi=>by
  have ih:=wL h hg i I;have hk:ord[i]?=some (ord[i]' I):=AY _;have hr:=h.MW _ (AK hk);have Aj:Dk g inn N (ord.take (i+1))=Is g inn N (ord[i]' I).toNat (Dk g inn N (ord.take i)):=by
   rw[Fs,hk];unfold Dk;rw[dE];rfl
  rw[Aj];have:=h.few;exact qfW h hg I ih I
end
section
variable {f:Func} (AO:f.fit) (hm:Lc f) (hc:Cj (BT f)=0)
include AO hm hc
theorem qiU:∀b∈(Bp f).blocks,b.fit:=fun b hb=>by
 obtain⟨j,hj⟩:=List.mem_iff_getElem?.1 hb;have Ff:=AE hj;obtain⟨k,c,_,h2,rfl⟩:=Yw AO hm hc hj;rw[Wj AO hm hc]at Ff;obtain⟨b1,b2,b3,b4,t1,t2,t3,t4,t5,t6,t7⟩:=AO.2.2 _ (AK h2);obtain⟨e1,e2⟩:=wO AO hm hc Ff;have hf:=(yu AO hm hc).few;refine⟨b1,b2,b3,b4,t1,t2,t3,t4,t5,NC e1 EW,fun e he=>?_⟩;obtain⟨p1,p2,p3⟩:=e2 e he;exact⟨Rg,by rw[p3];simp[It],by rw[p3];simp⟩
theorem qlu:WsF (Sv f) 128:=by
 have hW:=bq AO hm hc;have:=wL hW (qiU AO hm hc) _ (B6 _);rw[Jk]at this;refine⟨⟨this.nx.1,?_⟩,this.ee,this.b⟩;have h1:=this.nx.2;have h2:=hW.few;unfold Sv;omega
theorem qkG(hb:b∈(Hk f).blocks):∃j:Nat,j<(Bp f).blocks.length∧b=OR (Bp f) (Eb (Bj (BT f))) (GO f) (Sv f) j:=by
 unfold Hk at hb;obtain⟨j,hj,rfl⟩:=List.mem_map.1 hb;exact⟨j,List.mem_range.1 hj,rfl⟩
theorem qkH:(Hk f).fit:=by
 have hW:=bq AO hm hc;have hS:=qlu AO hm hc;have hfw:=hW.gw.few;refine⟨AO.1,?_,fun b hb=>?_⟩
 ·unfold Hk;rw[BE,N7];omega
 obtain⟨j,hj,rfl⟩:=qkG AO hm hc hb;obtain⟨h1,h2,h3,h4,h5⟩:=hW.row hj;obtain⟨p1,p2⟩:=hW.gw.to _ (AK h5);have hz:Bi 0:=qY
 have DM:((A7 (Bp f) j).term.to.map (NS (Eb (Bj (BT f))) (GO f) ((Sv f).EE j))).length<=2 ^ 47∧∀e∈(A7 (Bp f) j).term.to.map (NS (Eb (Bj (BT f))) (GO f) ((Sv f).EE j)),e.fit:=by
  refine⟨by rw[BE];exact NC p1 EW,fun e he=>?_⟩;obtain⟨x,hx,rfl⟩:=List.mem_map.1 he;obtain⟨x1,x2,x3⟩:=p2 x hx;obtain⟨_,r2,_⟩:=hW.row (k:=x.block.toNat) I;have SS:=hW.gw.SI;refine⟨by show Bi x.block;unfold Bi;omega,?_,?_⟩
  ·unfold NS;simp only;split
   ·intro y hy;obtain⟨v,_,rfl⟩:=List.mem_map.1 hy;exact(hS.ee j).get v
   simp[It]
  unfold NS;simp only;split
  ·rw[BE];have e1:=Xk ((GO f).getD x.block.toNat []) 0;have e2:=PC (p:=id) (l:=(GO f).getD x.block.toNat []);omega
  simp
 unfold OR;cases hB:(Sv f).B j with
 | none=>exact⟨by simp[It,Dq],jU,jU,fun i hi=>(by simp[Dq]at hi),hz,hz,hz,by simp[It,Dq],jU,DM.1,DM.2⟩
 | some c =>
  have q:=hS.b j c hB;exact⟨q.par,NC q.qmF EW,NC q.qmi EW,fun i hi=>(q.ins i hi).1,q.kind,q.arg,q.n,q.cases,q.qls,DM.1,DM.2⟩
end
theorem lH:∀(l r:List Ins) (E:Env) (nx:Int),C4 E nx (l++r)=((C4 (C4 E nx l).1 (C4 E nx l).2.1 r).1,(C4 (C4 E nx l).1 (C4 E nx l).2.1 r).2.1,(C4 E nx l).2.2++(C4 (C4 E nx l).1 (C4 E nx l).2.1 r).2.2)
 | [],r,E,nx=>rfl
 | i::l,r,E,nx=>by
  rw[JR,C4,C4];split
  ·exact lH l r _ _
  simp only[lH l r,JR]
def EB(E:Env)(b:Int):Prop:=∀w y,E w=some y->y<b
theorem EB.mono{a b:Int}(h:EB E a)(R7:a<=b):EB E b:=fun w y hw=>by have:=h w y hw;omega
theorem EB.none(b:Int):EB Fc b:=fun w y hw=>by cases hw
theorem EB.up{b:Int}(h:EB E b)(v:Int){x:Int}(hx:x<b):EB (F8 E v x) b:=fun w y hw=>by
 unfold F8 at hw;split at hw
 ·rw[AM]at hw;omega
 exact h w y hw
theorem EB.SH:∀(l:List Int) {E:Env} {nx:Int},EB E nx->EB (DF E nx l) (nx+l.length)
 | [],E,nx,h=>h.mono A6
 | a::r,E,nx,h=>by
  rw[DF,CE];exact(EB.SH r ((h.mono (by omega:nx<=nx+1)).up a I)).mono I
theorem EB.ins:∀(l:List Ins) {E:Env} {nx:Int},EB E nx->(∀(A B:List Ins) i,l=A++i::B->i.op=100->∃a y,i.args=[a]∧(C4 E nx A).1 a=some y)->EB (C4 E nx l).1 (C4 E nx l).2.1
 | [],E,nx,h,_=>h
 | i::r,E,nx,h,hc=>by
  rw[C4];split
  ·rename_i DG;obtain⟨a,y,h1,h2⟩:=hc [] r i rfl DG;have h2:E a=some y:=h2;have he:(i.args.map (FL E)).headD 0=y:=by
    rw[h1];show FL E a=y;unfold FL;rw[h2];rfl
   rw[he];refine EB.ins r (h.up i.to (h a y h2)) fun A B j hj q=>?_;obtain⟨a',y',q1,q2⟩:=hc (i::A) B j (by rw[hj];rfl) q;refine⟨a',y',q1,?_⟩;rw[C4,A9 DG,he]at q2;exact q2
  rename_i DG;refine EB.ins r ((h.mono (by omega:nx<=nx+1)).up i.to I) fun A B j hj q=>?_;obtain⟨a',y',q1,q2⟩:=hc (i::A) B j (by rw[hj];rfl) q;refine⟨a',y',q1,?_⟩;rw[C4,A4 DG]at q2;exact q2
theorem VE.bind:∀(P:List Int) (args:List SV) {E:Env} {nx:Int} {es es':List (Int×SV)},P.length=args.length->VE E es es'->EB E nx->VE (DF E nx P) (C7 es P args) (C7 es' (Cu nx P.length) args)
 | [],[],E,nx,es,es',_,h,_=>h
 | [],_::_,_,_,_,_,hl,_,_=>by simp at hl
 | _::_,[],_,_,_,_,hl,_,_=>by simp at hl
 | p::P,a::args,E,nx,es,es',hl,h,hb=>by
  have PI:Cu nx (P.length+1)=nx::Cu (nx+1) P.length:=by
   refine ru ?_;exact Rb fun k _=>by
    exact rU
  rw[CE,PI,DF,C7,C7];exact VE.bind P args OL (h.put (fun w y hw=>by have:=hb w y hw;omega) a) ((hb.mono (by omega:nx<=nx+1)).up p I)
theorem VE.y9:∀(z:List Int) {E:Env} {nx:Int} {es es':List (Int×SV)},VE E es es'->EB E nx->(∀w∈z,Bq es w=.word 0)->VE (DF E nx z) es (bN (Cu nx z.length) es')
 | [],E,nx,es,es',h,_,_=>h
 | w::z,E,nx,es,es',h,hb,hz=>by
  have PI:Cu nx (z.length+1)=nx::Cu (nx+1) z.length:=by
   refine ru ?_;exact Rb fun k _=>by
    exact rU
  rw[CE,PI,DF];unfold bN;rw[HG];refine VE.y9 z (E:=F8 E w nx) ?_ ((hb.mono (by omega:nx<=nx+1)).up w I) fun v hv=>hz v (Dw _ hv);intro v x hx;rw[Nv];unfold F8 at hx;split at hx
  ·rename_i e;rw[AM]at hx;rw[A9 hx,e,hz w DQ]
  have:=hb v x hx;rw[A4 I];exact h v x hx
theorem VE.pass{E1:Env}{es es1:List (Int×SV)}:∀(l:List Int) {E:Env} {nx:Int} {es':List (Int×SV)},VE E es es'->EB E nx->VE (DF E nx l) es (C7 es' (Cu nx l.length) (BV es l))
 | [],E,nx,es',h,_=>by
  have:C7 es' (Cu nx ([]:List Int).length) (BV es [])=es':=rfl;rw[this];exact h
 | w::l,E,nx,es',h,hb=>by
  have PI:Cu nx (l.length+1)=nx::Cu (nx+1) l.length:=by
   refine ru ?_;exact Rb fun k _=>by
    exact rU
  rw[CE,PI,DF];show VE _ es (C7 (CQ es' nx (Bq es w)) (Cu (nx+1) l.length) (BV es l));refine VE.pass (E1:=E1) (es1:=es1) l ?_ ((hb.mono (by omega:nx<=nx+1)).up w I);intro v x hx;rw[Nv];unfold F8 at hx;split at hx
  ·rename_i e;rw[AM]at hx;rw[A9 hx,e]
  have:=hb v x hx;rw[A4 I];exact h v x hx
theorem qbL{k:Int}{S:Ng}(h:(Ny g many k S).again=false):Ny g many k S=S∧KA g many S.N k=G5 S.N k:=by
 unfold Ny at h ⊢;split
 ·rename_i e;exact⟨rfl,e⟩
 rename_i e;rw[A4 e]at h;cases h
theorem uv{g:Func}{many:Nat}:∀(l:List Int) {S:Ng},(LC g many l S).again=false->LC g many l S=S∧∀k∈l,KA g many S.N k=G5 S.N k
 | [],S,h=>⟨rfl,fun k hk=>by cases hk⟩
 | k::r,S,h=>by
  have e:LC g many (k::r) S=Ny g many k (LC g many r S):=rfl;rw[e]at h ⊢;obtain⟨q1,q2⟩:=qbL h;rw[q1]at h ⊢;obtain⟨q3,q4⟩:=uv r h;rw[q3]at q2 ⊢;refine⟨rfl,fun j hj=>?_⟩;rcases List.mem_cons.1 hj with p|p
  ·rw[p];exact q2
  exact q4 j p
theorem x8{g:Func}{many:Nat}{ord:List Int}(ho:∀k∈ord,0<=k∧k<g.blocks.length):∀(n:Nat) {S:Ng},Rw g many ord S->S.weight many<n->(∀k∈ord,S.again=false->KA g many S.N k=G5 S.N k)->∀k∈ord,KA g many (Pu g many ord n S).N k=G5 (Pu g many ord n S).N k
 | 0,S,_,h,_,_,_=>by omega
 | n+1,S,hS,hw,hf,k,hk=>by
  rw[Pu];split
  ·obtain⟨r1,r2,r3⟩:=fV ord (S:=⟨S.N,false⟩) ⟨hS.len,hS.sz,hS.low⟩ fun x hx=>⟨hx,ho x hx⟩
   have PS:(⟨S.N,false⟩:Ng).weight many=S.weight many:=rfl;cases ha:(LC g many ord ⟨S.N,false⟩).again with
   | false =>
    obtain⟨p1,p2⟩:=uv ord ha;rw[p1,vp rfl];exact p2 k hk
   | true =>
    rcases r3 ha with q|q
    ·cases q
    exact x8 ho n r1 I (fun j hj q2=>by rw[ha]at q2;cases q2) k hk
  rename_i h;exact hf k hk Aa
theorem qeb(ho:∀k∈ord,0<=k∧k<g.blocks.length)(h1:g.blocks.length<=128)(h2:many<=4096):∀k∈ord,KA g many (Uv g many ord) k=G5 (Uv g many ord) k:=by
 refine x8 ho 700000 (mw g many ord) ?_ fun k hk h=>NG
 have:=tt g.blocks.length many;have h3:g.blocks.length*many<=128*4096:=pW h1 h2;omega
def DE(E:Env)(s:List Bool):Prop:=∀v:Nat,Hs s v->∃y,E (v:Int)=some y
theorem tX:∀(l:List Int) {E:Env} {nx w:Int},(∃y,E w=some y)->∃y,DF E nx l w=some y
 | [],_,_,_,h=>h
 | a::r,E,nx,w,h=>by
  rw[DF];refine tX r ?_;unfold F8;by_cases e:w=a
  ·exact⟨nx,A9 e⟩
  rw[A4 e];exact h
theorem ku:∀(l:List Int) {E:Env} {nx w:Int},w∈l->∃y,DF E nx l w=some y
 | a::r,E,nx,w,h=>by
  rw[DF];rcases List.mem_cons.1 h with e|e
  ·refine tX r ⟨nx,?_⟩;unfold F8;rw[A9 e]
  exact ku r e
theorem DE.up{i:Ins}(h:DE E (Mz i s))(h0:0<=i.to)(x:Int):DE (F8 E i.to x) s:=fun v hv=>by
 unfold F8;by_cases e:(v:Int)=i.to
 ·exact⟨x,A9 e⟩
 rw[A4 e];exact h v ((lG i s v).2 (.inl ⟨I,hv⟩))
theorem DE.ins:∀(l:List Ins) {E:Env} {nx:Int} {s:List Bool},DE E (HP l s)->(∀i∈l,0<=i.to)->DE (C4 E nx l).1 s
 | [],_,_,_,h,_=>h
 | i::r,E,nx,s,h,h0=>by
  have hr:=fun j hj=>h0 j (Dw i hj);have hb:DE E (Mz i (HP r s)):=h;rw[C4];split
  ·exact DE.ins r (hb.up (h0 i DQ) _) hr
  exact DE.ins r (hb.up (h0 i DQ) _) hr
theorem DE.arg{i:Ins}(h:DE E (Mz i s)){a:Int}(ha:a∈i.args)(h0:0<=a)(h1:a<s.length):∃y,E a=some y:=by
 have:=h a.toNat ((lG i s a.toNat).2 (.inr ⟨I,a,ha,rfl⟩))
 rwa [show((a.toNat:Nat):Int)=a from I]at this
theorem qdw(l r:List Ins)(s:List Bool):HP (l++r) s=HP l (HP r s):=by
 unfold HP;rw[List.foldr_append]
structure Vc(g:Func)(ord:List Int)(inn:List (List Int))(N:List (List Bool))(many n:Nat):Prop where
 w:Oa g ord inn N many n
 fix:∀k∈ord,KA g many N k=G5 N k
 pred:∀(k:Nat) p,k<n->p∈inn.getD k []->∃e∈(A7 g p).term.to,e.block=k
 succ:∀(j:Nat) e,j<n->e∈(A7 g j).term.to->(j:Int)∈inn.getD e.block.toNat []
 all:∀j<n,(j:Int)∈ord
section
variable {g:Func} {ord:List Int} {inn:List (List Int)} {N:List (List Bool)} {many n:Nat}
theorem Xv(hk:ord[i]?=some (k:Int)):Dk g inn N (ord.take (i+1))=Is g inn N k (Dk g inn N (ord.take i)):=by
 rw[Fs,hk];unfold Dk;rw[dE];rfl
theorem lJ(k:Nat)(S:Ws):(Is g inn N k S).EE k=(C4 (Cl g inn N k S).E (Cl g inn N k S).nx (A7 g k).ins).1 ∧
  (Is g inn N k S).B k=some ⟨(Cl g inn N k S).ps,(Cl g inn N k S).is++(C4 (Cl g inn N k S).E (Cl g inn N k S).nx (A7 g k).ins).2.2,⟨(A7 g k).term.kind,QT (C4 (Cl g inn N k S).E (Cl g inn N k S).nx (A7 g k).ins).1 (A7 g k).term,(A7 g k).term.n,(A7 g k).term.cases,[]⟩⟩:=by
 unfold Is;simp
theorem lK(h:j≠k)(S:Ws):(Is g inn N k S).EE j=S.EE j∧(Is g inn N k S).B j=S.B j:=by
 unfold Is;simp[h]
theorem tV(h:Oa g ord inn N many n){i k:Nat}(hk:ord[i]?=some (k:Int)):∀d,i+1+d<=ord.length->(Dk g inn N (ord.take (i+1+d))).EE k=(Is g inn N k (Dk g inn N (ord.take i))).EE k∧(Dk g inn N (ord.take (i+1+d))).B k=(Is g inn N k (Dk g inn N (ord.take i))).B k
 | 0,_=>by rw[J4,Xv hk];exact eH
 | d+1,hd=>by
  have ih:=tV h hk d I;have hj:ord[i+1+d]?=some (ord[i+1+d]' I):=AY _;have hr:=h.MW _ (AK hj);obtain⟨j,Gl⟩:∃j:Nat,ord[i+1+d]' I=(j:Int):=⟨(ord[i+1+d]' I).toNat,I⟩
  rw[Gl]at hj;have AT:k≠j:=fun e=>by
   subst e;have:=h.nd _ _ _ hk hj;omega
  rw[<-Y6,Xv hj,(lK AT _).1,(lK AT _).2];exact ih
theorem adf(h:Vc g ord inn N many n){k j:Nat}(hk:k<n)(Ln:0<k)(hj:j<n){e:Edge}(he:e∈(A7 g j).term.to)(hek:e.block=k){v:Nat}(hv:Hs (N.getD k []) v):Hs (OC g many N (A7 g j).term) v:=by
 have hl:=(h.w.row hk).2.1;refine(lk g many N _ v).2 ⟨by have:=hv.lt;omega,.inl ⟨e,he,?_,?_⟩⟩
 ·rw[hek];unfold G5;rw[BH,<-KC];exact hv
 rw[hek];have:=h.w.gw.par k _ (h.w.row hk).2.2.2.2 Ln;rw[this];rfl
structure XI(g:Func)(ord:List Int)(inn:List (List Int))(N:List (List Bool))(many i:Nat):Prop where
 ee:∀j,EB ((Dk g inn N (ord.take i)).EE j) (Dk g inn N (ord.take i)).nx
 Tp:∀j∈ord.take i,DE ((Dk g inn N (ord.take i)).EE j.toNat) (OC g many N (A7 g j).term)
theorem wK(h:Vc g ord inn N many n){i k:Nat}(hI:XI g ord inn N many i)(hk:ord[i]?=some (k:Int)) :
  DE (Cl g inn N k (Dk g inn N (ord.take i))).E (N.getD k [])∧EB (Cl g inn N k (Dk g inn N (ord.take i))).E (Cl g inn N k (Dk g inn N (ord.take i))).nx:=by
 have EG:k<n:=j8
 generalize hS:Dk g inn N (ord.take i)=S at *;have he:=hI.ee;have hd:=hI.Tp;rw[hS]at he hd;unfold Cl;by_cases e:k=0
 ·subst e;rw[A9 rfl];refine⟨fun v hv=>?_,?_⟩
  ·show ∃y,DF (DF Fc S.nx (A7 g 0).params) _ _ (v:Int)=some y;cases hq:DF Fc S.nx (A7 g 0).params (v:Int)with
   | some y=>exact tX _ ⟨y,hq⟩
   | none =>
    refine ku _ ?_;unfold H9;rw[Jk];refine List.mem_filter.2 ⟨?_,by rw[hq];rfl⟩;have:=tG (N.getD 0 []) 0 hv
    rwa [Db]at this
  exact(EB.SH _ (EB.SH _ (EB.none S.nx))).mono A6
 rw[A4 e];by_cases e1:(inn.getD k []).length=1
 ·rw[A9 e1];obtain⟨p,hp⟩:=List.length_eq_one_iff.1 e1;have hpt:=h.w.one i k p hk I (by rw[BH,(h.w.row EG).2.2.1,hp]);have Gn:=h.w.MW p (KF hpt);obtain⟨x,hx,hxk⟩:=h.pred k p EG (by rw[hp];simp);rw[hp];refine⟨fun v hv=>?_,he _⟩;have Li:((p.toNat:Nat):Int)=p:=I
  exact hd p hpt v (by
   have:=adf h EG I (j:=p.toNat) I (e:=x) (by rw[Li];exact hx) hxk hv
   rwa [Li]at this)
 rw[A4 e1];refine⟨fun v hv=>ku _ ?_,EB.SH _ (EB.none _)⟩;have:=tG (N.getD k []) 0 hv
 rwa [Db]at this
theorem qbt(h:Vc g ord inn N many n){k:Nat}(EG:k<n):N.getD k []=HP (A7 g k).ins (OC g many N (A7 g k).term):=by
 have:=h.fix (k:Int) (h.all k EG);unfold G5 at this;rw[BH,<-KC]at this;rw[<-this];rfl
theorem mn(h:Vc g ord inn N many n){i k:Nat}(hI:XI g ord inn N many i)(hk:ord[i]?=some (k:Int)){A B:List Ins}(Ts:(A7 g k).ins=A++B) :
  DE (C4 (Cl g inn N k (Dk g inn N (ord.take i))).E (Cl g inn N k (Dk g inn N (ord.take i))).nx A).1 (HP B (OC g many N (A7 g k).term)):=by
 have EG:k<n:=j8
 have hd:=(wK h hI hk).1;rw[qbt h EG,Ts,qdw]at hd;refine DE.ins A hd fun i hi=>?_;have:=((h.w.gw.ins _ (AK (h.w.row EG).2.2.2.2)).2 i (by rw[Ts];exact UQ _ hi)).1;exact this.1
theorem xY(h:Vc g ord inn N many n){i k:Nat}(hI:XI g ord inn N many i)(hk:ord[i]?=some (k:Int)){A B:List Ins}{j:Ins}(Ts:(A7 g k).ins=A++j::B){a:Int}(ha:a∈j.args) :
  ∃y,(C4 (Cl g inn N k (Dk g inn N (ord.take i))).E (Cl g inn N k (Dk g inn N (ord.take i))).nx A).1 a=some y:=by
 have EG:k<n:=j8
 have hd:=mn h hI hk Ts;have:=((h.w.gw.ins _ (AK (h.w.row EG).2.2.2.2)).2 j (by rw[Ts];simp)).2.1 a ha;refine DE.arg (i:=j) (s:=HP B (OC g many N (A7 g k).term)) hd ha this.1 ?_;rw[ca,kq];exact this.2
theorem xw(h:Vc g ord inn N many n){i k:Nat}(hI:XI g ord inn N many i)(hk:ord[i]?=some (k:Int)){A B:List Ins}(Ts:(A7 g k).ins=A++B) :
  EB (C4 (Cl g inn N k (Dk g inn N (ord.take i))).E (Cl g inn N k (Dk g inn N (ord.take i))).nx A).1 (C4 (Cl g inn N k (Dk g inn N (ord.take i))).E (Cl g inn N k (Dk g inn N (ord.take i))).nx A).2.1:=by
 have EG:k<n:=j8
 have C5:=AK (h.w.row EG).2.2.2.2;refine EB.ins A (wK h hI hk).2 fun A' B' j hj DG=>?_;have yw:(A7 g k).ins=A'++j::(B'++B):=by rw[Ts,hj];simp
 have hl:=h.w.cp _ C5 j (by rw[yw];simp) DG;obtain⟨a,ha⟩:=List.length_eq_one_iff.1 hl;obtain⟨y,hy⟩:=xY h hI hk yw (a:=a) (by rw[ha];simp);exact⟨a,y,ha,hy⟩
theorem XI.all(h:Vc g ord inn N many n):∀i,i<=ord.length->XI g ord inn N many i
 | 0,_=>⟨fun j=>EB.none _,fun j hj=>qu⟩
 | i+1,hi=>by
  have hI:=XI.all h i I;have hj:ord[i]?=some (ord[i]' I):=AY _;have hr:=h.w.MW _ (AK hj);obtain⟨k,Bh⟩:∃k:Nat,ord[i]' I=(k:Int):=⟨(ord[i]' I).toNat,I⟩
  rw[Bh]at hj hr;have EG:k<n:=I
  have heb:=xw h hI hj (A:=(A7 g k).ins) (B:=[]) A6;have Ca:=mn h hI hj (A:=(A7 g k).ins) (B:=[]) A6;have hle:=eX (A7 g k).ins (Cl g inn N k (Dk g inn N (ord.take i))).E (Cl g inn N k (Dk g inn N (ord.take i))).nx;have Pf:=cc h.w EG (Dk g inn N (ord.take i));have Od:(Dk g inn N (ord.take (i+1))).nx=(C4 (Cl g inn N k (Dk g inn N (ord.take i))).E (Cl g inn N k (Dk g inn N (ord.take i))).nx (A7 g k).ins).2.1:=by
   rw[Xv hj];rfl
  refine⟨fun j=>?_,fun j hjm=>?_⟩
  ·rw[Od];by_cases e:j=k
   ·subst e;rw[Xv hj,(lJ j _).1];exact heb
   rw[Xv hj,(lK e _).1];exact(hI.ee j).mono I
  rw[Fs,hj]at hjm;by_cases e:j.toNat=k
  ·have Qv:j=(k:Int):=by
    rcases List.mem_append.1 hjm with q|q
    ·have:=h.w.MW j (KF q);omega
    simpa using q
   subst Qv;rw[e,Xv hj,(lJ k _).1];exact Ca
  rw[Xv hj,(lK e _).1];rcases List.mem_append.1 hjm with q|q
  ·exact hI.Tp j q
  have:j=(k:Int):=dS
  subst this;exact B3 (BH k) e
end
section
variable {g:Func} {ord:List Int} {inn:List (List Int)} {N:List (List Bool)} {many n i k:Nat} {S:Ws} {C A:List A2}
theorem qeD(h:Oa g ord inn N many n)(hI:WI ord n i S C A)(hk:ord[i]?=some (k:Int)) :
  Aq prog 106 (Ey g ord inn N S.nx n C A) [.mp 7 0,aI k] (fun r O'=>∃es,r=.mm 8∧G7 es (Cl g inn N k S).E ∧
   O'=Ey g ord inn N (Cl g inn N k S).nx n (CB C k (Cl g inn N k S).ps (Cl g inn N k S).is) A++[.map (.int .i64) es,.spare (Cl g inn N k S).is.length]):=by
 have EG:k<n:=pq
 obtain⟨h1,h2,h3,h4,h5⟩:=h.row EG;have hm:=h.gw.SI;have hn:=h.gw.few;rw[h.len]at hn;have Fv:=AE hk;have NK:=h.few;have Od:0<=S.nx∧S.nx<=2 ^ 30:=by have:=hI.nx;omega
 have Qx:S.B k=none:=by
  refine hI.no k fun q=>?_;obtain⟨j,hj⟩:=List.mem_iff_getElem?.1 q;rw[GC]at hj;split at hj
  ·have:=h.nd _ _ _ hj hk;omega
  cases hj
 have ID:C[k*7]?=some (.A3 1 [] .ex):=by
  have:=hI.ch k EG 0 I;rw[Qx]at this;exact Cd
 have Dp:C[k*7+1]?=some (.A3 4 [] .ex):=by
  have:=hI.ch k EG 1 I;rw[Qx]at this;exact Cd
 unfold Cl;by_cases e:k=0
 ·subst e;rw[A9 rfl];have MO:=h.gw.X2 _ (AK h5);have:=qd4 (ord:=ord) (inn:=inn) (nx:=S.nx) (n:=n) (many:=many) (C:=C) (A:=A) hI.U0 hI.U' Od hI.QX hI.Tx EG ID Dp h1 h2 hm.2 h5 MO.1 (fun v hv=>by
   have:=MO.2 v hv;unfold Ob at this;unfold Bi;omega) hn.2
  simp only[BE,Q2];exact Cd
 rw[A4 e];by_cases e1:(inn.getD k []).length=1
 ·rw[A9 e1];obtain⟨p,hp⟩:=List.length_eq_one_iff.1 e1;rw[hp]at h3 ⊢;have hpt:=h.one i k p hk I (by rw[BH];exact h3);obtain⟨eP,q1,q2⟩:=hI.en p hpt;exact qeE hI.U0 hI.U' hI.QX hI.Tx ID Dp EG e h3 (h.MW p (KF hpt)) q1 hI.NN q2 hn.2
 rw[A4 e1];exact qd3 hI.U0 hI.U' Od hI.QX hI.Tx EG e ID Dp h1 h2 hm.2 h3 e1 h4 hn.2
theorem qdZ(h:Oa g ord inn N many n)(hI:WI ord n i S C A)(hk:ord[i]?=some (k:Int)) :
  Aq prog 73 (Ey g ord inn N S.nx n C A) [.mp 7 0,aI k] (fun r O'=>r=.Ab []∧∃C' A',WI ord n (i+1) (Is g inn N k S) C' A'∧O'=Ey g ord inn N (Is g inn N k S).nx n C' A'):=by
 have EG:k<n:=pq
 obtain⟨h1,h2,h3,h4,h5⟩:=h.row EG;have hn:=h.gw.few;rw[h.len]at hn;have Fv:=AE hk;have NK:=h.few;have Od:=hI.nx;obtain⟨w1,w2,w3⟩:=cc h EG S;have C5:=AK h5;refine(qcF hI.U0 hI.U' h.gw hI.QX hI.NN hI.Tx EG hn.2 h5 (h.cases _ C5) (h.cp _ C5) I w3 (qeD h hI hk)).mono ?_;rintro r O' ⟨q1,es,q2,q3⟩;exact⟨q1,_,_,hI.step h hk q2,q3⟩
theorem qda(h:Oa g ord inn N many n)(hI:WE g inn N n k S C A)(EG:k<n) :
  Aq prog 74 (Ey g ord inn N S.nx n C A) [.mp 7 0,aI k] (fun r O'=>r=.Ab []∧∃C',WE g inn N n (k+1) S C' A∧O'=Ey g ord inn N S.nx n C' A):=by
 obtain⟨h1,h2,h3,h4,h5⟩:=h.row EG;have hn:=h.gw.few;rw[h.len]at hn;have hm:=h.gw.SI;obtain⟨es,q1,q2⟩:=hI.en k EG;have hc6:C[k*7+6]?=some (.A3 2 [] .ex):=by
  have:=hI.ch k EG 6 I;obtain⟨b,hb⟩:=hI.ok k EG;rw[A4 I,hb]at this;exact Cd
 refine(qcG hI.U0 hI.U' h.gw hI.QX hI.NN hI.Tx EG hn.2 h.len h5 h.gF h.Nl (fun s hs=>by rw[h.Ns s hs];exact hm.2) h.zO q1 q2 hc6).mono ?_;rintro r O' ⟨p1,p2⟩;exact⟨p1,_,hI.step EG,p2⟩
end
end Go.Proofs.YtjdnhamngpafmaaGreat
namespace Go.Av
variable {ι:Type}
def w9(τ:ι->St)(Q:E7->St->Prop):E7->St->Prop
 | .norm,σ=>∃i,Hy σ (τ i)
 | e,σ=>Q e σ
theorem qe1{P:Program}{kb:Nat}{x y:Code}{Q:E7->St->Prop}{σ:St}(τ:ι->St)(h1:AU P kb x (w9 τ Q) σ)(h2:∀i,AU P kb y Q (τ i)):AU P kb x (DX P kb y Q) σ :=
 h1.mono fun e Bl h=>by
  cases e with
  | norm =>
   obtain⟨i,hi⟩:=h;exact(h2 i).cover hi
  | _=>exact h
theorem qfx{P:Program}{kb:Nat}{x y:Code}{Q:E7->St->Prop}{σ:St}(τ:ι->St)(h1:AU P kb x (w9 τ Q) σ)(h2:∀i,AU P kb y Q (τ i)):AU P kb (.seq x y) Q σ:=DW (qe1 τ h1 h2)
end Go.Av
namespace Go.Proofs.YtjdnhamngpafmaaGreat
open Go.Av Tryz
theorem qar(f:Func)(hn:f.blocks.length<=128):BR prog 71 [f.enc] (BT f).enc:=by
 obtain⟨K,hK⟩:∃K,K=f.blocks.mapIdx DU:=⟨_,rfl⟩
 have hKl:K.length=f.blocks.length:=by rw[hK,pS]
 have qlz:∀(k:Nat) b,f.blocks[k]?=some b->K[k]?=some (DU k b):=fun k b h=>by
  rw[hK,UR,h];rfl
 have Hu:BT f=⟨-1,K⟩:=by rw[hK];rfl
 rw[Hu];clear hK Hu;refine zf true 0 func71 ntmps71 ?_;refine KK ?_ ?_;rotate_left
 ·exact Be
 refine Cc ?_;refine No 2 1 rfl rfl ?_;refine Ur ?_;refine Al (BZ (ι:={k:Nat // k<=f.blocks.length}) (fun k=>⟨60,[(2,.mp 1 0),(3,.mp 2 0),(10,AR f.blocks),(11,aI f.blocks.length),(12,aI k.1)],[.gone,.cells [aI 0,.A3 7 [] .ex],.cells [aI (-1),.A3 7 ((K.take k.1).map Block.enc) (.tok 3)],.spare k.1]⟩) (fun k=>f.blocks.length-k.1) ⟨0,H4 _⟩ ?_ ?_)
 ·refine C6 ?_
  all_goals rfl
 rintro⟨k,hk⟩;refine C3 (fun h=>?_) (fun h=>?_)
 ·refine Az ?_;have LG:k<f.blocks.length:=Aa
  obtain⟨b,hb⟩:∃b,f.blocks[k]?=some b:=⟨f.blocks[k],by simp[LG]⟩
  have BA:(K.take (k+1)).map Block.enc=(K.take k).map Block.enc++[(DU k b).enc]:=by
   rw[Fs,qlz k b hb];simp
  have CI:((K.take k).map Block.enc).length=k:=by
   rw[BE,Dy];omega
  have Pb:∀n,AQ n ((K.take k).map Block.enc):=fun n=>Block.AX n _;have ZE:∀n,AQ n ((K.take k).map Block.enc++[(DU k b).enc]):=fun n=>by
   rw[<-BA];exact Block.AX n _
  generalize (K.take k).map Block.enc=T at *;obtain⟨t,ht⟩:∃t,t=Eo b:=⟨_,rfl⟩
  have Po:DU k b=⟨[],if SC t=true then [⟨(k:Int),0,0,[]⟩]else [],⟨t.kind,if SC t=true then(k:Int)else 0,t.n,t.cases,t.to⟩⟩:=by rw[ht];rfl
  unfold Eo at ht;have oG:(DU k b).enc=.agg [.A3 1 [] .sh,.A3 4 ((DU k b).ins.map Ins.enc) .sh,aI t.kind,aI (DU k b).term.arg,aI t.n,AA t.cases,An t.to]:=by
   rw[Po];rfl
  rw[oG]at BA ZE;refine DR hb ?_;refine Cz 5 4 (.ip none [AA b.params,B7 b.ins,aI b.term.kind,aI b.term.arg,aI b.term.n,AA b.term.cases,An b.term.to]) rfl Bd trivial rfl ?_ ?_;rotate_left;refine BL ?_;rotate_left
  ·exact Be
  refine Cc ?_;refine qfx (ι:=Ec×Ec) (fun i=>⟨60,[(2,.mp 1 0),(3,.mp 2 0),(10,AR f.blocks),(11,aI f.blocks.length),(12,aI k),(4,aI k),(6,.mp 5 0)],[.gone,.cells [aI 0,.A3 7 [] .ex],.cells [aI (-1),.A3 7 T (.tok 3)],.spare k,.gone,.cells [aI t.kind,aI 0,aI t.n,.A3 1 (t.cases.map aI) i.1,.A3 2 (t.to.map Edge.enc) i.2]]⟩) ?_ ?_
  ·by_cases q:b.term.kind=0
   ·have d:decide (b.term.kind=0)=true:=Ar q;rw[A9 q]at ht;subst ht;refine B9 ?_;simp -dsimp only[simprocAttr,↓AG,zp,d];refine Ak ?_;refine FF ?_;refine RJ hT hm ?_;refine BL ?_;refine Ga ?_;refine⟨(.ex,.ex),?_⟩;refine C6 ?_
    all_goals rfl
   have d:decide (b.term.kind=0)=false:=Ac q;rw[A4 q]at ht;subst ht;refine B9 ?_;simp -dsimp only[simprocAttr,↓AG,zp,d];refine Ak ?_;refine KL ?_;refine Pv ?_;refine⟨(.sh,.sh),?_⟩;refine C6 ?_
   all_goals rfl
  rintro⟨o1,o2⟩;refine Lz 5 [aI t.kind,aI 0,aI t.n,AA t.cases,An t.to] rfl rfl (by intro d hd;simp at hd;rcases hd with rfl|rfl|rfl|rfl|rfl<;>trivial) (fun j c d hc hd=>?_) ?_
  ·match j,hc,hd with
   | 0,hc,hd | 1,hc,hd | 2,hc,hd=>simp at hc hd;rw[<-hc,<-hd];exact Wa
   | 3,hc,hd | 4,hc,hd=>simp at hc hd;rw[<-hc,<-hd];exact Sub.sh rfl
   | j+5,hc,hd=>simp at hc
  refine BL ?_;refine Cc ?_;refine LO (⟨60,[(2,.mp 1 0),(3,.mp 2 0),(10,AR f.blocks),(11,aI f.blocks.length),(12,aI k),(7,.mp 6 0)],[.gone,.cells [aI 0,.A3 7 [] .ex],.cells [aI (-1),.A3 7 T (.tok 3)],.spare k,.gone,.cells [aI t.kind,aI 0,aI t.n,AA t.cases,An t.to],.cells [.A3 1 [] .ex,.A3 4 ((DU k b).ins.map Ins.enc) .ex,aI t.kind,aI (DU k b).term.arg,aI t.n,AA t.cases,An t.to]]⟩) ?_ ?_
  ·rw[Po];unfold SC;by_cases q2:t.kind=2
   ·have d2:decide (t.kind=2)=true:=Ar q2;refine Uq d2 ?_;refine Cc ?_;refine RJ hT hm ?_;refine BL ?_;refine Yc ?_
    all_goals (simp[d2];rfl)
   have d2:decide (t.kind=2)=false:=Ac q2;by_cases q3:t.kind=3
   ·have d3:decide (t.kind=3)=true:=Ar q3;refine Jm d2 d3 ?_;refine FF ?_;refine Cc ?_;refine RJ hT hm ?_;refine BL ?_;refine Yc ?_
    all_goals (simp[d2,d3];rfl)
   have d3:decide (t.kind=3)=false:=Ac q3;refine Jm d2 d3 ?_;refine PD ?_
   all_goals (simp[d2,d3];done)
  refine WX CI ?_;refine Ei 4 [(2,.mp 1 0),(3,.mp 2 0),(10,AR f.blocks),(11,aI f.blocks.length),(12,aI k)] A6 I [.gone,.cells [aI 0,.A3 7 [] .ex],.cells [aI (-1),.A3 7 (T++[.agg [.A3 1 [] .sh,.A3 4 ((DU k b).ins.map Ins.enc) .sh,aI t.kind,aI (DU k b).term.arg,aI t.n,AA t.cases,An t.to]]) (.tok 3)],.spare (k+1)] ?_ ?_ ?_ ?_ ?_
  ·rfl
  ·simp[A8.upto,AQ,A2.upto,BU,ZE,Ins.AX,Edge.AX]
  ·exact Es
  ·exact dy
  refine Bw ?_;refine⟨⟨k+1,LG⟩,Ai,?_⟩;dsimp only;rw[BA];refine Ba ?_ ?_
  ·exact BY
  rfl
 refine BO ?_;have Fg:f.blocks.length<=k:=Aa
 rw[Cb I];refine D7 ?_;simp -dsimp only[simprocAttr,↓AG,zp,zr,results71];exact⟨⟨trivial,⟨Block.AX _ _,trivial⟩,trivial⟩,rfl⟩
def H7(f:Func)(i:Nat):Nat:=(((List.range i).map fun k:Nat=>(k:Int)).filter fun k=>decide (0<=CD f k)).length
theorem qgZ(f:Func)(i:Nat):H7 f (i+1)=H7 f i+if 0<=DZ f (i:Int)then 1 else 0:=by
 have hp:0<=DZ f (i:Int)↔0<=CD f (i:Int):=⟨fun h=>LL.1 ((P3 (l:=DP f) (n:=(i:Int))).1.1 h),fun h=>(pos_at h).1⟩
 unfold H7;rw[Zu,Dx,UT,Bf];congr 1;by_cases h:0<=CD f (i:Int)
 ·rw[A9 (hp.2 h)];simp[h]
 rw[A4 (fun q=>h (hp.1 q))];simp[h]
variable {f:Func}
theorem ql3(hw:Kd f){i:Nat}(h:0<=DZ f (i:Int)):DZ f (i:Int)=H7 f i:=by
 have hp:=LL.1 ((P3 (l:=DP f) (n:=(i:Int))).1.1 h);have hr:=hw.range _ hp;refine Yp hw ?_;rw[bH hw];obtain⟨n,hn⟩:∃n,f.blocks.length=i+1+n:=⟨f.blocks.length-(i+1),I⟩
 rw[hn,List.range_add,Zu,Ez,Dx,UT];unfold H7;rw[Dg (B6 _),FB,Dx,UT];simp[hp]
def mf(f:Func):A2:=if Cj (BT f)=0 then .Ab [(Hk f).enc,aI 0]else .Ab [.agg [aI 0,.A3 7 [] .sh],aI (Cj (BT f))]
def zB:List A2:=[.A3 1 [] .ex,.A3 4 [] .ex,aI 0,aI 0,aI 0,.A3 1 [] .ex,.A3 2 [] .ex]
def gC(G:List Block)(n c:Nat):List A2:=AP ((G.take c).map Block.enc)++(List.replicate (n-c) zB).flatten
theorem Ze(l:List Block):∀x∈l.map Block.enc,x.cells.length=7:=fun x hx=>by
 obtain⟨b,_,rfl⟩:=List.mem_map.1 hx;rfl
theorem qiT(G:List Block)(n:Nat):(List.replicate n [A2.A3 1 [] .ex,.A3 4 [] .ex,.v (.int .i64 0),.v (.int .i64 0),.v (.int .i64 0),.A3 1 [] .ex,.A3 2 [] .ex]).flatten=gC G n 0:=by
 unfold gC;rfl
variable {n:Nat}
theorem qkL{G:List Block}{c:Nat}(hG:G.length=n)(hc:c<=n):(gC G n c).length=n*7:=by
 unfold gC;have:=Ja (Ze (G.take c));rw[BE,Dy]at this;rw[Bf,this,pN,iY,iL];simp only[zB,CE,GD];omega
theorem qiR{G:List Block}{c:Nat}{b:Block}(hG:G.length=n)(h:G[c]?=some b):As (gC G n c) (c*7) b.enc.cells=gC G n (c+1):=by
 have AF:=AE h;have hl:=Ja (Ze (G.take c));rw[BE,Dy]at hl;have hl7:(AP ((G.take c).map Block.enc)).length=c*7:=by rw[hl];omega
 have hb:b.enc.cells.length=7:=rfl;have BA:(G.take (c+1)).map Block.enc=(G.take c).map Block.enc++[b.enc]:=by
  rw[Fs,h];simp
 unfold gC As;rw[BA,Pw,Zo I,Cb I,hb,WJ,KD I,hl7,show n-c=(n-(c+1))+1 from I,KG,UW,
  show c*7+7-c*7=7 from I]
 simp only[HF];rw[show((zB++(List.replicate (n-(c+1)) zB).flatten).drop 7)=(List.replicate (n-(c+1)) zB).flatten from rfl];simp[AP]
theorem qiS(G:List Block)(n c m:Nat):AQ m (gC G n c):=by
 rw[CF];intro x hx;unfold gC at hx;rcases List.mem_append.1 hx with q|q
 ·simp only[AP,L0,JQ]at q;obtain⟨_,⟨b,_,rfl⟩,hx⟩:=q;have:=Block.AX m [b];simp only[Bc,Ed,AQ,FW]at this;have h2:AQ m b.enc.cells:=this;rw[CF]at h2;exact h2 x hx
 obtain⟨l,hl,hx⟩:=List.mem_flatten.1 q;rw[(List.mem_replicate.1 hl).2]at hx;simp only[zB,CL,GG,Di]at hx;rcases hx with rfl|rfl|rfl|rfl|rfl|rfl|rfl<;>trivial
variable {j:Nat}
theorem qfh{z:List A2}{r:Nat}(hj:j<n)(hr:r<7)(hz:z.length=7:=by rfl):(List.replicate n z).flatten[j*7+r]?=z[r]?:=by
 induction n generalizing j with
 | zero=>omega
 | succ n ih =>
  rw[KG,UW];cases j with
  | zero=>rw[MH,Db,EV I]
  | succ j =>
   rw[Dg I,show(j+1)*7+r-z.length=j*7+r from I];exact ih I
theorem qiB{g:Func}{inn:List (List Int)}{N:List (List Bool)}(ord:List Int)(n:Nat){C0 A0:List A2}(hC:C0=(List.replicate n [A2.A3 1 [] .ex,.A3 4 [] .ex,.v (.int .i64 0),.v (.int .i64 0),.v (.int .i64 0),.A3 1 [] .ex,.A3 2 [] .ex]).flatten)(hA:A0=(List.replicate n [A2.v (Value.map none)]).flatten) :
  WI ord n 0 (Dk g inn N (ord.take 0)) C0 A0:=by
 have hl:C0.length=n*7:=by rw[hC,pN,iY,iL];rfl
 have hm:∀x∈C0,x∈zB:=fun x hx=>by
  rw[hC]at hx;obtain⟨l,hl,hx⟩:=List.mem_flatten.1 hx;rw[(List.mem_replicate.1 hl).2]at hx;exact hx
 refine⟨hl,fun j hj r hr=>?_,by rw[hA,pN,iY,iL];simp,fun k hk=>(by simp at hk),fun j _=>rfl,fun k hk=>(by simp at hk),?_,fun d hd=>?_,?_,aab⟩
 ·rw[hC,qfh hj hr];rfl
 ·rw[CF];intro x hx;have:=hm x hx;simp only[zB,CL,GG,Di]at this;rcases this with rfl|rfl|rfl|rfl|rfl|rfl|rfl<;>trivial
 ·have:=hm d hd;simp only[zB,CL,GG,Di]at this;rcases this with rfl|rfl|rfl|rfl|rfl|rfl|rfl<;>trivial
 rw[CF];intro x hx;rw[hA]at hx;obtain⟨l,hl,hx⟩:=List.mem_flatten.1 hx;rw[(List.mem_replicate.1 hl).2,Fq]at hx;subst hx;trivial
theorem qcV(f:Func)(AO:f.fit)(BX:Lc f):BR prog 51 [f.enc] (mf f):=by
 have Hu:=qar f BX.few;have Gn:=qdG (BT f) (fR AO);unfold mq at Gn;unfold mf;by_cases hc:Cj (BT f)=0
 ·rw[A9 hc]at Gn ⊢;have hW:=bq AO BX hc;have hfw:=hW.gw.few;have Vi:=Wj AO BX hc;have Pk:=tv _ (mo AO BX hc);have GS:=u9 _ (mo AO BX hc);unfold fX at Pk;unfold fZ at GS;rw[A9 (wN AO BX hc)]at Pk GS;obtain⟨n,hn⟩:∃n,n=(Bp f).blocks.length:=⟨_,rfl⟩
  rw[<-hn]at hW hfw Vi;have JA:(Bj (BT f)).blocks.length=n:=Vi.symm;obtain⟨sk,VD⟩:∃sk,sk=BT f:=⟨_,rfl⟩
  rw[<-VD]at Hu Gn Pk GS hW JA;obtain⟨s,hs⟩:∃s,s=Bj sk:=⟨_,rfl⟩
  rw[<-hs]at Gn Pk GS hW JA;refine zf true 0 func51 ntmps51 ?_;refine KK ?_ ?_;rotate_left
  ·exact Be
  refine aco ?_;refine BF ?_;apply AZ rfl<;>intro h
  ·cases h
  refine Az ?_;refine Cz 4 2 (.ip none [aI s.name,AR s.blocks]) rfl Bd trivial rfl ?_ ?_;rotate_left;refine BL ?_;rotate_left
  ·exact Be
  refine tY 2 ?_;show AU prog _ _ _ ⟨_,_,[.gone,.cells [aI 0,.A3 7 [] .ex],.gone,.spare 0,.spare 0]⟩;refine DW (cQ hm (GA.PR ⟨false,false⟩ hT 5 rfl rfl A6 ?_));refine Gi JA ?_;refine GA.op rfl rfl (oo hT (id:=3) rfl A6 bC rfl bB rfl rfl I Ai I EW rfl) ?_;refine BL ?_;refine GA.PR ⟨false,false⟩ hT 2 rfl rfl A6 ?_;refine BL ?_;refine GA.op rfl rfl (qaU hT (id:=4) rfl A6 xF rfl) ?_;refine adE ?_;refine Yh ?_;obtain⟨G,hG⟩:∃G,G=(Bp f).blocks:=⟨_,rfl⟩
  have hGl:G.length=n:=by rw[hG,hn]
  have JK:∀(k:Nat),k<f.blocks.length->(FG sk)[k]?=some (DZ sk k):=fun k hk=>by
   unfold FG;rw[Bv,J3 (by rw[VD,Nz];exact hk)];rfl
  have Vn:Kd sk:=by rw[VD];exact Kx (Uz AO BX hc)
  have yy:∀(k:Nat) b,f.blocks[k]?=some b->0<=DZ sk k->∃c,s.blocks[H7 sk k]?=some c∧G[H7 sk k]?=some (Dq b c.term.to)∧DZ sk k=H7 sk k:=fun k b hb hp=>by
   have h1:=ql3 Vn hp;have h2:(DP sk)[H7 sk k]?=some (k:Int):=by
    have:=(P3 (l:=DP sk) (n:=(k:Int))).2 hp;rw[show I5 (DP sk) (k:Int)=DZ sk k from rfl,h1,BH]at this;exact Cd
   have AF:H7 sk k<s.blocks.length:=by
    have:=AE h2;rw[hs,Q0];exact Cd
   refine⟨s.blocks[H7 sk k],AY _,?_,h1⟩;rw[hG];unfold Bp;rw[<-VD,<-hs,Bv,h2];simp only[FV,AM];rw[h1];have Em:A7 f (k:Int)=b:=by unfold A7;rw[BH,hb];rfl
   have Po:A7 s ((H7 sk k:Nat):Int)=s.blocks[H7 sk k]:=by unfold A7;rw[BH,AY AF];rfl
   rw[Em,Po]
  have ID:H7 sk 0=0:=rfl;obtain⟨fl,Bt⟩:∃fl,fl=f.blocks.length:=⟨_,rfl⟩
  have qop:=BX.few;have hZ0:=qiT G n;refine Al (BZ (ι:={X:Nat×Int // X.1<=fl∧H7 sk X.1<=n∧0<=X.2∧X.2<=4096∧N1 f=(f.blocks.drop X.1).foldl Kw X.2}) (fun X=>⟨172,[(1,.ip none [aI f.name,AR f.blocks]),(2,.mp 1 0),(4,.ip none [aI s.name,AR s.blocks]),(5,AA (FG sk)),(7,.mp 4 0),(8,aI X.1.2),(41,AR f.blocks),(42,aI fl),(43,aI X.1.1)],[.gone,.cells [aI 0,.A3 7 [] .ex],.gone,.cells (gC G n (H7 sk X.1.1)),.cells [aI f.name,.ms 3 0 n n,.A3 1 [] .ex,.A3 1 [] .ex]]⟩) (fun X=>fl-X.1.1) ⟨(0,0),H4 _,by rw[ID];omega,EW,EW,rfl⟩ ?_ ?_)
  ·refine Ba ?_ ?_
   all_goals first|rfl|(rw[Bt];exact Sub.refl _)
  rintro⟨⟨k,m⟩,hk,IG,Dv,EJ,Tn⟩;simp only at hk IG Dv EJ Tn;refine C3 (fun h=>?_) (fun h=>?_)
  ·refine Az ?_;have LG:k<fl:=Aa
   obtain⟨b,hb⟩:∃b,f.blocks[k]?=some b:=⟨f.blocks[k]' I,AY _⟩
   have C5:=AK hb;rw[D9 hb,HG]at Tn;have Nc:=JK k I;have cC:=qgZ sk k;obtain⟨T,Hv⟩:∃T,T=if 0<=DZ sk k then(A7 s (DZ sk k)).term.to else b.term.to:=⟨_,rfl⟩
   refine DR hb ?_;refine LO (⟨172,[(1,.ip none [aI f.name,AR f.blocks]),(2,.mp 1 0),(4,.ip none [aI s.name,AR s.blocks]),(5,AA (FG sk)),(7,.mp 4 0),(8,aI m),(41,AR f.blocks),(42,aI fl),(43,aI k),(10,.mp 5 0)],[.gone,.cells [aI 0,.A3 7 [] .ex],.gone,.cells (gC G n (H7 sk (k+1))),.cells [aI f.name,.ms 3 0 n n,.A3 1 [] .ex,.A3 1 [] .ex],.cells [AA b.params,B7 b.ins,aI b.term.kind,aI b.term.arg,aI b.term.n,AA b.term.cases,An T]]⟩) ?_ ?_
   ·by_cases hp:0<=DZ sk k
    ·rw[A9 hp]at Hv cC;obtain⟨c,Dp,Kk,SM⟩:=yy k b hb hp;have zJ:=qiR hGl Kk;have hcT:c.term.to=T:=by
      rw[Hv,SM];unfold A7;rw[BH,Dp];rfl
     rw[hcT]at zJ;have hd:decide (0<=DZ sk k)=true:=Ar hp;rw[cC];have Lp:=AE Kk;have qmt:=qkL (c:=H7 sk k) hGl I;rw[SM]at Nc hd;refine L6 Nc hd ?_;refine FF ?_;have qme:As (gC G n (H7 sk k)) (H7 sk k*7) [AA b.params,B7 b.ins,aI b.term.kind,aI b.term.arg,aI b.term.n,AA b.term.cases,An T]=gC G n (H7 sk k+1):=zJ;refine B9 ?_;simp -dsimp only[simprocAttr,↓AG,zp,Nc,Dp,hcT,BH,HW]
     refine Gv ?_;refine RJ hT hm ?_;simp -dsimp only[simprocAttr,↓AG,zp,Nc,qmt,qme,BH,HW]
     refine Ef ?_
     refine⟨ob CW,?_⟩;refine Yc ?_
     all_goals rfl
    have hd:decide (0<=DZ sk k)=false:=Ac hp;rw[A4 hp]at Hv cC;rw[Hv,cC];refine L6 Nc hd ?_;refine PD ?_
    all_goals rfl
   have gK:=RN.1 (BX.arg b C5);have hfb:=AO.2.2 b C5;have IH:=hfb.2.1;have qot:=hfb.2.2.1;have bT:=fun v hv=>RN.1 (BX.X2 b C5 v hv);have qlK:=fun i hi=>lQ BX C5 (i:=i) hi;have zM:∀o∈([.gone,.cells [aI 0,.A3 7 [] .ex],.gone,.cells (gC G n (H7 sk (k+1))),.cells [aI f.name,.ms 3 0 n n,.A3 1 [] .ex,.A3 1 [] .ex]]:List A8),o.upto 5:=fun o ho=>by
    simp only[CL,GG,Di]at ho;rcases ho with rfl|rfl|rfl|rfl|rfl
    ·trivial
    ·exact aU
    ·trivial
    ·exact qiS _ _ _ _
    exact⟨trivial,show 3<5 from EW,⟨trivial,trivial⟩,⟨trivial,trivial⟩,trivial⟩
   refine Cz 10 5 (.ip none [AA b.params,B7 b.ins,aI b.term.kind,aI b.term.arg,aI b.term.n,AA b.term.cases,An T]) rfl Bd trivial rfl ?_ ?_;rotate_left;refine BL ?_;rotate_left
   ·exact Be
   refine Ei 5 [(1,.ip none [aI f.name,AR f.blocks]),(2,.mp 1 0),(4,.ip none [aI s.name,AR s.blocks]),(5,AA (FG sk)),(7,.mp 4 0),(8,aI m),(41,AR f.blocks),(42,aI fl),(43,aI k),(10,.ip none [AA b.params,B7 b.ins,aI b.term.kind,aI b.term.arg,aI b.term.n,AA b.term.cases,An T])] A6 I [.gone,.cells [aI 0,.A3 7 [] .ex],.gone,.cells (gC G n (H7 sk (k+1))),.cells [aI f.name,.ms 3 0 n n,.A3 1 [] .ex,.A3 1 [] .ex]] ?_ ?_ ?_ ?_ ?_
   ·rfl
   ·exact zM
   ·exact Es
   ·exact I9
   have e0:max m (b.term.arg+1)=Fh m b.term.arg:=rfl;obtain⟨m0,nz⟩:∃m0,m0=Fh m b.term.arg:=⟨_,rfl⟩
   have yn:0<=m0∧m0<=4096:=by rw[nz];unfold Fh;omega
   refine B9 ?_;simp -dsimp only[simprocAttr,↓AG,zp,e0,<-nz]
   refine D1 ?_;refine BF ?_;unfold Kw at Tn;rw[<-nz]at Tn;obtain⟨m1,S6⟩:∃m1,m1=b.params.foldl Fh m0:=⟨_,rfl⟩
   have qov:0<=m1∧m1<=4096:=by
    have h1:=(lR b.params m0).1;have h2:=fj (c:=4096) b.params (m:=m0) I fun v hv=>by have:=bT v hv;omega
    omega
   rw[<-S6]at Tn;refine Al (BZ (ι:={X:Nat×Int // X.1<=b.params.length∧0<=X.2∧X.2<=4096∧m1=(b.params.drop X.1).foldl Fh X.2}) (fun X=>⟨172,[(1,.ip none [aI f.name,AR f.blocks]),(2,.mp 1 0),(4,.ip none [aI s.name,AR s.blocks]),(5,AA (FG sk)),(7,.mp 4 0),(8,aI X.1.2),(41,AR f.blocks),(42,aI fl),(43,aI k),(10,.ip none [AA b.params,B7 b.ins,aI b.term.kind,aI b.term.arg,aI b.term.n,AA b.term.cases,An T]),(81,AA b.params),(82,aI b.params.length),(83,aI X.1.1)],[.gone,.cells [aI 0,.A3 7 [] .ex],.gone,.cells (gC G n (H7 sk (k+1))),.cells [aI f.name,.ms 3 0 n n,.A3 1 [] .ex,.A3 1 [] .ex]]⟩) (fun X=>b.params.length-X.1.1) ⟨(0,m0),H4 _,yn.1,yn.2,S6⟩ ?_ ?_)
   ·refine C6 ?_
    all_goals rfl
   rintro⟨⟨z,p⟩,hz,Oe,Mm,Qn⟩;simp only at hz Oe Mm Qn;refine C3 (fun h=>?_) (fun h=>?_)
   ·refine Az ?_;have IA:z<b.params.length:=Aa
    obtain⟨v,hv⟩:∃v,b.params[z]?=some v:=⟨b.params[z],Uh⟩
    have hvr:=bT v (AK hv);rw[D9 hv,HG]at Qn;have e1:max p (v+1)=Fh p v:=rfl;have hq:0<=Fh p v∧Fh p v<=4096:=jL
    refine DR hv ?_;refine WX e1 ?_;refine Bw ?_;refine⟨⟨(z+1,Fh p v),IA,hq.1,hq.2,Qn⟩,Ai,?_⟩;refine Ba ?_ ?_
    ·exact BY
    rfl
   refine BO ?_;have Oz:b.params.length<=z:=Aa
   rw[KD Oz,RY]at Qn;subst Qn;refine Cc ?_;obtain⟨m2,yO⟩:∃m2,m2=b.ins.foldl N0 m1:=⟨_,rfl⟩
   rw[<-yO]at Tn;refine Al (BZ (ι:={X:Nat×Int // X.1<=b.ins.length∧0<=X.2∧X.2<=4096∧m2=(b.ins.drop X.1).foldl N0 X.2}) (fun X=>⟨172,[(1,.ip none [aI f.name,AR f.blocks]),(2,.mp 1 0),(4,.ip none [aI s.name,AR s.blocks]),(5,AA (FG sk)),(7,.mp 4 0),(8,aI X.1.2),(41,AR f.blocks),(42,aI fl),(43,aI k),(93,B7 b.ins),(94,aI b.ins.length),(95,aI X.1.1)],[.gone,.cells [aI 0,.A3 7 [] .ex],.gone,.cells (gC G n (H7 sk (k+1))),.cells [aI f.name,.ms 3 0 n n,.A3 1 [] .ex,.A3 1 [] .ex]]⟩) (fun X=>b.ins.length-X.1.1) ⟨(0,m1),H4 _,Oe,Mm,yO⟩ ?_ ?_)
   ·refine C6 ?_
    all_goals rfl
   rintro⟨⟨w,q⟩,JZ,hq0,hq1,Kn⟩;simp only at JZ hq0 hq1 Kn;refine C3 (fun h=>?_) (fun h=>?_)
   ·refine Az ?_;have TU:w<b.ins.length:=Aa
    obtain⟨i,hi⟩:∃i,b.ins[w]?=some i:=⟨b.ins[w],by simp[TU]⟩
    obtain⟨NZ,Na,hi3,_⟩:=qlK i (AK hi);rw[D9 hi,HG]at Kn;have e2:max q (i.to+1)=Fh q i.to:=rfl;obtain⟨q1,oU⟩:∃q1,q1=Fh q i.to:=⟨_,rfl⟩
    have yS:0<=q1∧q1<=4096:=by rw[oU];unfold Fh;omega
    have hqv:N0 q i=i.args.foldl Fh q1:=by rw[oU];rfl
    obtain⟨q2,yT⟩:∃q2,q2=i.args.foldl Fh q1:=⟨_,rfl⟩
    rw[hqv,<-yT]at Kn;refine DR hi ?_;refine Cz 14 5 (.ip none [aI i.to,aI i.op,aI i.n,AA i.args]) rfl Bd trivial rfl ?_ ?_;rotate_left;refine BL ?_;rotate_left
    ·exact Be
    refine Ei 5 [(1,.ip none [aI f.name,AR f.blocks]),(2,.mp 1 0),(4,.ip none [aI s.name,AR s.blocks]),(5,AA (FG sk)),(7,.mp 4 0),(8,aI q),(41,AR f.blocks),(42,aI fl),(43,aI k),(93,B7 b.ins),(94,aI b.ins.length),(95,aI w),(14,.ip none [aI i.to,aI i.op,aI i.n,AA i.args])] A6 I [.gone,.cells [aI 0,.A3 7 [] .ex],.gone,.cells (gC G n (H7 sk (k+1))),.cells [aI f.name,.ms 3 0 n n,.A3 1 [] .ex,.A3 1 [] .ex]] ?_ ?_ ?_ ?_ ?_
    ·rfl
    ·exact zM
    ·exact Es
    ·exact I9
    refine B9 ?_;simp -dsimp only[simprocAttr,↓AG,zp,e2,<-oU]
    refine D1 ?_;refine Cc ?_;refine Al (BZ (ι:={X:Nat×Int // X.1<=i.args.length∧0<=X.2∧X.2<=4096∧q2=(i.args.drop X.1).foldl Fh X.2}) (fun X=>⟨172,[(1,.ip none [aI f.name,AR f.blocks]),(2,.mp 1 0),(4,.ip none [aI s.name,AR s.blocks]),(5,AA (FG sk)),(7,.mp 4 0),(8,aI X.1.2),(41,AR f.blocks),(42,aI fl),(43,aI k),(93,B7 b.ins),(94,aI b.ins.length),(95,aI w),(105,AA i.args),(106,aI i.args.length),(107,aI X.1.1)],[.gone,.cells [aI 0,.A3 7 [] .ex],.gone,.cells (gC G n (H7 sk (k+1))),.cells [aI f.name,.ms 3 0 n n,.A3 1 [] .ex,.A3 1 [] .ex]]⟩) (fun X=>i.args.length-X.1.1) ⟨(0,q1),H4 _,yS.1,yS.2,yT⟩ ?_ ?_)
    ·refine C6 ?_
     all_goals rfl
    rintro⟨⟨y,r⟩,hy,Vp,GW,Tc⟩;simp only at hy Vp GW Tc;refine C3 (fun h=>?_) (fun h=>?_)
    ·refine Az ?_;have hly:y<i.args.length:=Aa
     obtain⟨v,hv⟩:∃v,i.args[y]?=some v:=⟨i.args[y],by simp[hly]⟩
     have hvr:=Na v (AK hv);rw[D9 hv,HG]at Tc;have e1:max r (v+1)=Fh r v:=rfl;have hq:0<=Fh r v∧Fh r v<=4096:=jL
     refine DR hv ?_;refine WX e1 ?_;refine Bw ?_;refine⟨⟨(y+1,Fh r v),hly,hq.1,hq.2,Tc⟩,Ai,?_⟩;refine Ba ?_ ?_
     ·exact BY
     rfl
    refine BO ?_;have hyy:i.args.length<=y:=Aa
    rw[KD hyy,RY]at Tc;subst Tc;refine Bw ?_;refine⟨⟨(w+1,q2),TU,Vp,GW,Kn⟩,Ai,?_⟩;refine Ba ?_ ?_
    ·exact BY
    rfl
   refine BO ?_;have Vt:b.ins.length<=w:=Aa
   rw[KD Vt,RY]at Kn;subst Kn;refine Bw ?_;have qmN:H7 sk (k+1)<=n:=by
    rw[cC];split
    ·rename_i hp;obtain⟨c,Dp,_⟩:=yy k b hb hp;have:=AE Dp;omega
    omega
   refine⟨⟨(k+1,m2),LG,qmN,hq0,hq1,Tn⟩,Ai,?_⟩;refine Ba ?_ ?_
   ·exact BY
   rfl
  refine BO ?_;have Bh:fl<=k:=Aa
  rw[KD I,RY]at Tn;subst Tn;have Od:H7 sk k=n:=by
   have h1:=bH Vn;have h2:(DP sk).length=n:=by rw[<-Q0,<-hs,JA]
   have h3:sk.blocks.length=fl:=by rw[VD,Nz,Bt]
   have h4:k=fl:=I
   rw[h1,h3]at h2;rw[h4];exact h2
  rw[Od];have hgn:gC G n n=AP (G.map Block.enc):=by
   unfold gC;rw[Cb I,FB];simp
  rw[hgn];refine ZO 3 (o:=.cells (AP (G.map Block.enc))) rfl Bd trivial _ (fun s z hz=>⟨z,hz,.refl z⟩) 4 I _ [aI f.name,AR G,.A3 1 [] .ex,.A3 1 [] .ex] rfl rfl (fun d hd=>?_) (fun j c d hc hd=>?_) ?_
  ·simp only[CL,GG,Di]at hd;rcases hd with rfl|rfl|rfl|rfl<;>trivial
  ·match j,hc,hd with
   | 0,hc,hd | 2,hc,hd | 3,hc,hd=>exact(HX (hc.symm.trans hd)) ▸ Eh.refl _
   | 1,hc,hd =>
    simp only[LY,Dh,AM]at hc hd;subst hc;subst hd;refine Eh.ms rfl (Ze G) (by rw[BE,hGl]) ?_;rw[I7,Cb (by rw[Ja (Ze G),BE,hGl];omega)];exact gp G
   | j+4,hc,hd=>simp at hc
  refine BL ?_;refine BM ?_;refine .inl ⟨_,Pk,dJ,B4 ?_⟩;refine Ki ?_;refine BM ?_;refine .inl ⟨_,GS,dJ,B4 ?_⟩;refine Ki ?_;refine Cz 7 4 (.ip none [aI f.name,AR G,AA (Cf s),.A3 1 ((Eb s).map AA) .sh]) rfl Bd trivial rfl ?_ ?_;rotate_left;refine BL ?_;rotate_left
  ·exact Be
  have hmf:=va BX;obtain⟨my,SS⟩:∃my:Nat,N1 f=(my:Int):=⟨(N1 f).toNat,I⟩
  rw[SS,BH]at hW;have Ic:=qbu (Bp f) (Cf s) (Eb s) my hW.gw (fun k hk=>by rw[hW.len];exact hW.MW k hk) hW.few (by rw[hW.gF];omega);have hNN:Uv (Bp f) my (Cf s)=GO f:=by
   unfold GO;rw[SS,BH,<-VD,<-hs]
  rw[hNN,<-hG,show(Bp f).name=f.name from rfl]at Ic;rw[SS];refine tY 2 ?_;show AU prog _ _ _ ⟨_,_,[.gone,.cells [aI 0,.A3 7 [] .ex],.gone,.gone,.gone,.spare 0,.spare 0]⟩;refine DW (cQ hm (GA.PR ⟨false,false⟩ hT 9 rfl rfl A6 ?_));refine BL ?_;refine .inl ⟨_,Ic,dJ,B4 ?_⟩;refine Gi JA ?_;refine GA.op rfl rfl (oo hT (id:=5) rfl A6 bC rfl bB rfl rfl I Ai I EW rfl) ?_;refine BL ?_;refine GA.PR ⟨false,false⟩ hT 4 rfl rfl A6 ?_;refine Gi JA ?_;refine GA.op rfl rfl (oo hT (id:=6) rfl A6 xG rfl xI rfl rfl I Ai I EW rfl) ?_;refine BL ?_;refine GA.PR ⟨false,false⟩ hT 3 rfl rfl A6 ?_;refine BL ?_;refine rP ?_;refine BF ?_;have Du:Bp f=⟨f.name,G⟩:=by rw[hG];rfl
  obtain⟨g,hg⟩:∃g,g=Bp f:=⟨_,rfl⟩
  have hgN:g.name=f.name:=by rw[hg];rfl
  have hgB:g.blocks=G:=by rw[hg,hG]
  obtain⟨ord,gY⟩:∃ord,ord=Cf s:=⟨_,rfl⟩
  obtain⟨inn,oK⟩:∃inn,inn=Eb s:=⟨_,rfl⟩
  obtain⟨N,hN⟩:∃N,N=GO f:=⟨_,rfl⟩
  rw[<-hg,<-gY,<-oK,<-hN]at hW;rw[<-gY,<-oK,<-hN];have Br:∀j<n,(j:Int)∈ord:=fun j hj=>by
   rw[gY,hs,VD];exact mi AO BX hc (by rw[<-hn];exact hj)
  obtain⟨C0,hC0⟩:∃C0,C0=(List.replicate n [A2.A3 1 [] .ex,.A3 4 [] .ex,.v (.int .i64 0),.v (.int .i64 0),.v (.int .i64 0),.A3 1 [] .ex,.A3 2 [] .ex]).flatten:=⟨_,rfl⟩
  obtain⟨A0,hA0⟩:∃A0,A0=(List.replicate n [A2.v (Value.map none)]).flatten:=⟨_,rfl⟩
  rw[<-hC0,<-hA0];have hI0:WI ord n 0 (Dk g inn N (ord.take 0)) C0 A0:=qiB ord n hC0 hA0;have Jx:=hW.few;have qow:(Dk g inn N (ord.take 0)).nx=0:=rfl;refine Al (BZ (ι:={X:Nat×List A2×List A2 // X.1<=ord.length∧WI ord n X.1 (Dk g inn N (ord.take X.1)) X.2.1 X.2.2}) (fun X=>⟨172,[(1,.ip none [aI f.name,AR f.blocks]),(2,.mp 1 0),(4,.ip none [aI s.name,AR s.blocks]),(17,.mp 7 0),(148,AA ord),(149,aI ord.length),(150,aI X.1.1)],Ey g ord inn N (Dk g inn N (ord.take X.1.1)).nx n X.1.2.1 X.1.2.2⟩) (fun X=>ord.length-X.1.1) ⟨(0,C0,A0),H4 _,hI0⟩ ?_ ?_)
  ·unfold Ey wC;rw[hgN,hgB];refine C6 ?_
   all_goals rfl
  rintro⟨⟨i,C,A⟩,hi,hI⟩;simp only at hi hI;refine C3 (fun h=>?_) (fun h=>?_)
  ·refine Az ?_;have Vk:i<ord.length:=Aa
   obtain⟨kz,hkz⟩:∃kz,ord[i]?=some kz:=⟨ord[i],by simp[Vk]⟩
   have Lo:=hW.MW kz (AK hkz);obtain⟨kn,rfl⟩:∃kn:Nat,kz=(kn:Int):=⟨kz.toNat,I⟩
   have FJ:=qdZ hW hI hkz;have Aj:Dk g inn N (ord.take (i+1))=Is g inn N kn (Dk g inn N (ord.take i)):=by
    rw[Fs,hkz];unfold Dk;rw[dE];rfl
   refine DR hkz ?_;refine cN ⟨false,false⟩ hT 2 rfl rfl rfl A6 ?_;refine BL ?_;refine⟨_,ZS rfl A6 rfl rfl FJ,fun r O' hR=>?_⟩;obtain⟨hr,C',A',hI',hO⟩:=hR;subst hr;subst hO;rw[<-Aj]at hI' ⊢;refine Ak ?_;refine Bw ?_;refine⟨⟨(i+1,C',A'),Vk,hI'⟩,Ai,?_⟩;refine Ba ?_ ?_
   ·exact BY
   rfl
  refine BO ?_;have hii:ord.length<=i:=Aa
  rw[Cb hii]at hI ⊢;have hE0:=hI.done (g:=g) (inn:=inn) (N:=N) fun j hj=>by
   rw[Cb hii];exact Br j hj
  obtain⟨S,hS⟩:∃S,S=Dk g inn N ord:=⟨_,rfl⟩
  rw[<-hS]at hE0 ⊢;refine HZ JA ?_;refine Al (BZ (ι:={X:Nat×List A2 // X.1<=n∧WE g inn N n X.1 S X.2 A}) (fun X=>⟨172,[(1,.ip none [aI f.name,AR f.blocks]),(2,.mp 1 0),(17,.mp 7 0),(160,aI n),(161,aI X.1.1)],Ey g ord inn N S.nx n X.1.2 A⟩) (fun X=>n-X.1.1) ⟨(0,C),H4 _,hE0⟩ ?_ ?_)
  ·refine C6 ?_
   all_goals rfl
  rintro⟨⟨j,C'⟩,hj,hE⟩;simp only at hj hE;refine C3 (fun h=>?_) (fun h=>?_)
  ·refine Az ?_;have Hb:j<n:=Aa
   have FJ:=qda hW hE Hb;refine PF ?_;refine cN ⟨false,false⟩ hT 2 rfl rfl rfl A6 ?_;refine BL ?_;refine⟨_,ZS rfl A6 rfl rfl FJ,fun r O' hR=>?_⟩;obtain⟨hr,C'',hE',hO⟩:=hR;subst hr;subst hO;refine Ak ?_;refine Bw ?_;refine⟨⟨(j+1,C''),Hb,hE'⟩,Ai,?_⟩;refine Ba ?_ ?_
   ·exact BY
   rfl
  refine BO ?_;have Gl:j=n:=YJ
  subst Gl;have Ks:=hE.cells;obtain⟨OB,hOB⟩:∃OB,OB=(List.range j).map (OR g inn N S):=⟨_,rfl⟩
  rw[<-hOB]at Ks;have yz:OB.length=j:=by rw[hOB,BE,N7]
  subst Ks;unfold Ey wC;refine ZO 5 (o:=.cells (AP (OB.map Block.enc))) rfl Bd trivial _ (fun s z hz=>⟨z,hz,.refl z⟩) 7 I _ [aI g.name,AR g.blocks,AA ord,.A3 1 (inn.map AA) .sh,.A3 1 (N.map eG) .sh,aI S.nx,aI g.name,AR OB,.ms 6 0 j j] rfl rfl (fun d hd=>?_) (fun j c d hc hd=>?_) ?_
  ·simp only[CL,GG,Di]at hd;rcases hd with rfl|rfl|rfl|rfl|rfl|rfl|rfl|rfl|rfl<;>trivial
  ·match j,hc,hd with
   | 0,hc,hd | 1,hc,hd | 2,hc,hd | 3,hc,hd | 4,hc,hd | 5,hc,hd | 6,hc,hd | 8,hc,hd=>exact(HX (hc.symm.trans hd)) ▸ Eh.refl _
   | 7,hc,hd =>
    simp only[LY,Dh,AM]at hc hd;subst hc;subst hd;refine Eh.ms rfl (Ze OB) (by rw[BE,yz]) ?_;rw[I7,Cb (by rw[Ja (Ze OB),BE,yz];omega)];exact gp OB
   | j+9,hc,hd=>simp at hc
  refine BL ?_;refine Cc ?_;have hFe:Hk f=⟨f.name,OB⟩:=by
   unfold Hk Sv;rw[<-VD,<-hs,<-hg,<-gY,<-oK,<-hN,<-hS,hgB,hGl,<-hOB]
  rw[hFe,hgN];refine F3 ?_;simp -dsimp only[simprocAttr,↓AG,zp,zr,results51];exact⟨⟨⟨trivial,⟨Block.AX _ _,trivial⟩,trivial⟩,trivial,trivial⟩,rfl⟩
 rw[A4 hc]at Gn ⊢;have hcd:decide (Cj (BT f)=0)=false:=Ac hc;refine zf true 0 func51 ntmps51 ?_;refine KK ?_ ?_;rotate_left
 ·exact Be
 refine aco ?_;refine HZ hcd ?_;refine E3 ?_;simp -dsimp only[simprocAttr,↓AG,zp,zr,results51];exact⟨⟨trivial,⟨trivial,trivial⟩,trivial⟩,trivial,trivial⟩
def LA(f:Func):Int:=Cj (BT f)
theorem qcT(f:Func):mf f=X' Hk LA f:=rfl
def GR(u:Ad):Ad:=⟨u.fns.map Hk,u.main⟩
def zUe:A2:=.agg [.A3 2 [] .sh,aI 0]
def OV(u:Ad):Int:=if Hh u=0 then(if Gc LA u.fns=0 then(if GN (GR u)=0 then 0 else 2)else Gc LA u.fns)else Hh u
def ZD(u:Ad):A2:=if OV u=0 then .Ab [(GR u).enc,aI 0]else .Ab [zUe,aI (OV u)]
variable {u:Ad}
theorem iI(AO:u.fit)(h:Hh u=0):u.fns.length<=256∧∀f∈u.fns,Lc f:=by
 unfold Hh at h;split at h
 ·simp at h
 split at h
 ·simp at h
 rename_i h2;split at h
 ·simp at h
 have h3:=(Mx h).1;exact⟨I,fun f hf=>mV (AO.2.2 f hf) (iH h3 f hf)⟩
theorem lE(AO:u.fit)(h:Hh u=0)(he:Gc LA u.fns=0):(GR u).fit:=by
 obtain⟨h1,h2⟩:=iI AO h;refine⟨AO.1,by unfold GR;rw[BE];exact AO.2.1,fun g hg=>?_⟩;obtain⟨f,hf,rfl⟩:=List.mem_map.1 hg;exact qkH (AO.2.2 f hf) (h2 f hf) (ZU he f hf)
theorem qa2(u:Ad)(AO:u.fit):BR prog 22 [u.enc] (ZD u):=by
 have Jo:=aek u AO;by_cases hc:Hh u=0
 ·have Hg:OV u=if Gc LA u.fns=0 then(if GN (GR u)=0 then 0 else 2)else Gc LA u.fns:=A9 hc
  rw[hc]at Jo;obtain⟨NK,qms⟩:=iI AO hc;have FJ:∀f∈u.fns,BR prog 51 [f.enc] (X' Hk LA f):=fun f hf=>by
   rw[<-qcT];exact qcV f (AO.2.2 f hf) (qms f hf)
  obtain⟨R,hR⟩:∃R,R=Gc LA u.fns:=⟨_,rfl⟩
  have Lr:=fun h=>sT (GR u) (lE AO hc h);obtain⟨Y,hY⟩:∃Y,Y=ZD u:=⟨_,rfl⟩
  rw[<-hY];unfold ZD at hY;rw[Hg,<-hR]at hY;rw[<-hR]at Lr;refine zf true 0 func22 ntmps22 ?_;refine WQ ?_ ?_
  ·refine Rj ?_;refine AJ (fun h=>?_) (fun h=>?_)
   ·cases h
   refine Az ?_;refine Cc ?_;refine No 2 0 rfl rfl ?_;refine Ur ?_;refine Al (BZ (ι:={k:Nat // k<=u.fns.length∧R=Gc LA (u.fns.drop k)}) (fun k=>⟨47,[(2,.mp 1 0),(3,aI 0),(5,.mp 2 0),(20,C8 u.fns),(21,aI u.fns.length),(22,aI k.1)],[.gone,.cells [.A3 2 [] .ex,aI 0],.cells [.A3 2 (((u.fns.take k.1).map Hk).map Func.enc) (.tok 3),aI u.main],.spare k.1]⟩) (fun k=>u.fns.length-k.1) ⟨0,I,hR⟩ ?_ ?_)
   ·refine C6 ?_
    all_goals rfl
   rintro⟨k,hk,IC⟩;refine C3 (fun h=>?_) (fun h=>?_)
   ·refine Az ?_;have AF:k<u.fns.length:=Aa
    obtain⟨f,hf⟩:∃f,u.fns[k]?=some f:=⟨u.fns[k],Gu⟩
    rw[D9 hf]at IC;simp only[Gc]at IC;have IE:=FJ f (AK hf);unfold X' at IE;have BA:(((u.fns.take (k+1)).map Hk).map Func.enc)=((u.fns.take k).map Hk).map Func.enc++[(Hk f).enc]:=by
     rw[Fs,hf];simp
    have CI:(((u.fns.take k).map Hk).map Func.enc).length=k:=by
     exact KM
    have Pb:∀n,AQ n (((u.fns.take k).map Hk).map Func.enc):=fun n=>Func.AX n _;have ZE:∀n,AQ n (((u.fns.take k).map Hk).map Func.enc++[(Hk f).enc]):=fun n=>by
     rw[<-BA];exact Func.AX n _
    generalize ((u.fns.take k).map Hk).map Func.enc=T at *;refine DR hf ?_;refine Cz 7 4 (.ip none [aI f.name,AR f.blocks]) rfl Bd trivial rfl ?_ ?_;rotate_left;refine BL ?_
    ·by_cases he:LA f=0
     ·rw[A9 he]at IE;rw[HK he]at IC;generalize Hk f=g at *;unfold Func.enc at IE;refine adA ?_ ?_
      ·refine BF ?_;refine FE ?_;refine WX CI ?_;refine Ei 4 [(2,.mp 1 0),(3,aI 0),(5,.mp 2 0),(20,C8 u.fns),(21,aI u.fns.length),(22,aI k)] A6 I [.gone,.cells [.A3 2 [] .ex,aI 0],.cells [.A3 2 (T++[g.enc]) (.tok 3),aI u.main],.spare (k+1)] ?_ ?_ ?_ ?_ ?_
       ·rfl
       ·simp[A8.upto,AQ,A2.upto,BU,Func.AX,Block.AX,Pb,ZE]
       ·exact Es
       ·simp[A8.upto,AQ,A2.upto,BU,Func.AX,Block.AX,Pb]
       refine Bw ?_;refine⟨⟨k+1,AF,IC⟩,Ai,?_⟩;dsimp only;rw[BA];refine Ba ?_ ?_
       ·exact BY
       rfl
      exact Be
     rw[A4 he]at IE;rw[KZ he]at IC;obtain⟨e,GV⟩:∃e,e=LA f:=⟨_,rfl⟩
     rw[<-GV]at IE he IC;have Ca:decide (e=0)=false:=Ac he;rw[A4 (show ¬(R=0) from qj),A4 (show ¬(R=0) from qj),IC]at hY;refine BM ?_;refine zi IE ?_;refine Rm Ca ?_;refine E3 ?_;refine k6 ?_;rw[hY];simp[AQ,A2.upto,zUe]
    exact Be
   refine BO ?_;have Bh:k=u.fns.length:=Ee
   subst Bh;rw[F']at IC;simp only[Gc]at IC;rw[A9 IC]at hY;rw[Jk];have hm:=Lr IC;unfold Ad.enc GR at hm;have Pb:∀n,AQ n ((u.fns.map Hk).map Func.enc):=fun n=>Func.AX n _;obtain⟨e,GV⟩:∃e,e=GN (GR u):=⟨_,rfl⟩
   unfold GR at GV;rw[<-GV]at hm;have oF:GN (GR u)=e:=by rw[GV];rfl
   rw[oF]at hY;by_cases he:e=0
   ·subst he;rw[A9 rfl,A9 rfl]at hY;refine GX ?_;refine zi hm ?_;refine ML ?_;refine D7 ?_;refine k6 ?_;rw[hY];simp[AQ,A2.upto];rw[HV]at Pb;exact⟨Pb 0,by simp[Ad.enc,GR]⟩
   have Ca:decide (e=0)=false:=Ac he;rw[A4 he,A4 EW]at hY;refine Ej ?_;refine Gi Ca ?_;refine .inl ⟨_,hm,MK,B4 ?_⟩;refine Gi Ca ?_;refine Ak ?_;apply AZ rfl<;>intro h
   ·refine D7 ?_;refine k6 ?_;rw[hY];simp[AQ,A2.upto,zUe]
   exfalso;simp[he]at h
  exact Be
 have Hg:OV u=Hh u:=A4 hc;unfold ZD;rw[Hg,A4 hc];obtain⟨e,GV⟩:∃e,e=Hh u:=⟨_,rfl⟩
 rw[<-GV]at hc Jo ⊢;have Ca:decide (e=0)=false:=Ac hc;refine zf true 0 func22 ntmps22 ?_;refine WQ ?_ ?_
 ·refine Rj ?_;refine Uo Ca ?_;refine k6 ?_;simp[AQ,A2.upto,zUe]
 exact Be
section
variable {f:Func} (AO:f.fit) (hm:Lc f) (hc:Cj (BT f)=0)
include AO hm hc
theorem xp(hj:j<(Bp f).blocks.length):(A7 (Bp f) (j:Int)).term.to=Ea (Bj (BT f)) j:=by
 have hb:(Bp f).blocks[j]?=some ((Bp f).blocks[j]):=AY hj;obtain⟨k,c,_,_,hbc⟩:=Yw AO hm hc hb;unfold A7;rw[BH,hb,hbc];rfl
theorem yr:Vc (Bp f) (Cf (Bj (BT f))) (Eb (Bj (BT f))) (GO f) (N1 f).toNat (Bp f).blocks.length:=by
 have hW:=bq AO hm hc;have hg:=Yz AO hm hc;have hl:=Wj AO hm hc;refine⟨hW,qeb hW.MW hW.gw.few.2 hW.gw.SI.2,fun k p hk hp=>?_,fun j e hj he=>?_,fun j hj=>mi AO hm hc hj⟩
 ·rw[KC]at hp;obtain⟨q1,x,q2,q3⟩:=qei hg (k:=(k:Int)) (p:=p) I (by unfold UH;rw[BH];exact hp);refine⟨x,?_,q3⟩;have:=xp AO hm hc (j:=p.toNat) I;rw[show((p.toNat:Nat):Int)=p from I]at this;rw[this];exact q2
 have DM:=(hW.gw.to _ (AK (hW.row hj).2.2.2.2)).2 e he;rw[xp AO hm hc hj]at he;rw[KC];exact uW (f:=Bj (BT f)) (a:=(j:Int)) (v:=e.block) I I ⟨e,he,rfl⟩
theorem me{i:Nat}(hi:(Cf (Bj (BT f)))[i]?=some (j:Int)){W:Wb}(hW:W=Cl (Bp f) (Eb (Bj (BT f))) (GO f) j (Dk (Bp f) (Eb (Bj (BT f))) (GO f) ((Cf (Bj (BT f))).take i))) :
  (Sv f).EE j=(C4 W.E W.nx (A7 (Bp f) j).ins).1 ∧
  A7 (Hk f) (j:Int)=⟨W.ps,W.is++(C4 W.E W.nx (A7 (Bp f) j).ins).2.2,⟨(A7 (Bp f) j).term.kind,QT (C4 W.E W.nx (A7 (Bp f) j).ins).1 (A7 (Bp f) j).term,(A7 (Bp f) j).term.n,(A7 (Bp f) j).term.cases,
   (A7 (Bp f) j).term.to.map (NS (Eb (Bj (BT f))) (GO f) (C4 W.E W.nx (A7 (Bp f) j).ins).1)⟩⟩:=by
 have hw:=bq AO hm hc;have hj:j<(Bp f).blocks.length:=by have:=hw.MW _ (AK hi);omega
 have Fv:=AE hi;obtain⟨k1,k2⟩:=tV hw hi ((Cf (Bj (BT f))).length-(i+1)) I;rw[show i+1+((Cf (Bj (BT f))).length-(i+1))=(Cf (Bj (BT f))).length from I,Jk]at k1 k2;obtain⟨s1,s2⟩:=lJ (g:=Bp f) (inn:=Eb (Bj (BT f))) (N:=GO f) j (Dk (Bp f) (Eb (Bj (BT f))) (GO f) ((Cf (Bj (BT f))).take i));rw[s1,<-hW]at k1;rw[s2,<-hW]at k2;refine⟨k1,?_⟩;unfold A7 Hk;rw[BH,Bv,J3 hj];show OR _ _ _ _ j=_;unfold OR Sv;rw[k1,k2];rfl
end
section
variable (u:Ad)
def Oj(fn:Int):Func:=BT (AB u fn)
def eS(fn:Int):Func:=Bj (Oj u fn)
def XZ(fn:Int)(j:Nat):Wb:=Cl (Bp (AB u fn)) (Eb (eS u fn)) (GO (AB u fn)) j (Dk (Bp (AB u fn)) (Eb (eS u fn)) (GO (AB u fn)) ((Cf (eS u fn)).take (CD (eS u fn) j).toNat))
def eL(fn b:Int):Prop:=0<=CD (Oj u fn) b
def Ql(fn b:Int):Int:=DZ (Oj u fn) b
def eQ(fn b:Int)(m:Nat):Env×Int×List Ins:=C4 (XZ u fn (Ql u fn b).toNat).E (XZ u fn (Ql u fn b).toNat).nx ((A7 (AB u fn) b).ins.take m)
def PY(fn b:Int)(m:Nat):Env:=(eQ u fn b m).1
def XY(fn b:Int)(m:Nat):Nat:=(XZ u fn (Ql u fn b).toNat).is.length+(eQ u fn b m).2.2.length
end
theorem mE{k:Int}(h0:0<=k)(h1:k<u.fns.length):AB (GR u) k=Hk (AB u k):=by
 unfold AB GR;rw[Bv,AY I];rfl
variable {fn b:Int}
section
variable {u:Ad} (AO:u.fit) (hm:Hh u=0) (he:Gc LA u.fns=0)
include AO hm he
structure PlE(u:Ad)(fn b:Int)(j:Nat):Prop where
 pos:Ql u fn b=j
 lt:j<(Bp (AB u fn)).blocks.length
 at_:(Cf (eS u fn))[(CD (eS u fn) j).toNat]?=some (j:Int)
 blk:(A7 (Bp (AB u fn)) j).ins=(A7 (AB u fn) b).ins∧(A7 (Bp (AB u fn)) j).params=(A7 (AB u fn) b).params
 term:(A7 (Bp (AB u fn)) j).term.kind=(A7 (AB u fn) b).term.kind∧(A7 (Bp (AB u fn)) j).term.arg=(A7 (AB u fn) b).term.arg∧(A7 (Bp (AB u fn)) j).term.n=(A7 (AB u fn) b).term.n∧(A7 (Bp (AB u fn)) j).term.cases=(A7 (AB u fn) b).term.cases
 to:(A7 (Bp (AB u fn)) j).term.to=(A7 (AB u fn) b).term.to.map (Fl (FG (Oj u fn)))
 MW:0<=b∧b<(AB u fn).blocks.length
theorem oO(h0:0<=fn)(h1:fn<u.fns.length):(AB u fn).fit∧Lc (AB u fn)∧Cj (BT (AB u fn))=0:=by
 have hf:=Nu h0 h1;exact⟨AO.2.2 _ hf,(iI AO hm).2 _ hf,ZU he _ hf⟩
theorem od(h0:0<=fn)(h1:fn<u.fns.length)(hL:eL u fn b):∃j,PlE u fn b j:=by
 obtain⟨f1,f2,f3⟩:=oO AO hm he h0 h1;have hw:=Kx (Uz f1 f2 f3);obtain⟨p1,p2⟩:=pos_at (f:=Oj u fn) hL;obtain⟨j,hj⟩:∃j:Nat,DZ (Oj u fn) b=(j:Int):=⟨(DZ (Oj u fn) b).toNat,I⟩
 rw[hj,BH]at p2;have hr:=hw.range b hL;have AF:j<(Bp (AB u fn)).blocks.length:=by
  rw[Wj f1 f2 f3,Q0];exact AE p2
 have hg:(Bp (AB u fn)).blocks[j]?=some (Dq (A7 (AB u fn) b) (A7 (Bj (BT (AB u fn))) (DZ (BT (AB u fn)) b)).term.to):=by
  have p2':(DP (BT (AB u fn)))[j]?=some b:=p2;unfold Bp;rw[Bv,p2'];rfl
 have hb:A7 (Bp (AB u fn)) (j:Int)=Dq (A7 (AB u fn) b) (A7 (Bj (BT (AB u fn))) (DZ (BT (AB u fn)) b)).term.to:=by
  unfold A7 at hg ⊢;rw[BH,hg];rfl
 have Vn:=Kx (Yz f1 f2 f3);have ED:=mi f1 f2 f3 AF;obtain⟨i,hi⟩:=List.mem_iff_getElem?.1 ED;have IH:=Vn.at_ i _ hi;rw[Nz]at hr;refine⟨j,hj,AF,?_,by rw[hb];exact⟨rfl,rfl⟩,by rw[hb];exact⟨rfl,rfl,rfl,rfl⟩,?_,hr⟩
 ·have:CD (eS u fn) (j:Int)=i:=IH;rw[this,BH];exact hi
 rw[hb];show(A7 (Bj (BT (AB u fn))) (DZ (BT (AB u fn)) b)).term.to=_;rw[eK (f:=BT (AB u fn)) hL,Q8];have Em:=K7 hr.1 hr.2;have Hu:=Wy Em;have Po:A7 (BT (AB u fn)) b=DU b.toNat (A7 (AB u fn) b):=by
  unfold A7 at Hu ⊢;rw[Hu];rfl
 rw[Po];show(Eo (A7 (AB u fn) b)).to.map _=_;congr 1;unfold Eo;split
 ·rename_i q;exact((LS (f2.fin _ (AK Em))).to (.inl q)).symm
 rfl
end
theorem vv(i:Ins)(E:Env)(nx:Int):(i.op=100->C4 E nx [i]=(F8 E i.to ((i.args.map (FL E)).headD 0),nx,[]))∧(i.op≠100->C4 E nx [i]=(F8 E i.to nx,nx+1,[⟨nx,i.op,i.n,i.args.map (FL E)⟩])):=by
 constructor
 ·intro h;rw[C4,A9 h];rfl
 intro h;rw[C4,A4 h];rfl
section
variable {u:Ad} (AO:u.fit) (hm:Hh u=0) (he:Gc LA u.fns=0)
include AO hm he
theorem xf{m:Nat}{i:Ins}(hi:(A7 (AB u fn) b).ins[m]?=some i) :
  eQ u fn b (m+1)=((C4 (eQ u fn b m).1 (eQ u fn b m).2.1 [i]).1,(C4 (eQ u fn b m).1 (eQ u fn b m).2.1 [i]).2.1,(eQ u fn b m).2.2++(C4 (eQ u fn b m).1 (eQ u fn b m).2.1 [i]).2.2):=by
 unfold eQ;rw[Fs,hi];exact lH _ [i] _ _
theorem qjv(h0:0<=fn)(h1:fn<u.fns.length)(hL:eL u fn b):xr u (GR u) (eL u) (Ql u) (PY u) (XY u) fn b:=by
 obtain⟨f1,f2,f3⟩:=oO AO hm he h0 h1;obtain⟨j,P⟩:=od AO hm he h0 h1 hL;have hX:=yr f1 f2 f3;have hW:=hX.w;have hXI:=XI.all hX _ (Nat.le_of_lt (AE P.at_));obtain⟨W,Pc⟩:∃W,W=XZ u fn j:=⟨_,rfl⟩
 obtain⟨o1,o2⟩:=me f1 f2 f3 (i:=(CD (eS u fn) j).toNat) P.at_ (W:=W) Pc;have C5:=AK (hW.row P.lt).2.2.2.2;have OW:=P.blk.1;have Jz:A7 (AB (GR u) fn) (Ql u fn b)=A7 (Hk (AB u fn)) (j:Int):=by rw[mE h0 h1,P.pos]
 rw[o2]at Jz;obtain⟨qe,Kn⟩:∃qe,qe=C4 W.E W.nx (A7 (Bp (AB u fn)) j).ins:=⟨_,rfl⟩
 rw[<-Kn]at o1 o2 Jz;have hjn:(Ql u fn b).toNat=j:=by rw[P.pos,BH]
 have hQ:∀m,eQ u fn b m=C4 W.E W.nx ((A7 (AB u fn) b).ins.take m):=fun m=>by
  unfold eQ;rw[hjn,Pc]
 have Tu:∀m,XY u fn b m=W.is.length+(eQ u fn b m).2.2.length:=fun m=>by
  unfold XY;rw[hjn,Pc]
 have cF:∀(m:Nat) i a,(A7 (AB u fn) b).ins[m]?=some i->a∈i.args->∃y,PY u fn b m a=some y:=fun m i a hi ha=>by
  unfold PY;rw[hQ,Pc];exact xY hX hXI P.at_ (A:=(A7 (AB u fn) b).ins.take m) (B:=(A7 (AB u fn) b).ins.drop (m+1)) (j:=i) (by rw[OW,<-D9 hi,UP]) ha
 have heb:∀m,EB (PY u fn b m) (eQ u fn b m).2.1:=fun m=>by
  unfold PY;rw[hQ,Pc];exact xw hX hXI P.at_ (A:=(A7 (AB u fn) b).ins.take m) (B:=(A7 (AB u fn) b).ins.drop m) (by rw[OW,UP])
 have nU:eQ u fn b (A7 (AB u fn) b).ins.length=qe:=by rw[hQ,Jk,Kn,OW]
 have TA:DE qe.1 (OC (Bp (AB u fn)) (N1 (AB u fn)).toNat (GO (AB u fn)) (A7 (Bp (AB u fn)) j).term):=by
  rw[Kn,Pc];exact mn hX hXI P.at_ (A:=(A7 (Bp (AB u fn)) j).ins) (B:=[]) A6
 refine⟨fun m i hi DG=>?_,fun m i hi DG=>?_,?_,?_,fun hu=>?_,fun q e hq=>?_⟩
 ·have Km:i∈(A7 (Bp (AB u fn)) j).ins:=by rw[OW];exact AK hi
  obtain⟨a,ha⟩:=List.length_eq_one_iff.1 (hW.cp _ C5 i Km DG);obtain⟨y,hy⟩:=cF m i a hi (by rw[ha];simp);have hs:=xf AO hm he hi;rw[(vv i _ _).1 DG]at hs;have hg:(i.args.map (FL (eQ u fn b m).1)).headD 0=y:=by
   rw[ha];show FL (PY u fn b m) a=y;unfold FL;rw[hy];rfl
  rw[hg]at hs;refine⟨a,y,ha,hy,?_,?_⟩
  ·show(eQ u fn b (m+1)).1=_;rw[hs];rfl
  rw[Tu,Tu,hs];simp
 ·have hs:=xf AO hm he hi;rw[(vv i _ _).2 DG]at hs;refine⟨(eQ u fn b m).2.1,?_,fun a ha=>cF m i a hi ha,?_,fun w y hw=>?_,?_⟩
  ·rw[Jz];show(W.is++qe.2.2)[_]?=_;have mr:qe.2.2=(eQ u fn b (m+1)).2.2++(C4 (eQ u fn b (m+1)).1 (eQ u fn b (m+1)).2.1 ((A7 (AB u fn) b).ins.drop (m+1))).2.2:=by
    rw[Kn,OW,hQ (m+1)];have:=lH ((A7 (AB u fn) b).ins.take (m+1)) ((A7 (AB u fn) b).ins.drop (m+1)) W.E W.nx;rw[UP]at this;rw[this]
   rw[Tu,Dg I,Sz,mr,hs];simp only;rw[Ez,Dg (B6 _),FB];rfl
  ·show(eQ u fn b (m+1)).1=_;rw[hs];rfl
  ·have:=heb m w y hw;omega
  rw[Tu,Tu,hs];exact KM
 ·rw[Jz,Tu,nU];show(W.is++qe.2.2)[_]?=none;exact H3 (by rw[Bf];exact B6 _)
 ·rw[Jz];exact⟨P.term.1,P.term.2.2.1,P.term.2.2.2⟩
 ·rw[Jz];show PY u fn b _ _=some (QT qe.1 (A7 (Bp (AB u fn)) j).term);unfold PY;rw[nU];have IX:IL (A7 (Bp (AB u fn)) j).term=true:=by
   unfold IL at hu ⊢;rw[P.term.1];exact hu
  have R8:=hW.gw.arg _ C5;unfold Ob at R8;have TE:=hW.gw.SI;obtain⟨y,hy⟩:=TA (A7 (Bp (AB u fn)) j).term.arg.toNat ((lk _ _ _ _ _).2 ⟨I,.inr (.inl ⟨IX,rfl⟩)⟩)
  rw[show(((A7 (Bp (AB u fn)) j).term.arg.toNat:Nat):Int)=(A7 (Bp (AB u fn)) j).term.arg from I]at hy;unfold QT;rw[A9 IX];unfold FL;rw[hy,<-P.term.2.1,hy];rfl
 -- an S4
 have Kl:(A7 (Bp (AB u fn)) j).term.to[q]?=some (Fl (FG (Oj u fn)) e):=by rw[P.to,Bv,hq];rfl
 have Lm:=AK Kl;obtain⟨t1,t2,t3⟩:=(hW.gw.to _ C5).2 _ Lm;have qmZ:=Uz f1 f2 f3;have hw:=Kx qmZ;have Em:=K7 P.MW.1 P.MW.2;have hqm:=AK hq;have Ge:=LS (f2.fin _ (AK Em));obtain⟨⟨r1,r2⟩,_⟩:=Ge.DN e hqm;have Ln:(A7 (AB u fn) b).term.kind≠0:=fun z=>by
  rw[Ge.to (.inl z)]at hqm;cases hqm
 have qmn:Qj (Oj u fn) b e.block:=by
  refine⟨e,?_,rfl⟩;have Hu:=Wy Em;have Po:A7 (BT (AB u fn)) b=DU b.toNat (A7 (AB u fn) b):=by
   unfold A7 at Hu ⊢;rw[Hu];rfl
  show e∈(A7 (BT (AB u fn)) b).term.to;rw[Po];show e∈(Eo (A7 (AB u fn) b)).to;unfold Eo;rw[A4 Ln];exact hqm
 have hL2:eL u fn e.block:=hw.next b e.block hL qmn
 obtain⟨j2,P2⟩:=od AO hm he h0 h1 hL2;have Tc:(Fl (FG (Oj u fn)) e).block=(j2:Int):=by
  show MZ (FG (Oj u fn)) e.block=_;rw[fA (f:=Oj u fn) I (by show e.block<(BT (AB u fn)).blocks.length;rw[Nz];omega)];exact P2.pos
 have oL:j2≠0:=I
 have yi:(Ql u fn e.block).toNat=j2:=by rw[P2.pos,BH]
 obtain⟨W2,gJ⟩:∃W2,W2=XZ u fn j2:=⟨_,rfl⟩
 have G2:=hX.succ j _ P.lt Lm;rw[Tc,BH]at G2;have MO:(A7 (AB u fn) e.block).params=[]:=f2.bare _ _ (K7 I I) I;have LD:PY u fn e.block 0=W2.E:=by
  unfold PY eQ;rw[yi,T4,<-gJ];rfl
 obtain⟨o3,o4⟩:=me f1 f2 f3 (i:=(CD (eS u fn) j2).toNat) P2.at_ (W:=W2) gJ;have hvp:(A7 (AB (GR u) fn) (Ql u fn e.block)).params=W2.ps:=by
  rw[mE h0 h1,P2.pos,o4]
 have CV:=hW.row P2.lt;obtain⟨S2,R4⟩:∃S2,S2=Dk (Bp (AB u fn)) (Eb (Bj (BT (AB u fn)))) (GO (AB u fn)) ((Cf (Bj (BT (AB u fn)))).take (CD (eS u fn) j2).toNat):=⟨_,rfl⟩
 have hW2:W2=Cl (Bp (AB u fn)) (Eb (Bj (BT (AB u fn)))) (GO (AB u fn)) j2 S2:=by rw[gJ,R4];rfl
 have yX:(NS (Eb (Bj (BT (AB u fn)))) (GO (AB u fn)) qe.1 (Fl (FG (Oj u fn)) e))=⟨(j2:Int),if 1<((Eb (Bj (BT (AB u fn)))).getD j2 []).length then(DC 0 ((GO (AB u fn)).getD j2 [])).map (FL qe.1)else []⟩:=by
  unfold NS;rw[Tc,BH]
 refine⟨_,by rw[Jz];show((A7 (Bp (AB u fn)) j).term.to.map _)[q]?=_;rw[Bv,Kl];rfl,hL2,by rw[yX,P2.pos],?_,MO,fun es es' hV=>?_⟩
 ·unfold XY eQ;rw[yi,T4,<-gJ,hW2];unfold Cl;rw[A4 oL];split<;>rfl
 rw[hvp,LD,yX];unfold PY at hV;rw[nU]at hV;by_cases e1:((Eb (Bj (BT (AB u fn)))).getD j2 []).length=1
 ·obtain⟨p,hp⟩:=List.length_eq_one_iff.1 e1;have hpj:p=(j:Int):=by
   rw[hp]at G2;exact(List.mem_singleton.1 G2).symm
  have hpt:=hW.one _ (j2:Int) p P2.at_ I (by rw[BH,CV.2.2.1,hp]);have R6:W2.E=S2.EE j∧W2.ps=[]:=by
   rw[hW2];unfold Cl;rw[A4 oL,A9 e1,hp,hpj];exact⟨A6,rfl⟩
  rw[R6.1,R6.2];have M9:S2.EE j=qe.1:=by
   obtain⟨i1,NZ⟩:=List.mem_iff_getElem?.1 hpt;rw[GC]at NZ;split at NZ
   ·rename_i AF;rw[hpj]at NZ;have FI:=hW.nd _ _ _ NZ P.at_;subst FI;have Fv:(CD (eS u fn) j2).toNat<(Cf (Bj (BT (AB u fn)))).length:=AE P2.at_;obtain⟨k1,_⟩:=tV hW NZ ((CD (eS u fn) j2).toNat-((CD (eS u fn) j).toNat+1)) I;rw[show(CD (eS u fn) j).toNat+1+((CD (eS u fn) j2).toNat-((CD (eS u fn) j).toNat+1))=(CD (eS u fn) j2).toNat from I,<-R4,(lJ j _).1]at k1;rw[k1,Kn,Pc];rfl
   cases NZ
  rw[M9];exact hV
 have hgt:1<((Eb (Bj (BT (AB u fn)))).getD j2 []).length:=by
  have:0<((Eb (Bj (BT (AB u fn)))).getD j2 []).length:=List.length_pos_iff.2 fun z=>by rw[z]at G2;cases G2
  omega
 rw[A9 hgt];have R6:W2.E=DF Fc S2.nx (DC 0 ((GO (AB u fn)).getD j2 []))∧W2.ps=Cu S2.nx (DC 0 ((GO (AB u fn)).getD j2 [])).length:=by
  rw[hW2];unfold Cl;rw[A4 oL,A4 e1];exact eH
 rw[R6.1,R6.2];have hd:∀a∈DC 0 ((GO (AB u fn)).getD j2 []),∃y,qe.1 a=some y:=fun a ha=>by
  obtain⟨v,hv,rfl⟩:=kW _ _ ha;have:=TA v (adf hX P2.lt I P.lt Lm Tc hv);rw[show((0:Nat):Int)+(v:Int)=(v:Int) from I];exact Cd
 have BA:=hV.take hd;show VE _ es (C7 es' _ (BV es' ((DC 0 ((GO (AB u fn)).getD j2 [])).map (FL qe.1))));rw[BA];exact VE.pass (E1:=Fc) (es1:=[]) _ (fun w x hx=>WO) (EB.none _)
theorem qkt:Yy u (GR u) (eL u) (Ql u) (PY u) (XY u) 4097:=by
 refine⟨by unfold GR;rw[BE],rfl,fun fn h0 h1=>?_,fun fn b h0 h1 hL=>qjv AO hm he h0 h1 hL⟩;obtain⟨f1,f2,f3⟩:=oO AO hm he h0 h1;have hw:=Kx (Uz f1 f2 f3);have hL:eL u fn 0:=by
  show 0<=CD (BT (AB u fn)) 0;rw[hw.zero];omega
 have hB:Ql u fn 0=0:=(qcK hw).1;obtain⟨j,P⟩:=od AO hm he h0 h1 hL;have hj:j=0:=by have:=P.pos;omega
 subst hj;have hX:=yr f1 f2 f3;have hW:=hX.w;obtain⟨W,Pc⟩:∃W,W=XZ u fn 0:=⟨_,rfl⟩
 obtain⟨o1,o2⟩:=me f1 f2 f3 (i:=(CD (eS u fn) ((0:Nat):Int)).toNat) P.at_ (W:=W) Pc;obtain⟨S,hS⟩:∃S,S=Dk (Bp (AB u fn)) (Eb (Bj (BT (AB u fn)))) (GO (AB u fn)) ((Cf (Bj (BT (AB u fn)))).take (CD (eS u fn) ((0:Nat):Int)).toNat):=⟨_,rfl⟩
 have hWb:W=Cl (Bp (AB u fn)) (Eb (Bj (BT (AB u fn)))) (GO (AB u fn)) 0 S:=by rw[Pc,hS];rfl
 have Hc:=(cc hW P.lt S).2.2;rw[<-hWb]at Hc;have Nh:A7 (AB (GR u) fn) 0=A7 (Hk (AB u fn)) ((0:Nat):Int):=by
  rw[mE h0 h1];rfl
 rw[o2]at Nh;have hpp:(A7 (Bp (AB u fn)) 0).params=(A7 (AB u fn) 0).params:=P.blk.2;obtain⟨Pm,hPm⟩:∃Pm,Pm=(A7 (Bp (AB u fn)) 0).params:=⟨_,rfl⟩
 obtain⟨z,hz⟩:∃z,z=H9 (DF Fc S.nx Pm) ((GO (AB u fn)).getD 0 []) ((GO (AB u fn)).getD 0 []).length:=⟨_,rfl⟩
 have R6:W=⟨DF (DF Fc S.nx Pm) (S.nx+Pm.length) z,S.nx+Pm.length+z.length,Cu S.nx Pm.length,(Cu (S.nx+Pm.length) z.length).map sI⟩:=by
  rw[hWb,hz,hPm];unfold Cl;rw[A9 rfl]
 have hQ0:eQ u fn 0 0=(W.E,W.nx,[]):=by
  unfold eQ;rw[hB,T4,Pc];rfl
 have Tu:XY u fn 0 0=z.length:=by
  unfold XY;rw[hQ0,hB];show(XZ u fn 0).is.length+0=_;rw[<-Pc,R6];simp[Q2]
 have IY:z.length<=4096:=by
  rw[R6]at Hc;simpa[Q2]using Hc
 refine⟨hL,hB,?_,by rw[Tu];omega,Cu (S.nx+Pm.length) z.length,(C4 W.E W.nx (A7 (Bp (AB u fn)) ((0:Nat):Int)).ins).2.2,by rw[Q2,Tu],?_,fun args DK=>?_⟩
 ·rw[Nh,<-hpp,<-hPm,R6];exact Q2 _ _
 ·rw[Nh,R6]
 rw[<-hpp,<-hPm]at DK ⊢;rw[Nh];show VE (eQ u fn 0 0).1 _ (bN _ (C7 [] W.ps args));rw[hQ0,R6];have hb:=VE.bind Pm args (E:=Fc) (nx:=S.nx) (es:=[]) (es':=[]) DK.symm (fun w x hx=>WO) (EB.none _);refine VE.y9 z hb (EB.SH Pm (EB.none _)) fun w hwz=>?_;rw[hz]at hwz;have hn:=(List.mem_filter.1 hwz).2;have hwP:w ∉ Pm:=fun q=>by
  obtain⟨y,hy⟩:=ku Pm (E:=Fc) (nx:=S.nx) q;rw[hy]at hn;cases hn
 have:∀(l:List Int) (a:List SV) (es:List (Int×SV)),w ∉ l->Bq (C7 es l a) w=Bq es w:=fun l=>by
  induction l with
  | nil=>intro a es _;cases a<;>rfl
  | cons p r ih =>
   intro a es hq;cases a with
   | nil=>rfl
   | cons x a =>
    rw[C7,ih a _ (fun q=>hq (Dw _ q)),Nv,A4 (fun q=>hq (by rw[<-q];exact DQ))]
 rw[this Pm args [] hwP];rfl
end
theorem qaw{t:Term}(h:I4 f t=0):P5 t.cases t.cases.length=0:=by
 unfold I4 at h;split at h
 ·simp at h
 split at h
 ·simp at h
 split at h
 ·simp at h
 split at h
 ·rename_i q;exact B3 h q
 rename_i q;exact N8 q
theorem xi(hm:Lc f){k:Nat}{b:Block}(hb:f.blocks[k]?=some b):I4 (BT f) (DU k b).term=0:=by
 have h0:=hm.fin b (AK hb);obtain⟨h1,h2,h3,h4⟩:=ZR h0;have hc:=qaw h0;by_cases hk:b.term.kind=0
 ·have e:(DU k b).term=⟨4,0,3,[],[]⟩:=by
   unfold DU SC Eo;rw[A9 hk];rfl
  rw[e];exact cj EW A6 (fun _=>EW) rfl (fun e he=>by cases he)
 have hT:Eo b=⟨b.term.kind,0,b.term.n,b.term.cases,b.term.to⟩:=by unfold Eo;rw[A4 hk]
 have hA:(DU k b).term.arg=if SC (Eo b)=true then(k:Int)else 0:=rfl
 refine cj ?_ (by show(Eo b).cases.length<=256;rw[hT];exact h2) (fun q=>?_) (by show P5 (Eo b).cases (Eo b).cases.length=0;rw[hT];exact hc) (fun e he=>?_)
 ·unfold Hj at h1 ⊢;simp only[F0,Hq,Cp]at h1 ⊢;obtain⟨Bh,⟨⟨he,_⟩,hn⟩,BQ⟩:=h1;have e1:(DU k b).term.kind=b.term.kind:=abl
  have e2:(DU k b).term.n=b.term.n:=by show(Eo b).n=_;rw[hT]
  have e3:(DU k b).term.cases=b.term.cases:=by show(Eo b).cases=_;rw[hT]
  have e4:(DU k b).term.to=b.term.to:=by show(Eo b).to=_;rw[hT]
  have eE:K6 (DU k b).term=K6 b.term:=by unfold K6;rw[e1,e3]
  rw[e1,e2,e3,e4,eE];refine⟨Bh,⟨⟨he,?_⟩,hn⟩,BQ⟩;rw[hA];unfold TC SC;rw[e1,hT];by_cases q2:b.term.kind=2
  ·left;simp[q2]
  by_cases q3:b.term.kind=3
  ·left;simp[q3]
  right;simp[q2,q3]
 ·have e1:(DU k b).term.kind=b.term.kind:=abl
  have e2:(DU k b).term.n=b.term.n:=by show(Eo b).n=_;rw[hT]
  rw[e2];exact h3 (by rw[<-e1];exact q)
 have NY:e∈b.term.to:=by
  have:e∈(Eo b).to:=he;rw[hT]at this;exact Cd
 obtain⟨p1,p2⟩:=h4 e NY;have Em:=K7 (f:=f) (k:=e.block) I I;rw[hm.bare _ _ Em I]at p2;refine⟨by rw[Nz];exact p1,?_⟩;have Hu:=Wy Em;have:A7 (BT f) e.block=DU e.block.toNat (A7 f e.block):=by
  unfold A7 at Hu ⊢;rw[Hu];rfl
 rw[this,p2];rfl
theorem xD(f:Func):∀(l:List Block) (n:Nat),((l.mapIdx fun i b=>DU (n+i) b).flatMap Gx).Pairwise (· < ·)∧∀v∈(l.mapIdx fun i b=>DU (n+i) b).flatMap Gx,(n:Int)<=v∧v<n+l.length
 | [],n=>⟨A6,fun v hv=>by simp at hv⟩
 | b::r,n=>by
  obtain⟨h1,h2⟩:=xD f r (n+1);have e:(b::r).mapIdx (fun i b=>DU (n+i) b)=DU n b::r.mapIdx (fun i b=>DU (n+1+i) b):=by
   rw[List.mapIdx_cons];congr 1;refine Gg fun j=>?_;rw[UR,UR,show n+(j+1)=n+1+j from I]
  rw[e,GF];have hv:∀v∈Gx (DU n b),v=(n:Int):=fun v hv=>by
   unfold Gx DU at hv;simp only[HF]at hv;split at hv<;>simp at hv;exact hv
  have hp:(Gx (DU n b)).Pairwise (· < ·):=by
   unfold Gx DU;simp only[HF];split<;>simp
  refine⟨List.pairwise_append.2 ⟨hp,h1,fun x hx y hy=>?_⟩,fun v hvm=>?_⟩
  ·have:=hv x hx;have:=(h2 y hy).1;omega
  rw[CE];rcases List.mem_append.1 hvm with q|q
  ·have:=hv v q;omega
  have:=h2 v q;omega
theorem xj:∀(l:List Block),(∀b∈l,b.ins.length<=1)->H0 l<=l.length
 | [],_=>by simp[H0]
 | b::r,h=>by
  have h1:=h b DQ;have h2:=xj r fun x hx=>h x (Dw _ hx);unfold H0 at h2 ⊢;rw[Bc,KH,CE];omega
theorem qhc(hm:Lc f):Cj (BT f)=0:=by
 have hb:∀c∈(BT f).blocks,∃(k:Nat) (b:Block),f.blocks[k]?=some b∧c=DU k b∧(BT f).blocks[k]?=some c:=fun c hc=>by
  obtain⟨k,hk⟩:=List.mem_iff_getElem?.1 hc;have hl:=AE hk;rw[Nz]at hl;have Em:f.blocks[k]?=some f.blocks[k]:=AY hl;refine⟨k,_,Em,?_,hk⟩;rw[Wy Em,AM]at hk;exact hk.symm
 have Fv:∀c∈(BT f).blocks,c.ins.length<=1:=fun c hc=>by
  obtain⟨k,b,_,rfl,_⟩:=hb c hc;unfold DU;simp only;split<;>simp
 have NK:=hm.few;have hv:=xD f f.blocks 0;have KS:G8 (BT f)=(f.blocks.mapIdx fun i b=>DU (0+i) b).flatMap Gx:=by
  unfold G8 BT;simp only[Db]
 rw[<-KS]at hv;have Cv:∀(k:Nat) b,(BT f).blocks[k]?=some b->b.term.kind≠1->b.term.kind≠4->Ru (BT f) k b.ins.length b.term.arg:=fun k c hk h1 h4=>by
  have hl:=AE hk;rw[Nz]at hl;have Em:f.blocks[k]?=some f.blocks[k]:=AY hl;have Ig:=hk;rw[Wy Em,AM]at Ig;have hE:=LS (xi hm Em);rw[Ig]at hE;have hC:SC (Eo f.blocks[k])=true:=by
   have e1:c.term.kind=(Eo f.blocks[k]).kind:=by rw[<-Ig];rfl
   have e0:(Eo f.blocks[k]).kind≠0:=by
    unfold Eo;split
    ·simp
    assumption
   have:=hE.kind;unfold SC;rw[Hq,Cp,Cp];omega
  have OW:c.ins=[⟨(k:Int),0,0,[]⟩]:=abB
  have gK:c.term.arg=(k:Int):=abB
  rw[gK,OW];exact⟨((k:Int),1),⟨k,c,hk,rfl,.inr ⟨0,⟨(k:Int),0,0,[]⟩,by rw[OW];rfl,rfl,rfl⟩⟩,fun _=>.inl ⟨rfl,A6⟩⟩
 refine sN (by
  intro e;have:=Dj List.length e;rw[Nz]at this;exact hm.ne (List.length_eq_zero_iff.1 this)) (by rw[Nz];exact NK) (by unfold BT;simp) (fun c hc=>by have:=Fv c hc;omega) (by
  have:=xj _ Fv;rw[Nz]at this;omega) ?_ (fun v hvm=>by have:=hv.2 v hvm;omega) (hv.1.imp fun h=>I) (fun c hc=>?_) ⟨fun k b hk n i hi a ha=>?_,Cv,fun k b hk e he a ha=>?_⟩
 ·unfold A7 BT;rw[UR];cases f.blocks[(0:Int).toNat]?<;>simp[DU,default,instInhabitedBlock]
 ·obtain⟨k,b,Em,rfl,_⟩:=hb c hc;refine⟨fun i hi=>?_,xi hm Em⟩;unfold DU at hi;simp only at hi;split at hi
  ·rw[Fq]at hi;subst hi;rfl
  cases hi
 ·obtain⟨k',b',_,rfl,_⟩:=hb b (AK hk);have Km:=AK hi;unfold DU at Km;simp only at Km;split at Km
  ·rw[Fq]at Km;subst Km;cases ha
  cases Km
 obtain⟨k',b',Em,rfl,_⟩:=hb b (AK hk);have hE:=LS (hm.fin b' (AK Em));have NY:e∈(Eo b').to:=he;unfold Eo at NY;split at NY
 ·cases NY
 obtain⟨⟨p1,p2⟩,p3⟩:=hE.DN e NY;have CN:=K7 (f:=f) (k:=e.block) I I;rw[hm.bare _ _ CN I]at p3;rw[List.length_eq_zero_iff.1 p3]at ha;cases ha
theorem ua(AO:u.fit)(hm:Hh u=0):Gc LA u.fns=0:=by
 have h:=(iI AO hm).2;generalize u.fns=l at h;induction l with
 | nil=>rfl
 | cons f r ih =>
  unfold Gc;rw[HK (show LA f=0 from qhc (h f DQ))];exact ih fun g hg=>h g (Dw _ hg)
theorem qbl(AO:u.fit)(hc:GN u=0)(h:Gc Jv u.fns=0)(Lr:Hh (Gp u)=0)(hv:GN (GR (Gp u))=0)(he:(runM u 1500).e=0)(h5:(runM u 1500).fin≠5) :
  (D2 (GR (Gp u)) 1000000).e=13∨((D2 (GR (Gp u)) 1000000).e=0∧(D2 (GR (Gp u)) 1000000).out=(runM u 1500).out∧(D2 (GR (Gp u)) 1000000).fin=(runM u 1500).fin∧(D2 (GR (Gp u)) 1000000).val=(runM u 1500).val):=by
 have hm:∀f∈u.fns,f.blocks.length+(DI f).news.length<=128:=fun f hf=>tg (ZU h f hf);have GU:=qbH AO hc hm;have hA:runM u 1500=D2 u 1500:=by
  unfold runM;rw[A4 dZ,A4 EW]
 rw[hA]at he h5 ⊢;have hus:=lV (qdp AO hc hm) GU;obtain⟨s1,s2,s3,s4,_,_⟩:=qbs (qfK AO hc hm) (lV AO hc) hus I (F:=1500) (G:=3001) I I I he;have Wm:=(ng AO hc h).1;have huq:=qgR Wm Lr;obtain⟨t1,t2,t3,t4⟩:=qbO (qmA AO hc h).tm hus huq I (F:=3001) (G:=50000000) I I I s1 (by rw[s3];exact h5);have Fb:=ua Wm Lr;rw[<-s2,<-s3,<-s4,<-t2,<-t3,<-t4];exact qaN (qkt Wm Lr Fb) huq (lV (lE Wm Lr Fb) hv) I (F:=50000000) (G:=1000000) I I I t1 (by rw[t3,s3];exact h5)
def ZI:Int->List Block->Int
 | m,[]=>m
 | m,b::r=>ZI (IntKind.i64.wrap (m+((b.ins.length:Int)+1))) r
def ZJ:Int->List Func->Int
 | m,[]=>m
 | m,f::r=>ZJ (ZI m f.blocks) r
def nj(u:Ad):Bool:=decide (ZJ 0 u.fns<=400)&&decide ((u.fns.length:Int)<=8)
theorem qdm(u:Ad)(AO:u.fit):BR prog 10 [u.enc] (.v (.bool (nj u))):=by
 obtain⟨R,hR⟩:∃R,R=ZJ 0 u.fns:=⟨_,rfl⟩
 have hlen:=AO.2.1;unfold nj;rw[<-hR];refine zf true 0 func10 ntmps10 ?_;refine WQ ?_ ?_
 ·refine Yh ?_;refine Al (BZ (ι:={x:Nat×Int // x.1<=u.fns.length∧R=ZJ x.2 (u.fns.drop x.1)}) (fun x=>⟨38,[(1,.ip none [C8 u.fns,aI u.main]),(3,aI x.1.2),(9,C8 u.fns),(10,aI u.fns.length),(11,aI x.1.1)],[.gone]⟩) (fun x=>u.fns.length-x.1.1) ⟨(0,0),I,by simp[hR]⟩ ?_ ?_)
  ·refine C6 ?_
   all_goals rfl
  rintro⟨⟨k,n⟩,hk,hn⟩;simp only at hk hn;refine C3 (fun h=>?_) (fun h=>?_)
  ·refine Az ?_;have AF:k<u.fns.length:=Aa
   obtain⟨f,hf⟩:∃f,u.fns[k]?=some f:=⟨u.fns[k],Gu⟩
   rw[D9 hf]at hn;simp only[ZJ]at hn;have BK:=AO.2.2 f (AK hf);have Bt:=BK.2.1;obtain⟨P,hP⟩:∃P,P=ZI n f.blocks:=⟨_,rfl⟩
   rw[<-hP]at hn;refine DR hf ?_;refine Cz 5 1 (.ip none [aI f.name,AR f.blocks]) rfl Bd trivial rfl ?_ ?_;rotate_left;refine BL ?_
   ·refine Ei 1 [(1,.ip none [C8 u.fns,aI u.main]),(3,aI n),(9,C8 u.fns),(10,aI u.fns.length),(11,aI k),(5,.ip none [aI f.name,AR f.blocks])] A6 I [.gone] ?_ ?_ ?_ ?_ ?_
    ·rfl
    ·exact dy
    ·exact Es
    ·exact dy
    refine Cc ?_;refine Al (BZ (ι:={y:Nat×Int // y.1<=f.blocks.length∧P=ZI y.2 (f.blocks.drop y.1)}) (fun y=>⟨38,[(1,.ip none [C8 u.fns,aI u.main]),(3,aI y.1.2),(9,C8 u.fns),(10,aI u.fns.length),(11,aI k),(16,AR f.blocks),(17,aI f.blocks.length),(18,aI y.1.1)],[.gone]⟩) (fun y=>f.blocks.length-y.1.1) ⟨(0,n),I,by simpa using hP⟩ ?_ ?_)
    ·refine C6 ?_
     all_goals rfl
    rintro⟨⟨j,m⟩,hj,hm⟩;simp only at hj hm;refine C3 (fun h=>?_) (fun h=>?_)
    ·refine Az ?_;have Hb:j<f.blocks.length:=Aa
     obtain⟨b,hb⟩:∃b,f.blocks[j]?=some b:=⟨f.blocks[j],aP⟩
     have hbi:=(BK.2.2 b (AK hb)).2.2.1;rw[D9 hb]at hm;simp only[ZI]at hm;refine acI hb ?_ ?_
     ·refine gq ⟨false,false⟩ hT 5 rfl rfl rfl A6 ?_;refine BL ?_
      refine Ef ?_
      refine aea rfl rfl A6 rfl rfl ?_;refine Ki ?_;refine Ei 1 [(1,.ip none [C8 u.fns,aI u.main]),(3,aI (IntKind.i64.wrap (m+((b.ins.length:Int)+1)))),(9,C8 u.fns),(10,aI u.fns.length),(11,aI k),(16,AR f.blocks),(17,aI f.blocks.length),(18,aI j)] A6 I [.gone] ?_ ?_ ?_ ?_ ?_
      ·rfl
      ·exact dy
      ·exact Es
      ·exact dy
      refine Bw ?_;refine⟨⟨(j+1,IntKind.i64.wrap (m+((b.ins.length:Int)+1))),D6,hm⟩,Ai,?_⟩;refine Ba ?_ ?_
      ·exact BY
      rfl
     exact Be
    refine BO ?_;have Ff:f.blocks.length<=j:=by
     have:=G0 h;omega
    rw[cy Ff]at hm;simp only[ZI]at hm;subst hm;refine Bw ?_;refine⟨⟨(k+1,P),D6,hn⟩,Ai,?_⟩;refine Ba ?_ ?_
    ·exact BY
    rfl
   exact Be
  refine BO ?_;have Bh:u.fns.length<=k:=by
   have:=G0 h;omega
  rw[cy Bh]at hn;simp only[ZJ]at hn;subst hn;cases hd:decide (R<=400)
  ·refine Ch hd ?_;exact ad0
  refine Ch hd ?_;exact ad0
 exact Be
theorem qli(u:Ad)(AO:u.fit)(n:Int)(h:(runM u n).e=0∧(runM u n).fin≠5):BR prog 45 [u.enc,aI n] (.Ab [ZC (runM u n).out (runM u n).fin (runM u n).val,aI (runM u n).n,.v (.bool true)]):=by
 have Aj:=lC u AO n;generalize runM u n=A at *;obtain⟨out,fin,val,k,e⟩:=A;obtain⟨h1,h2⟩:=h;simp only at h1 h2;subst h1;unfold TX.enc at Aj;have d1:decide (fin=5)=false:=Ac h2;refine rA ?_ ?_
 ·refine B9 ?_;simp -dsimp only[simprocAttr,↓AG,zp,d1,decide_true];exact r8
 exact Be
theorem qlh(u:Ad)(AO:u.fit)(n:Int)(h:¬((runM u n).e=0∧(runM u n).fin≠5)):∃(r:List Int×Int×Int) (m:Int),BR prog 45 [u.enc,aI n] (.Ab [ZC r.1 r.2.1 r.2.2,aI m,.v (.bool false)]):=by
 have Aj:=lC u AO n;generalize runM u n=A at *;obtain⟨out,fin,val,k,e⟩:=A;simp only at h;refine⟨(out,fin,val),k,?_⟩;unfold TX.enc at Aj;simp only at Aj ⊢;by_cases h1:e=0
 ·have d0:decide (e=0)=true:=Ar h1;have d1:decide (fin=5)=true:=Ar (N8 fun q=>h ⟨h1,q⟩);refine rA ?_ ?_
  ·refine B9 ?_;simp -dsimp only[simprocAttr,↓AG,zp,d0,d1];exact r8
  exact Be
 have d0:decide (e=0)=false:=Ac h1;refine rA ?_ ?_
 ·refine rl ?_;exact r8
 exact Be
theorem qcw(u v:Ad)(AO:u.fit)(qlI:v.fit)(h:(runM u 1500).e=0->(runM u 1500).fin≠5->(runM v 1000000).e=13∨((runM v 1000000).e=0∧(runM v 1000000).out=(runM u 1500).out∧(runM v 1000000).fin=(runM u 1500).fin∧(runM v 1000000).val=(runM u 1500).val)) :
  BR prog 17 [u.enc,v.enc] (.v (.bool true)):=by
 by_cases he:(runM u 1500).e=0∧(runM u 1500).fin≠5
 ·have hr:=qli u AO 1500 he;have hv:=lC v qlI 1000000;have hh:=h he.1 he.2;generalize runM u 1500=A at *;generalize runM v 1000000=B at *;obtain⟨out,fin,val,n,e⟩:=A;obtain⟨gb,yt,zE,n2,e2⟩:=B;unfold TX.enc at hv;simp only at hr hv hh;rcases hh with q|⟨q1,q2,q3,q4⟩
  ·subst q;refine acA ?_;refine E9 ?_;exact rZ
  subst q1 q2 q3 q4;have J5:=zk gb gb yt yt zE zE;unfold ZC at J5;simp only[decide_true,Bool.and_self]at J5;refine acA ?_;refine .inl ⟨_,J5,MK,B4 ?_⟩;simp -dsimp only[simprocAttr,↓AG,zp,decide_true];refine E9 ?_;exact rZ
 obtain⟨r,m,hr⟩:=qlh u AO 1500 he;refine zf true 0 func17 ntmps17 ?_;refine LZ ?_;refine zi hr ?_;refine Ak ?_;refine BF ?_;refine E3 ?_;exact rZ
end Go.Proofs.YtjdnhamngpafmaaGreat
