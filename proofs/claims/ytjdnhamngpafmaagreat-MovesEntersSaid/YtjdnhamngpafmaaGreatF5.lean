/-
  Texts bound together by a program of mine: YtjdnhamngpafmaaGreatPur, YtjdnhamngpafmaaGreatPux, YtjdnhamngpafmaaGreatPuy, YtjdnhamngpafmaaGreatPxa, YtjdnhamngpafmaaGreatPxb, YtjdnhamngpafmaaGreatPxg, YtjdnhamngpafmaaGreatPxh, YtjdnhamngpafmaaGreatT150, YtjdnhamngpafmaaGreatT151, YtjdnhamngpafmaaGreatT152, YtakdmelemfnmdaaAvv, YtjdnhamngpafmaaGreatT146, YtjdnhamngpafmaaGreatT147, YtjdnhamngpafmaaGreatT148, YtjdnhamngpafmaaGreatT153, YtjdnhamngpafmaaGreatT154, YtjdnhamngpafmaaGreatPxi, YtjdnhamngpafmaaGreatPy, YtjdnhamngpafmaaGreatPz, YtjdnhamngpafmaaGreatPwa, YtjdnhamngpafmaaGreatPus, YtjdnhamngpafmaaGreatPut, YtjdnhamngpafmaaGreatPuu, YtjdnhamngpafmaaGreatPuv, YtjdnhamngpafmaaGreatPwb, YtjdnhamngpafmaaGreatPva, YtjdnhamngpafmaaGreatPwd, YtjdnhamngpafmaaGreatPvb, YtjdnhamngpafmaaGreatPvc, YtjdnhamngpafmaaGreatPxj, YtjdnhamngpafmaaGreatPwc, YtjdnhamngpafmaaGreatPxk, YtjdnhamngpafmaaGreatPxl, YtjdnhamngpafmaaGreatPxm, YtjdnhamngpafmaaGreatPxn, YtjdnhamngpafmaaGreatT49, YtjdnhamngpafmaaGreatT50, YtjdnhamngpafmaaGreatPi, YtjdnhamngpafmaaGreatPzw, YtjdnhamngpafmaaGreatT180, YtjdnhamngpafmaaGreatPh, YtjdnhamngpafmaaGreatT51, YtjdnhamngpafmaaGreatT52, YtjdnhamngpafmaaGreatT181, YtjdnhamngpafmaaGreatPzx, YtjdnhamngpafmaaGreatPzv, YtjdnhamngpafmaaGreatPzy, YtjdnhamngpafmaaGreatPde, YtjdnhamngpafmaaGreatT59, YtjdnhamngpafmaaGreatPda, YtjdnhamngpafmaaGreatPdf, YtjdnhamngpafmaaGreatPdg, YtjdnhamngpafmaaGreatT183, YtjdnhamngpafmaaGreatT184, YtjdnhamngpafmaaGreatT185, YtjdnhamngpafmaaGreatT121, YtjdnhamngpafmaaGreatT186, YtjdnhamngpafmaaGreatT187, YtjdnhamngpafmaaGreatPzz, YtjdnhamngpafmaaGreatPzzc, YtjdnhamngpafmaaGreatPzzd.
-/
import Derived.Test.YtjdnhamngpafmaaGreatF4
set_option linter.all false
set_option maxRecDepth 100000
set_option maxHeartbeats 4000000

namespace Go.Proofs.YtjdnhamngpafmaaGreat
open Go.Av
theorem NK(A:List Int)(id:Nat)(b:Block):uE id (tg A b)=uE id b:=by
 unfold uE;rw[iM,LC];rfl
theorem Ge:∀{ids:List Nat} {bs:List Block} {k id:Nat} {b:Block},ids[k]?=some id->bs[k]?=some b->((fN ids bs).drop (k*7)).take 7=uE id b
 | i::ids,c::bs,0,id,b,h1,h2=>by
  simp only[List.getElem?_cons_zero,Option.some.injEq]at h1 h2;subst h1;subst h2;rfl
 | i::ids,c::bs,k+1,id,b,h1,h2=>by
  have ih:=Ge (ids:=ids) (bs:=bs) (k:=k) (by simpa using h1) (by simpa using h2);have e:fN (i::ids) (c::bs)=uE i c++fN ids bs:=rfl;have hl:(uE i c).length=7:=rfl;rw[e,List.drop_append,List.drop_of_length_le (by rw[hl];omega),hl,List.nil_append,show(k+1)*7-7=k*7 by omega];exact ih
 | [],_,k,id,b,h1,_=>by simp at h1
 | i::ids,[],k,id,b,_,h2=>by simp at h2
theorem rY{f:Func}{A:List Int}{ids:List Nat}{l:List Int}{k id:Nat}{b:Block}(h1:ids[k]?=some id)(h2:f.blocks[k]?=some b) :
  fN (uA ids (l++[(k:Int)])) (oh f A (l++[(k:Int)]))=fN (uA ids l) (oh f A l)++uE id b:=by
 have hb:ax f (k:Int)=b:=by
  unfold ax;rw[Int.toNat_natCast,h2];rfl
 unfold uA oh;rw[List.map_append,List.map_append];simp only[List.map_cons,List.map_nil,Int.toNat_natCast,h1,Option.getD_some,hb];rw[sA (by simp),NK]
theorem AH(ids:List Nat)(l:List Int):(uA ids l).length=l.length:=List.length_map ..
theorem kW(f:Func)(A:List Int)(l:List Int):(oh f A l).length=l.length:=List.length_map ..
theorem Jr.start{f:Func}(A:List Int){ids:List Nat}{eg:Nat}{O:List aj}(bG:∀o∈O,o.upto O.length)(h1:O[1]?=some (.cells [aI 0,.aC 7 [] .ex]))(hb:5<=eg∧O[eg]?=some (.cells (fN ids f.blocks)))(hc:Xg 5 ids f.blocks O)
  (ct:∀(j id:Nat) (b:Block),ids[j]?=some id->f.blocks[j]?=some b->b.term.to≠[]->id≠eg):Jr f A ids eg O.length [] 0 (O++[aj.cells [aI f.name,.aC 7 [] .ex]]) where
 up:=fun o ho=>by
  rw[List.length_append,List.length_singleton];rcases List.mem_append.1 ho with q|q
  ·exact aj.cj (by omega) (bG o q)
  rw[List.mem_singleton]at q;subst q;exact⟨trivial,⟨trivial,trivial⟩,trivial⟩
 r1:=cw h1
 x5:=by
  have:=I hb.2;omega
 xb:=by
  have:=I hb.2;omega
 bl:=⟨hb.1,cw hb.2⟩
 li:=hc.li
 own:=fun j id b q1 q2 q3=>by
  obtain⟨o1,o2⟩:=hc.own j id b q1 q2 q3;have:=I o2;refine⟨o1,ct j id b q1 q2 q3,by omega,fun q=>absurd rfl q,?_⟩;rw[if_neg (by simp)];exact cw o2
 inj:=hc.inj
 out:=lA _ _
 aC:=fun q=>absurd rfl q
def og:Nat->List Nat->List Block->List ae
 | 0,ids,bs=>fN ids bs
 | i+1,_::ids,b::bs=>b.enc.cells++og i ids bs
 | _+1,_,_=>[]
theorem wA:∀(i:Nat) {ids:List Nat} {bs:List Block},ids.length=bs.length->(og i ids bs).length=bs.length*7
 | 0,ids,bs,h=>mB h
 | i+1,_::ids,b::bs,h=>by
  have hb:b.enc.cells.length=7:=rfl;rw[og,List.length_append,wA i (by simpa using h),hb,List.length_cons];omega
 | i+1,[],[],_=>rfl
 | i+1,[],b::bs,h=>by simp at h
 | i+1,x::ids,[],h=>by simp at h
theorem DX(id:Nat)(b:Block):∀d∈uE id b,d.scalar:=fun d hd=>by
 simp only[uE,List.mem_cons,List.not_mem_nil,or_false]at hd;rcases hd with rfl|rfl|rfl|rfl|rfl|rfl|rfl
 ·trivial
 ·trivial
 ·trivial
 ·trivial
 ·trivial
 ·trivial
 unfold qO;split<;>trivial
theorem tP:∀(i:Nat) (ids:List Nat) (bs:List Block),∀d∈og i ids bs,d.scalar
 | 0,ids,bs=>fun d hd=>by
  unfold og fN at hd;obtain⟨l,hl,hd⟩:=List.mem_flatten.1 hd;obtain⟨j,hj⟩:=List.mem_iff_getElem?.1 hl;rw[List.getElem?_zipWith]at hj;cases h1:ids[j]? with
  | none=>rw[h1]at hj;cases hj
  | some id =>
   cases h2:bs[j]? with
   | none=>rw[h1,h2]at hj;cases hj
   | some b =>
    rw[h1,h2]at hj;simp only[Option.some.injEq]at hj;subst hj;exact DX id b d hd
 | i+1,x::ids,b::bs=>fun d hd=>by
  rw[og]at hd;rcases List.mem_append.1 hd with q|q
  ·simp only[Block.enc,ae.cells,List.mem_cons,List.not_mem_nil,or_false]at q;rcases q with rfl|rfl|rfl|rfl|rfl|rfl|rfl<;>trivial
  exact tP i ids bs d q
 | i+1,[],[]=>fun d hd=>by cases hd
 | i+1,[],b::bs=>fun d hd=>by cases hd
 | i+1,x::ids,[]=>fun d hd=>by cases hd
theorem GR:∀(i:Nat) {ids:List Nat} {bs:List Block} {id:Nat} {b:Block},ids[i]?=some id->bs[i]?=some b ->
  (og i ids bs)[i*7+6]?=some (qO id b.term.to)∧og (i+1) ids bs=(og i ids bs).set (i*7+6) (aH b.term.to)
 | 0,x::ids,c::bs,id,b,h1,h2=>by
  simp only[List.getElem?_cons_zero,Option.some.injEq]at h1 h2;subst h1;subst h2;exact⟨rfl,rfl⟩
 | i+1,x::ids,c::bs,id,b,h1,h2=>by
  obtain⟨i1,i2⟩:=GR i (ids:=ids) (bs:=bs) (id:=id) (b:=b) (by simpa using h1) (by simpa using h2);have hb:c.enc.cells.length=7:=rfl;have e:og (i+1) (x::ids) (c::bs)=c.enc.cells++og i ids bs:=rfl;have e2:og (i+1+1) (x::ids) (c::bs)=c.enc.cells++og (i+1) ids bs:=rfl;rw[e,e2,i2];refine⟨?_,?_⟩
  ·rw[List.getElem?_append_right (by omega),hb,show(i+1)*7+6-7=i*7+6 by omega];exact i1
  rw[List.set_append_right _ _ (by omega),hb,show(i+1)*7+6-7=i*7+6 by omega]
 | 0,[],_,id,b,h1,_=>by simp at h1
 | 0,_::_,[],id,b,_,h2=>by simp at h2
 | i+1,[],_,id,b,h1,_=>by simp at h1
 | i+1,_::_,[],id,b,_,h2=>by simp at h2
theorem wz:∀{ids:List Nat} {bs:List Block},ids.length=bs.length->og bs.length ids bs=au (bs.map Block.enc)
 | [],[],_=>rfl
 | x::ids,b::bs,h=>by
  have e:au ((b::bs).map Block.enc)=b.enc.cells++au (bs.map Block.enc):=rfl;rw[e,<-wz (ids:=ids) (by simpa using h)];rfl
 | [],b::bs,h=>by simp at h
 | x::ids,[],h=>by simp at h
theorem m8(bs:List Block):(au (bs.map Block.enc)).map ae.bk=au (bs.map Block.enc):=by
 induction bs with
 | nil=>rfl
 | cons b r ih =>
  have e:au ((b::r).map Block.enc)=b.enc.cells++au (r.map Block.enc):=rfl;rw[e,List.map_append,ih];rfl
theorem DR{P:Program}{kb:Nat}{c:Code}{Q:dE->St->Prop}{n:Nat}{br:List (Nat×ae)}{O:List aj}{ids:List Nat}{bs:List Block}{X oid:Nat}{name:Int}
  (hl:ids.length=bs.length) (hX:oid≠X) (iU:O[X]?=some (.cells [aI name,.os oid bs.length 7])) (Yt:O[oid]?=some (.cells (fN ids bs)))
  (oM:∀(j id:Nat) (b:Block),ids[j]?=some id->bs[j]?=some b->b.term.to≠[]->id≠oid∧id≠X∧O[id]?=some (.cells (ib b.term.to)))
  (Yj:∀(i j id:Nat) (b d:Block),ids[i]?=some id->ids[j]?=some id->bs[i]?=some b->bs[j]?=some d->b.term.to≠[]->d.term.to≠[]->i=j)
  (h:∀O',O'.length=O.length->O'[X]?=some (.cells [aI name,ay bs])->cc P kb c Q ⟨n,br,O'⟩):cc P kb c Q ⟨n,br,O⟩:=by
 refine ve (A:=oid) (C:=fun i=>og i ids bs) (N:=bs.length) (M:=bs.length*7) (fun i=>i*7+6) (fun i=>tP i ids bs) (fun i=>wA i hl)
  (fun i O=>O[X]?=some (.cells [aI name,.os oid bs.length 7])∧∀(j id:Nat) (b:Block),i<=j->ids[j]?=some id->bs[j]?=some b->b.term.to≠[]->id≠oid∧id≠X∧O[id]?=some (.cells (ib b.term.to)))
  (fun i O hi hA hf=>?_) bs.length 0 O (by omega) Yt ⟨iU,fun j id b _=>oM j id b⟩ (fun O1 dV hA hf=>?_)
 ·have gp:ids[i]?=some (ids[i]'(by omega)):=List.getElem?_eq_getElem _;have hb:bs[i]?=some (bs[i]'hi):=List.getElem?_eq_getElem _;generalize ids[i]'(by omega)=id at gp;generalize bs[i]'hi=b at hb;obtain⟨m1,m2⟩:=GR i gp hb;by_cases ht:b.term.to=[]
  ·refine .inl ⟨?_,hf.1,fun j id b sR=>hf.2 j id b (by omega)⟩;have he:aH b.term.to=qO id b.term.to:=by
    rw[ht];rfl
   show og (i+1) ids bs=og i ids bs;rw[m2,he];apply List.ext_getElem?;intro j;rw[List.getElem?_set];split
   ·rename_i e;rw[<-e,if_pos (I m1),m1]
   rfl
  obtain⟨o1,o2,o3⟩:=hf.2 i id b (Nat.le_refl _) gp hb ht;refine .inr ⟨id,.cells (ib b.term.to),.os id b.term.to.length 2,aH b.term.to,o1,o3,by simp[aj.aF],trivial,?_,m2,bQ.os (cs:=ib b.term.to) o3 (fun x hx=>by obtain⟨e,_,rfl⟩:=List.mem_map.1 hx;rfl) (by simp) (by rw[List.drop_zero,List.take_of_length_le (by rw[nj];omega)];exact Hw _),?_,fun j mh b' sR h1 h2 h3=>?_⟩
  ·show(og i ids bs)[i*7+6]?=_;rw[m1];exact congrArg some (if_neg ht)
  ·rw[List.getElem?_set_ne (fun e=>hX e),List.getElem?_set_ne (fun e=>o2 e)];exact hf.1
  obtain⟨p1,p2,p3⟩:=hf.2 j mh b' (by omega) h1 h2 h3;refine⟨p1,p2,?_⟩;rw[List.getElem?_set_ne (fun e=>p1 e.symm),List.getElem?_set_ne (fun e=>?_)]
  ·exact p3
  subst e;have:=Yj i j id b b' gp h1 hb h2 ht h3;omega
 rw[wz hl]at hA;refine iB oid hA (by simp[aj.aF]) trivial br (fun s z hz=>⟨z,hz,.refl z⟩) X (Ne.symm hX) [aI name,.os oid bs.length 7] [aI name,ay bs] hf.1 rfl (fun d hd=>?_) (fun j a d ha hd=>?_) (h _ (by rw[List.length_set,List.length_set,dV]) ?_)
 ·simp only[List.mem_cons,List.not_mem_nil,or_false]at hd;rcases hd with rfl|rfl<;>trivial
 ·match j,ha,hd with
  | 0,ha,hd =>
   simp only[List.getElem?_cons_zero,Option.some.injEq]at ha hd;subst ha;subst hd;exact .refl _
  | 1,ha,hd =>
   simp only[List.getElem?_cons_succ,List.getElem?_cons_zero,Option.some.injEq]at ha hd;subst ha;subst hd;refine bQ.os hA (fun x hx=>?_) (by simp) ?_
   ·obtain⟨b,_,rfl⟩:=List.mem_map.1 hx;rfl
   have Na:=wA bs.length hl;rw[wz hl]at Na;rw[List.drop_zero,List.take_of_length_le (by omega)];exact m8 bs
  | j+2,ha,hd=>simp at ha
 rw[List.getElem?_set_self (by rw[List.length_set];exact I hf.1)]
def Wi(x:Edge):Block:=⟨[],[],⟨1,0,0,[],[x]⟩⟩
def n4(b:Block)(es:List Edge):Block:=⟨b.params,b.ins,⟨b.term.kind,b.term.arg,b.term.n,b.term.cases,es⟩⟩
structure Sp where
 tos:List (List Edge)
 news:List Block
def Up(f:Func)(k:Nat)(x:Edge):Bool:=decide (2<=(ax f (k:Int)).term.to.length)&&decide (2<=(AI f x.block).length)
def S5(f:Func)(k n:Nat)(S:Sp):Sp :=
 match (kX f (k:Int))[n]? with
 | none=>S
 | some x=>if Up f k x then⟨S.tos.set k ((S.tos[k]?.getD []).set n ⟨((f.blocks.length+S.news.length:Nat):Int),[]⟩),S.news++[Wi x]⟩else S
def spE(f:Func)(k:Nat):Nat->Nat->Sp->Sp
 | 0,_,S=>S
 | m+1,n,S=>spE f k m (n+1) (S5 f k n S)
def spK(f:Func):Nat->Nat->Sp->Sp
 | 0,_,S=>S
 | m+1,k,S=>spK f m (k+1) (spE f k (kX f (k:Int)).length 0 S)
def spS(f:Func):Sp:=⟨f.blocks.map fun b=>b.term.to,[]⟩
def spM(f:Func):Sp:=spK f f.blocks.length 0 (spS f)

end Go.Proofs.YtjdnhamngpafmaaGreat
namespace Go.Av

end Go.Av
namespace Go.Proofs.YtjdnhamngpafmaaGreat
open Go.Av
abbrev Mv:=Int×Int
abbrev eM(p:Mv):ae:=.agg [aI p.1,aI p.2]

end Go.Proofs.YtjdnhamngpafmaaGreat
namespace Go.Proofs.YtjdnhamngpafmaaGreat
open Go.Av
section
variable {name:Int} {ids ss:List Nat} {X eg:Nat} {L:List Block} {O:List aj}
end
end Go.Proofs.YtjdnhamngpafmaaGreat
namespace Go.Proofs.YtjdnhamngpafmaaGreat
open Go.Av
def j4(v:Int):Bool:=decide (0<=v)&&decide (v<4096)
theorem hZ{v:Int}:j4 v=true↔0<=v∧v<=4095:=by
 unfold j4;rw[Bool.and_eq_true,decide_eq_true_eq,decide_eq_true_eq];omega
theorem sl(v:Int):bD Tryz.prog 78 [aI v] (.v (.bool (j4 v))):=by
 unfold j4;by_cases h:0<=v
 ·have d:decide (0<=v)=true:=decide_eq_true h;rw[d,Bool.true_and];refine zf true 0 Tryz.func78 Tryz.ntmps78 ?_;dsimp only[Tmp,TypeId,slotsOf];refine aA (ah ?_);refine aS ?_;simp -dsimp only[simprocAttr,↓aa,zp,d];refine ah ?_;refine aq ?_;simp -dsimp only[simprocAttr,↓aa,zp,zr,Tryz.results78]
 have d:decide (0<=v)=false:=decide_eq_false h;rw[d,Bool.false_and];refine zf true 0 Tryz.func78 Tryz.ntmps78 ?_;dsimp only[Tmp,TypeId,slotsOf];refine aA (ah ?_);refine aS ?_;simp -dsimp only[simprocAttr,↓aa,zp,d];refine ah ?_;refine aq ?_;simp -dsimp only[simprocAttr,↓aa,zp,zr,Tryz.results78]
theorem Ip(v:Int):bD Tryz.prog 109 [aI v] (.v (.bool (!j4 v))):=by
 have hv:=sl v;refine zf true 0 Tryz.func109 Tryz.ntmps109 ?_;dsimp only[Tmp,TypeId,slotsOf];refine aA (ah ?_);refine aA ?_;refine zi hv ?_;refine ah ?_;refine aq ?_;simp -dsimp only[simprocAttr,↓aa,zp,zr,Tryz.results109]
def wu(q:Int->Bool):List Int->Nat->Int
 | [],_=>-1
 | x::r,k=>if q x then(k:Int)else wu q r (k+1)
theorem yM(q:Int->Bool):∀(l:List Int) (k:Nat),decide (0<=wu q l k)=l.any q
 | [],k=>rfl
 | a::r,k=>by
  rw[wu,List.any_cons];cases hq:q a with
  | true =>
   rw[if_pos rfl,Bool.true_or];exact decide_eq_true (by omega)
  | false =>
   rw[if_neg (by simp),Bool.false_or];exact yM q r (k+1)
theorem H4(l:List Int):bD Tryz.prog 128 [aK l,.fn (.func 109) [] []] (aI (wu (fun a=>!j4 a) l 0)):=by
 obtain⟨R,hR⟩:∃R,R=wu (fun a=>!j4 a) l 0:=⟨_,rfl⟩
 rw[<-hR];refine zf true 0 Tryz.func128 Tryz.ntmps128 ?_;dsimp only[Tmp,TypeId,slotsOf];refine aA (ah ?_);refine gg 0 rfl (fun KO=>?_);simp only[List.length_map]at KO;refine bX (ah ?_);refine ai (aO (ι:={k:Nat // k<=l.length∧R=wu (fun a=>!j4 a) (l.drop k) k}) (fun k=>⟨19,[(0,aK l),(1,.fn (.func 109) [] []),(7,aI l.length),(8,aI k.1)],[]⟩) (fun k=>l.length-k.1) ⟨0,by omega,hR⟩ ?_ ?_)
 ·refine zq rfl ?_ ?_;simp -dsimp only[simprocAttr,↓aa,zp,zc]
  all_goals rfl
 rintro⟨k,hk,dw⟩;refine aA (ah ?_);apply iz rfl<;>intro h
 ·refine cd ?_;have bg:k<l.length:=by simpa using h
  obtain⟨x,hx⟩:∃x,l[k]?=some x:=⟨l[k],List.getElem?_eq_getElem bg⟩
  have hv:=Ip x;rw[bP hx,wu]at dw;refine aJ (ai ?_);refine aA (ah ?_);refine aS ?_;simp -dsimp only[simprocAttr,↓aa,zp,hx]
  repeat(refine⟨by omega,?_⟩)
  refine zi hv ?_;refine ah ?_;cases hq:j4 x with
  | false =>
   rw[hq]at dw;simp only[Bool.not_false,if_true]at dw;refine cH rfl ?_;refine aA (ah ?_);refine aq ?_;simp -dsimp only[simprocAttr,↓aa,zp,zr,Tryz.results128];rw[dw]
  | true =>
   rw[hq]at dw;simp only[Bool.not_true,Bool.false_eq_true,if_false]at dw;apply aP rfl<;>intro h
   ·cases h
   refine la ?_;refine cT ?_
   repeat(refine⟨by omega,?_⟩)
   refine fK ?_;refine⟨⟨k+1,bg,dw⟩,by show l.length-(k+1)<l.length-k;omega,?_⟩;refine zq rfl ?_ ?_;simp -dsimp only[simprocAttr,↓aa,zp,zc]
   ·exact Sub.int (by simp)
   rfl
 refine aM ?_;simp -dsimp only[bS,ne_eq,Nat.reduceEqDiff,reduceCtorEq];have Gz:k=l.length:=by
  have:=of_decide_eq_false h;omega
 subst Gz;rw[List.drop_length]at dw;refine aA (ah ?_);refine aq ?_;simp -dsimp only[simprocAttr,↓aa,zp,zr,Tryz.results128];rw[dw];rfl
theorem Hp(l:List Int):bD Tryz.prog 108 [aK l,.fn (.func 109) [] []] (.v (.bool (l.any fun a=>!j4 a))):=by
 have hi:=H4 l;have ha:=yM (fun a=>!j4 a) l 0;refine zf true 0 Tryz.func108 Tryz.ntmps108 ?_;dsimp only[Tmp,TypeId,slotsOf];refine aA (ah ?_);refine aA ?_;refine zi hi ?_;refine ah ?_;refine aq ?_;simp -dsimp only[simprocAttr,↓aa,zp,zr,Tryz.results108];rw[ha]
def oT(i:Ins):Int :=
 if(!j4 i.to ||i.args.any fun a=>!j4 a)=true then 4
 else if i.op≠100 then kN i
 else if i.args.length≠1 then 3
 else if i.n≠0 then 4 else 0
theorem Ig(i:Ins):bD Tryz.prog 79 [i.enc] (aI (oT i)):=by
 have hv:=sl i.to;have hc:=Hp i.args;have hf:=yx i;obtain⟨R,hR⟩:∃R,R=oT i:=⟨_,rfl⟩
 rw[<-hR];unfold oT at hR;obtain⟨B,hB⟩:∃B,B=(!j4 i.to ||i.args.any fun a=>!j4 a):=⟨_,rfl⟩
 rw[<-hB]at hR;generalize kN i=fe at *;refine zf true 0 Tryz.func79 Tryz.ntmps79 ?_;dsimp only[Tmp,TypeId,slotsOf];refine aA (ah ?_);refine aD 1 0 (.ip none [aI i.to,aI i.op,aI i.n,aK i.args]) rfl (by simp[aj.aF]) trivial rfl ?_ ?_;rotate_left;simp -dsimp only[simprocAttr,↓aa,zp];rotate_left
 ·exact bQ.mp rfl rfl
 cases yL:j4 i.to with
 | false =>
  rw[yL]at hv hB;rw[show B=true from hB]at hR;rw[if_pos rfl]at hR;refine bX ?_;refine zi hv ?_;refine ah ?_;refine cH rfl ?_;refine aA (ah ?_);refine aq ?_;simp -dsimp only[simprocAttr,↓aa,zp,zr,Tryz.results79];rw[hR]
 | true =>
  rw[yL]at hv hB;have Zt:B=i.args.any fun a=>!j4 a:=hB;rw[<-Zt]at hc;clear hB Zt;cases B with
  | true =>
   rw[if_pos rfl]at hR;refine bX ?_;refine zi hv ?_;refine zi hc ?_;refine ah ?_;refine cH rfl ?_;refine aA (ah ?_);refine aq ?_;simp -dsimp only[simprocAttr,↓aa,zp,zr,Tryz.results79];rw[hR]
  | false =>
   rw[if_neg (by simp)]at hR;refine bX ?_;refine zi hv ?_;refine zi hc ?_;refine ah ?_;apply aP rfl<;>intro h
   ·cases h
   refine cd ?_;by_cases dH:i.op=100
   ·rw[if_neg (by simp[dH])]at hR;have d1:decide (i.op=100)=true:=decide_eq_true dH;refine c9 ?_;simp -dsimp only[simprocAttr,↓aa,zp,d1];refine ah ?_;apply aP rfl<;>intro h
    ·cases h
    refine cd ?_;refine aJ (ai ?_);by_cases hl:i.args.length=1
    ·rw[if_neg (by simp[hl])]at hR;have d2:decide ((i.args.length:Int)=1)=true:=decide_eq_true (by omega);refine aS ?_;simp -dsimp only[simprocAttr,↓aa,zp,d2];refine ah ?_;apply aP rfl<;>intro h
     ·cases h
     by_cases hn:i.n=0
     ·rw[if_neg (by simp[hn])]at hR;have d3:decide (i.n=0)=true:=decide_eq_true hn;refine aS ?_;simp -dsimp only[simprocAttr,↓aa,zp,d3];refine ah ?_;apply aP rfl<;>intro h
      ·cases h
      refine la ?_;refine aA (ah ?_);refine aq ?_;simp -dsimp only[simprocAttr,↓aa,zp,zr,Tryz.results79];rw[hR]
     rw[if_pos hn]at hR;have d3:decide (i.n=0)=false:=decide_eq_false hn;refine aS ?_;simp -dsimp only[simprocAttr,↓aa,zp,d3];refine ah ?_;refine cH rfl ?_;refine aA (ah ?_);refine aq ?_;simp -dsimp only[simprocAttr,↓aa,zp,zr,Tryz.results79];rw[hR]
    rw[if_pos hl]at hR;have d2:decide ((i.args.length:Int)=1)=false:=decide_eq_false (by omega);refine aS ?_;simp -dsimp only[simprocAttr,↓aa,zp,d2];refine ah ?_;refine cH rfl ?_;refine aA (ah ?_);refine aq ?_;simp -dsimp only[simprocAttr,↓aa,zp,zr,Tryz.results79];rw[hR]
   rw[if_pos dH]at hR;have d1:decide (i.op=100)=false:=decide_eq_false dH;unfold Ins.enc at hf;refine c9 ?_;simp -dsimp only[simprocAttr,↓aa,zp,d1];refine ah ?_;refine cH rfl ?_;refine aA ?_;refine zi hf ?_;refine ah ?_;refine aq ?_;simp -dsimp only[simprocAttr,↓aa,zp,zr,Tryz.results79];rw[hR]
def tN:List Int->List Int->Int
 | _,[]=>0
 | d,v::r=>if j4 v=false then 4 else if oH d v=true then 7 else tN (d++[v]) r
def oU:List Ins->Int
 | []=>0
 | i::r=>oZ (oT i) (oU r)
def Cz(f:Func)(k:Nat)(b:Block):Int :=
 if 0<k∧0<b.params.length then 3
 else oZ (tN [] b.params) (oZ (oU b.ins) (oZ (kE f b.term) (if j4 b.term.arg=true then 0 else 4)))
def qL(f:Func):Nat->List Block->Int
 | _,[]=>0
 | k,b::r=>oZ (Cz f k b) (qL f (k+1) r)
def tM(f:Func):Int :=
 if f.blocks.length=0 then 3
 else if 128<f.blocks.length∨4096<mS 0 f.blocks∨6<(ax f 0).params.length then 2
 else if f.name < -1∨1048576<=f.name then 4
 else qL f 0 f.blocks
theorem Ie(f:Func)(a8:f.fit):bD Tryz.prog 53 [f.enc] (aI (tM f)):=by
 have uv:f.blocks.length<=2 ^ 47:=a8.2.1;obtain⟨R,hR⟩:∃R,R=tM f:=⟨_,rfl⟩
 rw[<-hR];unfold tM at hR;refine zf true 0 Tryz.func53 Tryz.ntmps53 ?_;dsimp only[Tmp,TypeId,slotsOf];refine aA (ah ?_);refine aD 1 0 (.ip none [aI f.name,ay f.blocks]) rfl (by simp[aj.aF]) trivial rfl ?_ ?_;rotate_left;simp -dsimp only[simprocAttr,↓aa,zp];rotate_left
 ·exact bQ.mp rfl rfl
 refine aA (ah ?_);refine bX (ah ?_);refine ai (aO (ι:={x:Nat×Int // x.1<=f.blocks.length∧mS 0 f.blocks=mS x.2 (f.blocks.drop x.1)}) (fun x=>⟨121,[(1,.ip none [aI f.name,ay f.blocks]),(2,aI 0),(3,aI x.1.2),(15,ay f.blocks),(16,aI f.blocks.length),(17,aI x.1.1)],[.gone]⟩) (fun x=>f.blocks.length-x.1.1) ⟨(0,0),by simp,rfl⟩ ?_ ?_)
 ·refine zq rfl ?_ ?_;simp -dsimp only[simprocAttr,↓aa,zp,zc];rfl
 rintro⟨⟨k,m⟩,hk,dw⟩;simp only at hk dw;refine aA (ah ?_);apply iz rfl<;>intro h
 ·refine cd ?_;have bg:k<f.blocks.length:=by simpa using h
  obtain⟨b,hb⟩:∃b,f.blocks[k]?=some b:=⟨f.blocks[k],by simp[bg]⟩
  rw[bP hb]at dw;simp only[mS]at dw;refine aJ (ai ?_);refine aS ?_;simp -dsimp only[simprocAttr,↓aa,zp,hb];refine ah ?_;refine aD 5 1 (.ip none [aK b.params,bf b.ins,aI b.term.kind,aI b.term.arg,aI b.term.n,aK b.term.cases,aH b.term.to]) rfl (by simp[aj.aF]) trivial rfl ?_ ?_;rotate_left;simp -dsimp only[simprocAttr,↓aa,zp];rotate_left
  ·exact bQ.mp rfl rfl
  refine m6 ⟨false,false⟩ hT 4 rfl rfl rfl (by simp) ?_;simp -dsimp only[simprocAttr,↓aa,zp];refine sY rfl rfl (by simp) rfl rfl ?_;simp -dsimp only[simprocAttr,↓aa,zp];refine ah ?_;refine bt 1 [(1,.ip none [aI f.name,ay f.blocks]),(2,aI 0),(3,aI (IntKind.i64.wrap (m+b.ins.length))),(15,ay f.blocks),(16,aI f.blocks.length),(17,aI k)] (by simp) (by omega) [.gone] ?_ ?_ ?_ ?_ ?_
  ·rfl
  ·simp[aj.upto,aw,ae.upto,az,Block.ag]
  ·simp[fj,St.get,bF,bh,Go.Av.look,Sub.refl]
  ·simp[aj.upto,aw,ae.upto,az,Block.ag]
  refine cT ?_
  repeat(refine⟨by omega,?_⟩)
  refine fK ?_;refine⟨⟨(k+1,IntKind.i64.wrap (m+b.ins.length)),by simp only;omega,dw⟩,by simp;omega,?_⟩;refine zq rfl ?_ ?_;simp -dsimp only[simprocAttr,↓aa,zp,zc]
  ·exact Sub.int (by simp)
  rfl
 refine aM ?_;simp -dsimp only[bS,ne_eq,Nat.reduceEqDiff,reduceCtorEq];have gl:k=f.blocks.length:=by simp at h;omega
 subst gl;rw[List.drop_length]at dw;simp only[mS]at dw;rw[dw]at hR;clear hk dw;refine aJ (ai ?_);by_cases hl:f.blocks.length=0
 ·rw[if_pos hl]at hR;have d0:decide ((f.blocks.length:Int)=0)=true:=decide_eq_true (by omega);refine aS ?_;simp -dsimp only[simprocAttr,↓aa,zp,d0];refine ah ?_;refine cH rfl ?_;refine aA (ah ?_);refine aq ?_;simp -dsimp only[simprocAttr,↓aa,zp,zr,Tryz.results53];rw[hR]
 rw[if_neg hl]at hR;have d0:decide ((f.blocks.length:Int)=0)=false:=decide_eq_false (by omega);have hB:f.blocks[0]?=some (ax f 0):=ep (f:=f) (k:=0) (by omega) (by omega);generalize ax f 0=B at *;refine aS ?_;simp -dsimp only[simprocAttr,↓aa,zp,d0];refine ah ?_;apply aP rfl<;>intro h
 ·cases h
 refine gI (⟨121,[(1,.ip none [aI f.name,ay f.blocks]),(2,aI 0),(32,.v (.bool (decide ((128:Int)<f.blocks.length) ||decide ((4096:Int)<m) ||decide ((6:Int)<B.params.length))))],[.gone]⟩) ?_ ?_
 ·cases hA:decide ((128:Int)<f.blocks.length)<;>cases UC:decide ((4096:Int)<m)<;>cases hC:decide ((6:Int)<B.params.length)
  all_goals
   refine fb hT hm ?_;simp -dsimp only[simprocAttr,↓aa,zp,hA,UC,hC,hB];refine ba ?_;show bc _ _;refine zq rfl ?_ ?_;simp -dsimp only[simprocAttr,↓aa,zp,zc]
   ·exact Sub.refl _
   rfl
 by_cases xI:128<f.blocks.length∨4096<m∨6<B.params.length
 ·rw[if_pos xI]at hR;have hd:(decide ((128:Int)<f.blocks.length) ||decide ((4096:Int)<m) ||decide ((6:Int)<B.params.length))=true:=by
   simp only[Bool.or_eq_true,decide_eq_true_eq];omega
  rw[hd];refine cH rfl ?_;refine aA (ah ?_);refine aq ?_;simp -dsimp only[simprocAttr,↓aa,zp,zr,Tryz.results53];rw[hR]
 rw[if_neg xI]at hR;have hd:(decide ((128:Int)<f.blocks.length) ||decide ((4096:Int)<m) ||decide ((6:Int)<B.params.length))=false:=by
  simp only[Bool.or_eq_false_iff,decide_eq_false_iff_not];omega
 rw[hd];apply aP rfl<;>intro h
 ·cases h
 by_cases hnm:f.name < -1∨1048576<=f.name
 ·rw[if_pos hnm]at hR;have cz:∀X:Int,R=4->R=4:=fun _ h=>h;cases mH:decide (f.name < -1)with
  | true =>
   refine aS ?_;simp -dsimp only[simprocAttr,↓aa,zp,mH];refine ah ?_;refine cH rfl ?_;refine aA (ah ?_);refine aq ?_;simp -dsimp only[simprocAttr,↓aa,zp,zr,Tryz.results53];rw[hR]
  | false =>
   have VC:=of_decide_eq_false mH;have tF:decide (1048576<=f.name)=true:=decide_eq_true (by omega);refine aS ?_;simp -dsimp only[simprocAttr,↓aa,zp,mH,tF];refine ah ?_;refine cH rfl ?_;refine aA (ah ?_);refine aq ?_;simp -dsimp only[simprocAttr,↓aa,zp,zr,Tryz.results53];rw[hR]
 rw[if_neg hnm]at hR;have mH:decide (f.name < -1)=false:=decide_eq_false (by omega);have tF:decide (1048576<=f.name)=false:=decide_eq_false (by omega);refine aS ?_;simp -dsimp only[simprocAttr,↓aa,zp,mH,tF];refine ah ?_;apply aP rfl<;>intro h
 ·cases h
 refine la ?_;refine bX (ah ?_);refine ai (aO (ι:={k:Nat // k<=f.blocks.length∧R=qL f k (f.blocks.drop k)}) (fun k=>⟨121,[(1,.ip none [aI f.name,ay f.blocks]),(2,aI 0),(60,ay f.blocks),(61,aI f.blocks.length),(62,aI k.1)],[.gone]⟩) (fun k=>f.blocks.length-k.1) ⟨0,by omega,hR⟩ ?_ ?_)
 ·refine zq rfl ?_ ?_;simp -dsimp only[simprocAttr,↓aa,zp,zc]
  all_goals rfl
 rintro⟨k,hk,dw⟩;refine aA (ah ?_);apply iz rfl<;>intro h
 ·refine cd ?_;have bg:k<f.blocks.length:=by simpa using h
  obtain⟨b,hb⟩:∃b,f.blocks[k]?=some b:=⟨f.blocks[k],by simp[bg]⟩
  have mg:=List.mem_of_getElem? hb;have XT:=a8.2.2 b mg;have yE:=BT f b.term (by have:=XT.2.2.2.2.2.2.2.2.1;omega) (by omega);have Xa:=sl b.term.arg;have aac:b.params.length<=2 ^ 47:=XT.2.1;have aaj:b.ins.length<=2 ^ 47:=XT.2.2.1;rw[bP hb,qL]at dw;obtain⟨rest,cO⟩:∃x,x=qL f (k+1) (f.blocks.drop (k+1)):=⟨_,rfl⟩
  rw[<-cO]at dw;unfold Cz at dw;refine aJ (ai ?_);refine aS ?_;simp -dsimp only[simprocAttr,↓aa,zp,hb];refine ah ?_;refine aD 7 1 (.ip none [aK b.params,bf b.ins,aI b.term.kind,aI b.term.arg,aI b.term.n,aK b.term.cases,aH b.term.to]) rfl (by simp[aj.aF]) trivial rfl ?_ ?_;rotate_left;simp -dsimp only[simprocAttr,↓aa,zp];rotate_left
  ·exact bQ.mp rfl rfl
  refine bt 1 [(1,.ip none [aI f.name,ay f.blocks]),(2,aI 0),(60,ay f.blocks),(61,aI f.blocks.length),(62,aI k),(6,aI k),(7,.ip none [aK b.params,bf b.ins,aI b.term.kind,aI b.term.arg,aI b.term.n,aK b.term.cases,aH b.term.to])] (by simp) (by omega) [.gone] ?_ ?_ ?_ ?_ ?_
  ·rfl
  ·simp[aj.upto]
  ·simp[fj,St.get,bF,bh,Go.Av.look,Sub.refl]
  ·simp[aj.upto,aw,ae.upto,az,Block.ag,Ins.ag,Edge.ag]
  by_cases Z':0<k∧0<b.params.length
  ·rw[if_pos Z',gV (by omega)]at dw;have d1:decide ((0:Int)<k)=true:=decide_eq_true (by omega);have d2:decide ((0:Int)<b.params.length)=true:=decide_eq_true (by omega);refine c9 ?_;simp -dsimp only[simprocAttr,↓aa,zp,d1,d2];refine ah ?_;refine cH rfl ?_;refine aA (ah ?_);refine aq ?_;simp -dsimp only[simprocAttr,↓aa,zp,zr,Tryz.results53];rw[dw]
  rw[if_neg Z',ja,ja,ja]at dw;refine gI (⟨121,[(1,.ip none [aI f.name,ay f.blocks]),(2,aI 0),(60,ay f.blocks),(61,aI f.blocks.length),(62,aI k),(6,aI k),(7,.ip none [aK b.params,bf b.ins,aI b.term.kind,aI b.term.arg,aI b.term.n,aK b.term.cases,aH b.term.to])],[.gone]⟩) ?_ ?_
  ·by_cases DB:0<k
   ·have d1:decide ((0:Int)<k)=true:=decide_eq_true (by omega);have d2:decide ((0:Int)<b.params.length)=false:=decide_eq_false (by omega);refine aS ?_;simp -dsimp only[simprocAttr,↓aa,zp,d1,d2];refine ah ?_;refine cr rfl ?_;refine a6 ?_;show bc _ _;refine zq rfl ?_ ?_;simp -dsimp only[simprocAttr,↓aa,zp,zc];rfl
   have d1:decide ((0:Int)<k)=false:=decide_eq_false (by omega);refine aS ?_;simp -dsimp only[simprocAttr,↓aa,zp,d1];refine ah ?_;refine cr rfl ?_;refine a6 ?_;show bc _ _;refine zq rfl ?_ ?_;simp -dsimp only[simprocAttr,↓aa,zp,zc];rfl
  obtain⟨T1,Kw⟩:∃T1,T1=oZ (oU b.ins) (oZ (kE f b.term) (oZ (if j4 b.term.arg=true then 0 else 4) rest)):=⟨_,rfl⟩
  rw[<-Kw]at dw;refine bX (ah ?_);refine ai (aO (ι:={n:Nat // n<=b.params.length∧R=oZ (tN (b.params.take n) (b.params.drop n)) T1}) (fun n=>⟨121,[(1,.ip none [aI f.name,ay f.blocks]),(2,aI 0),(60,ay f.blocks),(61,aI f.blocks.length),(62,aI k),(6,aI k),(7,.ip none [aK b.params,bf b.ins,aI b.term.kind,aI b.term.arg,aI b.term.n,aK b.term.cases,aH b.term.to]),(76,aK b.params),(77,aI b.params.length),(78,aI n.1)],[.gone]⟩) (fun n=>b.params.length-n.1) ⟨0,by omega,dw⟩ ?_ ?_)
  ·refine zq rfl ?_ ?_;simp -dsimp only[simprocAttr,↓aa,zp,zc]
   all_goals rfl
  rintro⟨n,hn,ct⟩;refine aA (ah ?_);apply iz rfl<;>intro h
  ·refine cd ?_;have W1:n<b.params.length:=by simpa using h
   obtain⟨v,hv⟩:∃v,b.params[n]?=some v:=⟨b.params[n],List.getElem?_eq_getElem W1⟩
   have Ni:=sl v;have fS:=qg (b.params.take n) v;have eH:b.params.take (n+1)=b.params.take n++[v]:=by rw[List.take_add_one,hv];rfl
   rw[bP hv,tN]at ct;refine aJ (ai ?_);refine aS ?_;simp -dsimp only[simprocAttr,↓aa,zp,hv]
   repeat(refine⟨by omega,?_⟩)
   refine ah ?_;refine ai ?_;cases yL:j4 v with
   | false =>
    rw[yL]at Ni;rw[if_pos yL,gV (by omega)]at ct;refine aA ?_;refine zi Ni ?_;refine ah ?_;refine cH rfl ?_;refine aA (ah ?_);refine aq ?_;simp -dsimp only[simprocAttr,↓aa,zp,zr,Tryz.results53];rw[ct]
   | true =>
    rw[yL]at Ni;rw[if_neg (by simp[yL])]at ct;refine aA ?_;refine zi Ni ?_;refine ah ?_;apply aP rfl<;>intro h
    ·cases h
    cases Gs:oH (b.params.take n) v with
    | true =>
     rw[Gs]at fS;rw[if_pos Gs,gV (by omega)]at ct;refine aS ?_;simp -dsimp only[simprocAttr,↓aa,zp,<-List.map_take]
     repeat(refine⟨by omega,?_⟩)
     refine zi fS ?_;refine ah ?_;refine cH rfl ?_;refine aA (ah ?_);refine aq ?_;simp -dsimp only[simprocAttr,↓aa,zp,zr,Tryz.results53];rw[ct]
    | false =>
     rw[Gs]at fS;rw[if_neg (by simp[Gs]),<-eH]at ct;refine aS ?_;simp -dsimp only[simprocAttr,↓aa,zp,<-List.map_take]
     repeat(refine⟨by omega,?_⟩)
     refine zi fS ?_;refine ah ?_;apply aP rfl<;>intro h
     ·cases h
     refine Ze ?_;refine cT ?_
     repeat(refine⟨by omega,?_⟩)
     refine fK ?_;refine⟨⟨n+1,W1,ct⟩,by show b.params.length-(n+1)<b.params.length-n;omega,?_⟩;refine zq rfl ?_ ?_;simp -dsimp only[simprocAttr,↓aa,zp,zc]
     ·exact Sub.int (by simp)
     rfl
  refine aM ?_;simp -dsimp only[bS,ne_eq,Nat.reduceEqDiff,reduceCtorEq];have ET:n=b.params.length:=by
   have:=of_decide_eq_false h;omega
  subst ET;rw[List.drop_length,tN,de rfl,Kw]at ct;obtain⟨T2,ZJ⟩:∃T2,T2=oZ (kE f b.term) (oZ (if j4 b.term.arg=true then 0 else 4) rest):=⟨_,rfl⟩
  rw[<-ZJ]at ct;refine bX (ah ?_);refine ai (aO (ι:={j:Nat // j<=b.ins.length∧R=oZ (oU (b.ins.drop j)) T2}) (fun j=>⟨121,[(1,.ip none [aI f.name,ay f.blocks]),(2,aI 0),(60,ay f.blocks),(61,aI f.blocks.length),(62,aI k),(6,aI k),(7,.ip none [aK b.params,bf b.ins,aI b.term.kind,aI b.term.arg,aI b.term.n,aK b.term.cases,aH b.term.to]),(96,bf b.ins),(97,aI b.ins.length),(98,aI j.1)],[.gone]⟩) (fun j=>b.ins.length-j.1) ⟨0,by omega,ct⟩ ?_ ?_)
  ·refine zq rfl ?_ ?_;simp -dsimp only[simprocAttr,↓aa,zp,zc]
   all_goals rfl
  rintro⟨j,hj,gQ⟩;refine aA (ah ?_);apply iz rfl<;>intro h
  ·refine cd ?_;have xk:j<b.ins.length:=by simpa using h
   obtain⟨i,hi⟩:∃i,b.ins[j]?=some i:=⟨b.ins[j],List.getElem?_eq_getElem xk⟩
   have Sq:=Ig i;rw[bP hi,oU,ja]at gQ;obtain⟨e,hE⟩:∃e,e=oT i:=⟨_,rfl⟩
   rw[<-hE]at Sq gQ;unfold Ins.enc at Sq;refine aJ (ai ?_);refine aS ?_;simp -dsimp only[simprocAttr,↓aa,zp,hi];refine ah ?_;refine aD 11 1 (.ip none [aI i.to,aI i.op,aI i.n,aK i.args]) rfl (by simp[aj.aF]) trivial rfl ?_ ?_;rotate_left;simp -dsimp only[simprocAttr,↓aa,zp];rotate_left
   ·exact bQ.mp rfl rfl
   refine bt 1 [(1,.ip none [aI f.name,ay f.blocks]),(2,aI 0),(60,ay f.blocks),(61,aI f.blocks.length),(62,aI k),(6,aI k),(7,.ip none [aK b.params,bf b.ins,aI b.term.kind,aI b.term.arg,aI b.term.n,aK b.term.cases,aH b.term.to]),(96,bf b.ins),(97,aI b.ins.length),(98,aI j),(11,.ip none [aI i.to,aI i.op,aI i.n,aK i.args])] (by simp) (by omega) [.gone] ?_ ?_ ?_ ?_ ?_
   ·rfl
   ·simp[aj.upto]
   ·simp[fj,St.get,bF,bh,Go.Av.look,Sub.refl]
   ·simp[aj.upto,aw,ae.upto,az,Block.ag,Ins.ag,Edge.ag]
   by_cases he:e=0
   ·have jP:decide (e=0)=true:=decide_eq_true he;rw[de he]at gQ;refine aA ?_;refine zi Sq ?_;refine ah ?_;refine aS ?_;simp -dsimp only[simprocAttr,↓aa,zp,jP];refine ah ?_;apply aP rfl<;>intro h
    ·cases h
    refine la ?_;refine cT ?_
    repeat(refine⟨by omega,?_⟩)
    refine fK ?_;refine⟨⟨j+1,xk,gQ⟩,by show b.ins.length-(j+1)<b.ins.length-j;omega,?_⟩;refine zq rfl ?_ ?_;simp -dsimp only[simprocAttr,↓aa,zp,zc]
    ·exact Sub.int (by simp)
    rfl
   have jP:decide (e=0)=false:=decide_eq_false he;rw[gV he]at gQ;refine aA ?_;refine zi Sq ?_;refine ah ?_;refine aS ?_;simp -dsimp only[simprocAttr,↓aa,zp,jP];refine ah ?_;refine cH rfl ?_;refine aA (ah ?_);refine aq ?_;simp -dsimp only[simprocAttr,↓aa,zp,zr,Tryz.results53];rw[gQ]
  refine aM ?_;simp -dsimp only[bS,ne_eq,Nat.reduceEqDiff,reduceCtorEq];have EO:j=b.ins.length:=by
   have:=of_decide_eq_false h;omega
  subst EO;rw[List.drop_length,oU,de rfl,ZJ]at gQ;unfold Func.enc Term.enc at yE;obtain⟨e,hE⟩:∃e,e=kE f b.term:=⟨_,rfl⟩
  rw[<-hE]at yE gQ;by_cases he:e=0
  ·have jP:decide (e=0)=true:=decide_eq_true he;rw[de he]at gQ;refine bX ?_;refine zi yE ?_;refine ah ?_;refine aS ?_;simp -dsimp only[simprocAttr,↓aa,zp,jP];refine ah ?_;apply aP rfl<;>intro h
   ·cases h
   refine cd ?_;cases yL:j4 b.term.arg with
   | true =>
    rw[yL]at Xa;rw[if_pos yL,de rfl,cO]at gQ;refine aA ?_;refine zi Xa ?_;refine ah ?_;apply aP rfl<;>intro h
    ·cases h
    refine la ?_;refine cT ?_
    repeat(refine⟨by omega,?_⟩)
    refine fK ?_;refine⟨⟨k+1,bg,gQ⟩,by show f.blocks.length-(k+1)<f.blocks.length-k;omega,?_⟩;refine zq rfl ?_ ?_;simp -dsimp only[simprocAttr,↓aa,zp,zc]
    ·exact Sub.int (by simp)
    rfl
   | false =>
    rw[yL]at Xa;rw[if_neg (by simp[yL]),gV (by omega)]at gQ;refine aA ?_;refine zi Xa ?_;refine ah ?_;refine cH rfl ?_;refine aA (ah ?_);refine aq ?_;simp -dsimp only[simprocAttr,↓aa,zp,zr,Tryz.results53];rw[gQ]
  have jP:decide (e=0)=false:=decide_eq_false he;rw[gV he]at gQ;refine bX ?_;refine zi yE ?_;refine ah ?_;refine aS ?_;simp -dsimp only[simprocAttr,↓aa,zp,jP];refine ah ?_;refine cH rfl ?_;refine aA (ah ?_);refine aq ?_;simp -dsimp only[simprocAttr,↓aa,zp,zr,Tryz.results53];rw[gQ]
 refine aM ?_;simp -dsimp only[bS,ne_eq,Nat.reduceEqDiff,reduceCtorEq];have Gz:k=f.blocks.length:=by
  have:=of_decide_eq_false h;omega
 subst Gz;rw[List.drop_length,qL]at dw;refine aA (ah ?_);refine aq ?_;simp -dsimp only[simprocAttr,↓aa,zp,zr,Tryz.results53];rw[dw]
theorem CA:∀{l d:List Int},tN d l=0->∀v∈l,j4 v=true
 | [],_,_,v,h=>by cases h
 | a::r,d,h,v,hv=>by
  rw[tN]at h;split at h
  ·simp at h
  rename_i h1;split at h
  ·simp at h
  rcases List.mem_cons.1 hv with q|q
  ·rw[q];simpa using h1
  exact CA h v q
theorem yS:∀{l:List Ins},oU l=0->∀i∈l,oT i=0
 | [],_,i,h=>by cases h
 | a::r,h,i,hi=>by
  have:=js h;rcases List.mem_cons.1 hi with q|q
  ·rw[q];exact this.1
  exact yS this.2 i q
theorem yR{f:Func}:∀{l:List Block} {k:Nat},qL f k l=0->∀(j:Nat) b,l[j]?=some b->Cz f (k+j) b=0
 | [],_,_,j,b,h=>by simp at h
 | a::r,k,h,j,b,hj=>by
  have:=js h;cases j with
  | zero =>
   simp only[List.getElem?_cons_zero,Option.some.injEq]at hj;subst hj;exact this.1
  | succ j =>
   rw[show k+(j+1)=k+1+j by omega];exact yR this.2 j b (by simpa using hj)
structure ou(f:Func):Prop where
 ne:f.blocks≠[]
 few:f.blocks.length<=128
 name:-1<=f.name∧f.name<=1048575
 args:(ax f 0).params.length<=6
 ins:∀b∈f.blocks,b.ins.length<=4096
 bare:∀(k:Nat) b,f.blocks[k]?=some b->0<k->b.params=[]
 Fu:∀b∈f.blocks,∀v∈b.params,j4 v=true
 cC:∀b∈f.blocks,∀i∈b.ins,oT i=0
 fin:∀b∈f.blocks,kE f b.term=0
 arg:∀b∈f.blocks,j4 b.term.arg=true
theorem ou.form{f:Func}(h:ou f)(b:Block)(hb:b∈f.blocks)(i:Ins)(hi:i∈b.ins)(dH:i.op≠100):QC i:=by
 have:=h.cC b hb i hi;unfold oT at this;split at this
 ·simp at this
 skip
 exact uH this
theorem Ar{f:Func}(a8:f.fit)(h:tM f=0):ou f:=by
 unfold tM at h;split at h
 ·simp at h
 rename_i h1;split at h
 ·simp at h
 rename_i h2;split at h
 ·simp at h
 rename_i h3;have hw:=Bc f.blocks 0 (by omega) (by omega) (fun b hb=>(a8.2.2 b hb).2.2.1);have hB:∀(k:Nat) b,f.blocks[k]?=some b->Cz f k b=0:=fun k b hk=>by
  have:=yR h k b hk
  rwa [Nat.zero_add]at this
 have hM:∀b∈f.blocks,∃k:Nat,f.blocks[k]?=some b:=fun b hb=>List.mem_iff_getElem?.1 hb;have hP:∀(k:Nat) b,f.blocks[k]?=some b->¬(0<k∧0<b.params.length)∧tN [] b.params=0∧oU b.ins=0∧kE f b.term=0∧j4 b.term.arg=true:=fun k b hk=>by
  have:=hB k b hk;unfold Cz at this;split at this
  ·simp at this
  rename_i hq;have h5:=js this;have h6:=js h5.2;have h7:=js h6.2;refine⟨hq,h5.1,h6.1,h7.1,?_⟩;have h8:=h7.2;split at h8
  ·assumption
  simp at h8
 refine⟨fun e=>h1 (by rw[e];rfl),by omega,by omega,by omega,fun b hb=>?_,fun k b hk h0=>?_,fun b hb=>?_,fun b hb=>?_,fun b hb=>?_,fun b hb=>?_⟩
 ·have:=hw.2 b hb;omega
 ·have:=(hP k b hk).1;exact List.length_eq_zero_iff.1 (by omega)
 ·obtain⟨k,hk⟩:=hM b hb;exact CA (hP k b hk).2.1
 ·obtain⟨k,hk⟩:=hM b hb;exact yS (hP k b hk).2.2.1
 ·obtain⟨k,hk⟩:=hM b hb;exact(hP k b hk).2.2.2.1
 obtain⟨k,hk⟩:=hM b hb;exact(hP k b hk).2.2.2.2
def qM:List Func->Int
 | []=>0
 | f::r=>oZ (tM f) (qM r)
theorem nA:∀{l:List Func},qM l=0->∀f∈l,tM f=0
 | [],_,f,h=>by simp at h
 | g::r,h,f,hf=>by
  have:=js h;rcases List.mem_cons.1 hf with q|q
  ·subst q;exact this.1
  exact nA this.2 f q
def dg(u:bY):Int :=
 if u.fns.length=0 then 3
 else if 256<u.fns.length then 2
 else if u.main<0∨(u.fns.length:Int)<=u.main then 4
 else oZ (qM u.fns) (if 0<(ax (aL u u.main) 0).params.length then 3 else kD u u.fns)
theorem oV(u:bY)(a8:u.fit):bD Tryz.prog 24 [u.enc] (aI (dg u)):=by
 obtain⟨R,hR⟩:∃R,R=dg u:=⟨_,rfl⟩
 rw[<-hR];unfold dg at hR;have uv:u.fns.length<=2 ^ 47:=a8.2.1;refine zf true 0 Tryz.func24 Tryz.ntmps24 ?_;dsimp only[Tmp,TypeId,slotsOf];refine aA (ah ?_);refine aD 1 0 (.ip none [bn u.fns,aI u.main]) rfl (by simp[aj.aF]) trivial rfl ?_ ?_;rotate_left;simp -dsimp only[simprocAttr,↓aa,zp]
 ·refine aJ (ai ?_);by_cases h0:u.fns.length=0
  ·rw[if_pos h0]at hR;have hd:decide ((u.fns.length:Int)=0)=true:=decide_eq_true (by omega);refine aS ?_;simp -dsimp only[simprocAttr,↓aa,zp,hd];refine ah ?_;refine cH rfl ?_;refine aA (ah ?_);refine aq ?_;simp -dsimp only[simprocAttr,↓aa,zp,zr,Tryz.results24];rw[hR]
  rw[if_neg h0]at hR;have hd:decide ((u.fns.length:Int)=0)=false:=decide_eq_false (by omega);refine aS ?_;simp -dsimp only[simprocAttr,↓aa,zp,hd];refine ah ?_;apply aP rfl<;>intro h
  ·cases h
  by_cases h1:256<u.fns.length
  ·rw[if_pos h1]at hR;have hd:decide ((256:Int)<u.fns.length)=true:=decide_eq_true (by omega);refine aS ?_;simp -dsimp only[simprocAttr,↓aa,zp,hd];refine ah ?_;refine cH rfl ?_;refine aA (ah ?_);refine aq ?_;simp -dsimp only[simprocAttr,↓aa,zp,zr,Tryz.results24];rw[hR]
  rw[if_neg h1]at hR;have hd:decide ((256:Int)<u.fns.length)=false:=decide_eq_false (by omega);refine aS ?_;simp -dsimp only[simprocAttr,↓aa,zp,hd];refine ah ?_;apply aP rfl<;>intro h
  ·cases h
  by_cases EZ:u.main<0∨(u.fns.length:Int)<=u.main
  ·rw[if_pos EZ]at hR;cases mH:decide (u.main<0)with
   | true =>
    refine aS ?_;simp -dsimp only[simprocAttr,↓aa,zp,mH];refine ah ?_;refine cH rfl ?_;refine aA (ah ?_);refine aq ?_;simp -dsimp only[simprocAttr,↓aa,zp,zr,Tryz.results24];rw[hR]
   | false =>
    have VC:=of_decide_eq_false mH;have tF:decide ((u.fns.length:Int)<=u.main)=true:=decide_eq_true (by omega);refine aS ?_;simp -dsimp only[simprocAttr,↓aa,zp,mH,tF];refine ah ?_;refine cH rfl ?_;refine aA (ah ?_);refine aq ?_;simp -dsimp only[simprocAttr,↓aa,zp,zr,Tryz.results24];rw[hR]
  rw[if_neg EZ]at hR;have yI:0<=u.main∧u.main<u.fns.length:=by omega
  have mH:decide (u.main<0)=false:=decide_eq_false (by omega);have tF:decide ((u.fns.length:Int)<=u.main)=false:=decide_eq_false (by omega);refine aS ?_;simp -dsimp only[simprocAttr,↓aa,zp,mH,tF];refine ah ?_;apply aP rfl<;>intro h
  ·cases h
  refine la ?_;refine bX (ah ?_);refine ai (aO (ι:={k:Nat // k<=u.fns.length∧qM u.fns=qM (u.fns.drop k)}) (fun k=>⟨90,[(1,.ip none [bn u.fns,aI u.main]),(2,aI 0),(36,bn u.fns),(37,aI u.fns.length),(38,aI k.1)],[.gone]⟩) (fun k=>u.fns.length-k.1) ⟨0,by omega,rfl⟩ ?_ ?_)
  ·refine zq rfl ?_ ?_;simp -dsimp only[simprocAttr,↓aa,zp,zc];rfl
  rintro⟨k,hk,dw⟩;refine aA (ah ?_);apply iz rfl<;>intro h
  ·refine cd ?_;have bg:k<u.fns.length:=by simpa using h
   obtain⟨f,hf⟩:∃f,u.fns[k]?=some f:=⟨u.fns[k],by simp[bg]⟩
   have HK:=Ie f (a8.2.2 f (List.mem_of_getElem? hf));rw[bP hf]at dw;simp only[qM]at dw;obtain⟨e,M6⟩:∃e,e=tM f:=⟨_,rfl⟩
   rw[<-M6]at dw HK;refine aJ (ai ?_);refine aS ?_;simp -dsimp only[simprocAttr,↓aa,zp,hf];refine ah ?_;refine aD 4 1 (.ip none [aI f.name,ay f.blocks]) rfl (by simp[aj.aF]) trivial rfl ?_ ?_;rotate_left;simp -dsimp only[simprocAttr,↓aa,zp]
   ·refine bt 1 [(1,.ip none [bn u.fns,aI u.main]),(2,aI 0),(36,bn u.fns),(37,aI u.fns.length),(38,aI k),(4,.ip none [aI f.name,ay f.blocks])] (by simp) (by omega) [.gone] ?_ ?_ ?_ ?_ ?_
    ·rfl
    ·simp[aj.upto,aw,ae.upto,az,Func.ag,Block.ag,Edge.ag,Ins.ag]
    ·simp[fj,St.get,bF,bh,Go.Av.look,Sub.refl]
    ·simp[aj.upto,aw,ae.upto,az,Func.ag,Block.ag,Edge.ag,Ins.ag]
    refine aA ?_;refine zi HK ?_;refine ah ?_;by_cases he:e=0
    ·have jP:decide (e=0)=true:=decide_eq_true he;rw[de he]at dw;refine aS ?_;simp -dsimp only[simprocAttr,↓aa,zp,jP];refine ah ?_;refine cr rfl ?_;refine la ?_;refine cT ?_
     repeat(refine⟨by omega,?_⟩)
     refine fK ?_;refine⟨⟨k+1,bg,dw⟩,by simp;omega,?_⟩;refine zq rfl ?_ ?_;simp -dsimp only[simprocAttr,↓aa,zp,zc]
     ·exact Sub.int (by simp)
     rfl
    have jP:decide (e=0)=false:=decide_eq_false he;rw[gV he]at dw;rw[dw,gV he]at hR;refine aS ?_;simp -dsimp only[simprocAttr,↓aa,zp,jP];refine ah ?_;refine cH rfl ?_;refine aA (ah ?_);refine aq ?_;simp -dsimp only[simprocAttr,↓aa,zp,zr,Tryz.results24];rw[hR]
   exact bQ.mp rfl rfl
  refine aM ?_;simp -dsimp only[bS,ne_eq,Nat.reduceEqDiff,reduceCtorEq];have gl:k=u.fns.length:=by simp at h;omega
  subst gl;rw[List.drop_length]at dw;have Oz:qM u.fns=0:=by rw[dw];rfl
  rw[de Oz]at hR;have cz:∀f∈u.fns,ou f:=fun f hf=>Ar (a8.2.2 f hf) (nA Oz f hf);have hM:=kT (u:=u) (k:=u.main) yI.1 (by omega);have QT:0<(aL u u.main).blocks.length:=by
   have:=(cz _ (List.mem_of_getElem? hM)).ne;cases hb:(aL u u.main).blocks with
   | nil=>exact absurd hb this
   | cons=>simp
  have hB:(aL u u.main).blocks[0]?=some (ax (aL u u.main) 0):=ep (f:=aL u u.main) (k:=0) (by omega) (by omega);generalize ax (aL u u.main) 0=B at *;generalize aL u u.main=F at *;by_cases hp:0<B.params.length
  ·rw[if_pos hp]at hR;have Se:decide ((0:Int)<B.params.length)=true:=decide_eq_true (by omega);refine c9 ?_;simp -dsimp only[simprocAttr,↓aa,zp,hM,hB,Se]
   repeat(refine⟨by omega,?_⟩)
   refine ah ?_;refine cH rfl ?_;refine aA (ah ?_);refine aq ?_;simp -dsimp only[simprocAttr,↓aa,zp,zr,Tryz.results24];rw[hR]
  rw[if_neg hp]at hR;have Se:decide ((0:Int)<B.params.length)=false:=decide_eq_false (by omega);refine c9 ?_;simp -dsimp only[simprocAttr,↓aa,zp,hM,hB,Se]
  repeat(refine⟨by omega,?_⟩)
  refine ah ?_;apply aP rfl<;>intro h
  ·cases h
  refine cd ?_;refine bX (ah ?_);refine ai (aO (ι:={k:Nat // k<=u.fns.length∧R=kD u (u.fns.drop k)}) (fun k=>⟨90,[(1,.ip none [bn u.fns,aI u.main]),(2,aI 0),(61,bn u.fns),(62,aI u.fns.length),(63,aI k.1)],[.gone]⟩) (fun k=>u.fns.length-k.1) ⟨0,by omega,hR⟩ ?_ ?_)
  ·refine zq rfl ?_ ?_;simp -dsimp only[simprocAttr,↓aa,zp,zc];rfl
  rintro⟨k,hk,dw⟩;refine aA (ah ?_);apply iz rfl<;>intro h
  ·refine cd ?_;have bg:k<u.fns.length:=by simpa using h
   obtain⟨f,hf⟩:∃f,u.fns[k]?=some f:=⟨u.fns[k],by simp[bg]⟩
   have M7:=List.mem_of_getElem? hf;have pW:=(cz f M7).few;rw[bP hf]at dw;simp only[kD]at dw;refine aJ (ai ?_);refine aS ?_;simp -dsimp only[simprocAttr,↓aa,zp,hf];refine ah ?_;refine aD 7 1 (.ip none [aI f.name,ay f.blocks]) rfl (by simp[aj.aF]) trivial rfl ?_ ?_;rotate_left;simp -dsimp only[simprocAttr,↓aa,zp]
   ·refine bt 1 [(1,.ip none [bn u.fns,aI u.main]),(2,aI 0),(61,bn u.fns),(62,aI u.fns.length),(63,aI k),(7,.ip none [aI f.name,ay f.blocks])] (by simp) (by omega) [.gone] ?_ ?_ ?_ ?_ ?_
    ·rfl
    ·simp[aj.upto,aw,ae.upto,az,Func.ag,Block.ag,Edge.ag,Ins.ag]
    ·simp[fj,St.get,bF,bh,Go.Av.look,Sub.refl]
    ·simp[aj.upto,aw,ae.upto,az,Func.ag,Block.ag,Edge.ag,Ins.ag]
    refine aA (ah ?_);refine ai (aO (ι:={j:Nat // j<=f.blocks.length∧R=oZ (m9 u (f.blocks.drop j)) (kD u (u.fns.drop (k+1)))}) (fun j=>⟨90,[(1,.ip none [bn u.fns,aI u.main]),(2,aI 0),(61,bn u.fns),(62,aI u.fns.length),(63,aI k),(68,ay f.blocks),(69,aI f.blocks.length),(70,aI j.1)],[.gone]⟩) (fun j=>f.blocks.length-j.1) ⟨0,by omega,dw⟩ ?_ ?_)
    ·refine zq rfl ?_ ?_;simp -dsimp only[simprocAttr,↓aa,zp,zc];rfl
    rintro⟨j,hj,gQ⟩;refine aA (ah ?_);apply iz rfl<;>intro h
    ·refine cd ?_;have xk:j<f.blocks.length:=by simpa using h
     obtain⟨b,hb⟩:∃b,f.blocks[j]?=some b:=⟨f.blocks[j],by simp[xk]⟩
     have mg:=List.mem_of_getElem? hb;have xK:=(cz f M7).ins b mg;rw[bP hb]at gQ;simp only[m9]at gQ;rw[ja]at gQ;refine aJ (ai ?_);refine aS ?_;simp -dsimp only[simprocAttr,↓aa,zp,hb];refine ah ?_;refine aD 9 1 (.ip none [aK b.params,bf b.ins,aI b.term.kind,aI b.term.arg,aI b.term.n,aK b.term.cases,aH b.term.to]) rfl (by simp[aj.aF]) trivial rfl ?_ ?_;rotate_left;simp -dsimp only[simprocAttr,↓aa,zp]
     ·refine bt 1 [(1,.ip none [bn u.fns,aI u.main]),(2,aI 0),(61,bn u.fns),(62,aI u.fns.length),(63,aI k),(68,ay f.blocks),(69,aI f.blocks.length),(70,aI j),(9,.ip none [aK b.params,bf b.ins,aI b.term.kind,aI b.term.arg,aI b.term.n,aK b.term.cases,aH b.term.to])] (by simp) (by omega) [.gone] ?_ ?_ ?_ ?_ ?_
      ·rfl
      ·simp[aj.upto,aw,ae.upto,az,Func.ag,Block.ag,Edge.ag,Ins.ag]
      ·simp[fj,St.get,bF,bh,Go.Av.look,Sub.refl]
      ·simp[aj.upto,aw,ae.upto,az,Func.ag,Block.ag,Edge.ag,Ins.ag]
      refine aA (ah ?_);refine ai (aO (ι:={z:Nat // z<=b.ins.length∧R=oZ (qx u (b.ins.drop z)) (oZ (m9 u (f.blocks.drop (j+1))) (kD u (u.fns.drop (k+1))))}) (fun z=>⟨90,[(1,.ip none [bn u.fns,aI u.main]),(2,aI 0),(61,bn u.fns),(62,aI u.fns.length),(63,aI k),(68,ay f.blocks),(69,aI f.blocks.length),(70,aI j),(75,bf b.ins),(76,aI b.ins.length),(77,aI z.1)],[.gone]⟩) (fun z=>b.ins.length-z.1) ⟨0,by omega,gQ⟩ ?_ ?_)
      ·refine zq rfl ?_ ?_;simp -dsimp only[simprocAttr,↓aa,zp,zc];rfl
      rintro⟨z,hz,mr⟩;refine aA (ah ?_);apply iz rfl<;>intro h
      ·refine cd ?_;have xl:z<b.ins.length:=by simpa using h
       obtain⟨i,hi⟩:∃i,b.ins[z]?=some i:=⟨b.ins[z],by simp[xl]⟩
       rw[bP hi]at mr;simp only[qx]at mr;rw[ja]at mr;have TL:=(cz f M7).form b mg i (List.mem_of_getElem? hi);have fS:=vr u i (fun q=>((TL (by omega)).call (by omega)).1) (fun f hf=>(cz f hf).ne);obtain⟨e,M6⟩:∃e,e=jJ u i:=⟨_,rfl⟩
       rw[<-M6]at mr fS;refine aJ (ai ?_);refine aS ?_;simp -dsimp only[simprocAttr,↓aa,zp,hi];refine ah ?_;refine aD 11 1 (.ip none [aI i.to,aI i.op,aI i.n,aK i.args]) rfl (by simp[aj.aF]) trivial rfl ?_ ?_;rotate_left;simp -dsimp only[simprocAttr,↓aa,zp]
       ·refine bt 1 [(1,.ip none [bn u.fns,aI u.main]),(2,aI 0),(61,bn u.fns),(62,aI u.fns.length),(63,aI k),(68,ay f.blocks),(69,aI f.blocks.length),(70,aI j),(75,bf b.ins),(76,aI b.ins.length),(77,aI z),(11,.ip none [aI i.to,aI i.op,aI i.n,aK i.args])] (by simp) (by omega) [.gone] ?_ ?_ ?_ ?_ ?_
        ·rfl
        ·simp[aj.upto,aw,ae.upto,az,Func.ag,Block.ag,Edge.ag,Ins.ag]
        ·simp[fj,St.get,bF,bh,Go.Av.look,Sub.refl]
        ·simp[aj.upto,aw,ae.upto,az,Func.ag,Block.ag,Edge.ag,Ins.ag]
        refine aA ?_;refine zi fS ?_;refine ah ?_;by_cases he:e=0
        ·have jP:decide (e=0)=true:=decide_eq_true he;rw[de he]at mr;refine aS ?_;simp -dsimp only[simprocAttr,↓aa,zp,jP];refine ah ?_;refine cr rfl ?_;refine la ?_;refine cT ?_
         repeat(refine⟨by omega,?_⟩)
         refine fK ?_;refine⟨⟨z+1,xl,mr⟩,by simp;omega,?_⟩;refine zq rfl ?_ ?_;simp -dsimp only[simprocAttr,↓aa,zp,zc]
         ·exact Sub.int (by simp)
         rfl
        have jP:decide (e=0)=false:=decide_eq_false he;rw[gV he]at mr;refine aS ?_;simp -dsimp only[simprocAttr,↓aa,zp,jP];refine ah ?_;refine cH rfl ?_;refine aA (ah ?_);refine aq ?_;simp -dsimp only[simprocAttr,↓aa,zp,zr,Tryz.results24];rw[mr]
       exact bQ.mp rfl rfl
      refine aM ?_;simp -dsimp only[bS,ne_eq,Nat.reduceEqDiff,reduceCtorEq];have H3:z=b.ins.length:=by simp at h;omega
      subst H3;rw[List.drop_length]at mr;rw[de (by rfl)]at mr;refine cT ?_
      repeat(refine⟨by omega,?_⟩)
      refine fK ?_;refine⟨⟨j+1,xk,mr⟩,by simp;omega,?_⟩;refine zq rfl ?_ ?_;simp -dsimp only[simprocAttr,↓aa,zp,zc]
      ·exact Sub.int (by simp)
      rfl
     exact bQ.mp rfl rfl
    refine aM ?_;simp -dsimp only[bS,ne_eq,Nat.reduceEqDiff,reduceCtorEq];have rK:j=f.blocks.length:=by simp at h;omega
    subst rK;rw[List.drop_length]at gQ;rw[de (by rfl)]at gQ;refine cT ?_
    repeat(refine⟨by omega,?_⟩)
    refine fK ?_;refine⟨⟨k+1,bg,gQ⟩,by simp;omega,?_⟩;refine zq rfl ?_ ?_;simp -dsimp only[simprocAttr,↓aa,zp,zc]
    ·exact Sub.int (by simp)
    rfl
   exact bQ.mp rfl rfl
  refine aM ?_;simp -dsimp only[bS,ne_eq,Nat.reduceEqDiff,reduceCtorEq];have gl:k=u.fns.length:=by simp at h;omega
  subst gl;rw[List.drop_length]at dw;refine aA (ah ?_);refine aq ?_;simp -dsimp only[simprocAttr,↓aa,zp,zr,Tryz.results24];rw[dw];rfl
 exact bQ.mp rfl rfl
end Go.Proofs.YtjdnhamngpafmaaGreat
namespace Go.Av
theorem Dj{g:G}(hg:Good g){id m:Nat}(h:g.objs[id]?=some (.spare m))(arr:Array Value)(t:TypeId)(cs:List ae)(hlen:cs.length<=arr.size)
  (rM:∀(g':G) (j:Nat) (c:ae) (u:Value),cs[j]?=some c->arr[j]?=some u->RV g' c u) (dv:∀c∈cs,c.scalar) :
  Le g (g.bB id (some ⟨g.w.heap.size,0,arr.size⟩) (.cells cs) (g.w.alloc (.cells arr t)))∧Good (g.bB id (some ⟨g.w.heap.size,0,arr.size⟩) (.cells cs) (g.w.alloc (.cells arr t))):=by
 have eR:ld g id (.spare m) (some ⟨g.w.heap.size,0,arr.size⟩) (.cells cs) (g.w.alloc (.cells arr t)):={
  obj:=h
  os:=rfl
  tape:=rfl
  output:=rfl
  size:=by show g.w.heap.size<=(g.w.heap.push _).size;rw[Array.size_push];omega
  block:=fun k hk _=>cQ g.w _ hk
  cell:=fun b off x hx _=>by
   have:=pw hx;rw[jL (cQ g.w (.cells arr t) this)];exact hx
  place:=fun l1 h1 _=>by
   simp only[Option.some.injEq]at h1;subst h1;exact .inl (Nat.le_refl _)
  spare:=fun _ _=>.inr (by simp[aj.aF])
  plain:=fun h=>absurd trivial h
  gone:=by simp }
 exact⟨Le.bB hg eR,Good.bB hg eR ⟨_,arr,t,rfl,rfl,cM g.w _,hlen,fun j c u hj hu=>rM _ j c u hj hu,dv,Nat.le_refl _⟩ (fun l1 h1 _=>by
  simp only[Option.some.injEq]at h1;subst h1;exact aW (cM g.w (.cells arr t)))⟩
theorem xt{P:Program}{aT:eZ}(hT:b6 P aT){o:Oper}{σ:St}{t:TypeId}{ti:cf}{id m:Nat}(ho:o.op=.alloc t)(hd:∀d,o.dst=some d->d<σ.n)(ht:aT t=some ti)(gp:σ.objs[id]?=some (.spare m)) :
  Cert P o σ (.mp id 0) (.new id (.cells ti.zero)) :=
 Cert.uU trivial hd fun base fY a g bN h je=>by
  have hg:=bN.good;obtain⟨z,hz,h5,_,_,h8,h9⟩:=(hT t ti ht).zeroValue;have gN:g.objs[id]?=some (.spare m):=Eq.trans je gp;obtain⟨hle,dp⟩:=Dj hg gN z.cells t ti.zero (by rw[h5];exact Nat.le_refl _) (fun g' j c u a b=>h8 g' j c u a b) h9;refine⟨.pointer (some ⟨g.w.heap.size,0,none⟩),_,.inl ?_,hle,dp,?_,?_⟩
  ·simp[execOp,ho,Instr.alloc,hz,Go.newVar,Go.newRow,G.bB]
  ·simp[G.bB,Mode.post]
  exact .mp (l:=⟨g.w.heap.size,0,z.cells.size⟩) (o:=.cells ti.zero) (by simp only[G.bB];rw[List.getElem?_set_self (jn hg gN)]) (by simp only[G.bB];rw[List.getElem?_set_self (I gN)]) (by simp[aj.aF])
theorem jj{P:Program}{aT:eZ}(hT:b6 P aT){o:Oper}{σ:St}{t e:TypeId}{x y:Operand}{ti te:cf}{k k':IntKind}{n:Int}{id m':Nat}
  (ho:o.op=.makeSlice t x y) (hd:∀d,o.dst=some d->d<σ.n) (ht:aT t=some ti) (aU:ti.desc=.slice e) (he:aT e=some te) (hx:σ.ev x=some (.v (.int k n))) (hy:σ.ev y=some (.v (.int k' n)))
  (h0:0<=n) (hb:te.bytes*n.toNat<=2 ^ 48) (QQ:n.toNat<=2 ^ 62) (hs:0<te.size) (gp:σ.objs[id]?=some (.spare m')) :
  Cert P o σ (.ms id 0 n.toNat n.toNat) (.new id (.cells (List.replicate n.toNat te.zero).flatten)) :=
 Cert.uU trivial hd fun base fY a g bN h je=>by
  have hg:=bN.good;have gN:g.objs[id]?=some (.spare m'):=Eq.trans je gp;have ex:=(h x (by simp[ho,Op.operands]) _ hx).cb.1;have ey:=(h y (by simp[ho,Op.operands]) _ hy).cb.1;have hu:=bV hT ht aU;obtain⟨⟨i,z,h1,h2,h3,h4,h5,h6,h7,h8,h9⟩,_⟩:=hT e te he;obtain⟨m,rfl⟩:=Int.eq_ofNat_of_zero_le h0;simp only[Int.toNat_natCast]at *;have EC:(i.bytes:Int)*(m:Int)<=281474976710656:=by
   rw[h3,<-Int.natCast_mul];omega
  have bJ:=run_make (P:=P) g.w t e i z hu h1 h4 k k' m m (by omega) (Int.le_refl _) EC (by omega);simp only[Int.toNat_natCast]at bJ;have hlen:(List.replicate m te.zero).flatten.length=m*te.size:=by simp[h6]
  have fm:∀(j:Nat) (c:ae),(List.replicate m te.zero).flatten[j]?=some c->te.zero[j % te.size]?=some c:=fun j c=>h6 ▸ pQ te.zero (by omega) m j c;obtain⟨hle,dp⟩:=Dj hg gN (madeCells z.cells (m*i.size)) e (List.replicate m te.zero).flatten (by rw[hlen,size_madeCells,h2];exact Nat.le_refl _) (fun g' j c u hj pG=>by
   have jc:=fm j c hj;have bg:=I hj;rw[hlen]at bg;have kF:j % te.size<z.cells.size:=by rw[h5];exact I jc
   refine h8 _ _ _ _ jc ?_;simp only[madeCells,Array.getElem?_map,h2,Array.getElem?_range,if_pos bg,Option.map_some,Option.some.injEq]at pG;subst pG;rw[h5,h6];simp[kF]) (fun c hc=>by
   rw[List.mem_flatten]at hc;obtain⟨l,hl,hc⟩:=hc;rw[List.mem_replicate]at hl;exact h9 c (hl.2 ▸ hc))
  refine⟨.slice (some ⟨g.w.heap.size,0,none⟩) m m,_,.inl ?_,hle,dp,?_,?_⟩
  ·simp[execOp,ho,ex,ey,bJ,G.bB]
  ·simp[G.bB,Mode.post]
  exact .ms (l:=⟨g.w.heap.size,0,(madeCells z.cells (m*i.size)).size⟩) (o:=.cells (List.replicate m te.zero).flatten) (by simp only[G.bB];rw[List.getElem?_set_self (jn hg gN)]) (by simp only[G.bB];rw[List.getElem?_set_self (I gN)]) (by simp[aj.aF]) (Nat.le_refl _) (Nat.le_refl _) QQ
theorem vf{P:Program}{kb:Nat}{c:Code}{Q:dE->St->Prop}{n:Nat}{br:List (Nat×ae)}:∀(k:Nat) {O:List aj},cc P kb c Q ⟨n,br,O++List.replicate k (.spare 0)⟩->cc P kb c Q ⟨n,br,O⟩
 | 0,O,h=>by simpa using h
 | k+1,O,h=>by
  have h2:cc P kb c Q ⟨n,br,O++[.spare 0]⟩:=vf k (by simpa[List.replicate_succ]using h);exact h2.weaken fun base a g hb hr=>by
   have hO:g.objs=O:=hr.objs;refine⟨g.mark (.spare 0),rfl,?_⟩;have hle:=Le.mark hr.good (.spare 0);refine { le:=hr.le.trans hle,good:=Good.mark hr.good _,objs:=by simp[G.mark,hO],size:=hr.size,defers:=hr.defers,slot:=fun s x hx=>?_ };obtain⟨u,e1,e2⟩:=hr.slot s x hx;exact⟨u,e1,e2.mono hle⟩
def xn(P:Program)(all:List Oper)(k:Nat)(σ:St)(ks:List Kind)(R:St->List Kind->Prop):Prop :=
 ∃(ρ:St) (tK:List Kind),tK.length+k=all.length∧fw P all.toArray ((tK.zipIdx k).map fun p=>(p.2,p.1)) σ ρ∧R ρ (ks++tK)
theorem xn.fin{P:Program}{all:List Oper}{k:Nat}{σ:St}{ks:List Kind}{R:St->List Kind->Prop}(hk:k=all.length)(h:R σ ks):xn P all k σ ks R :=
 ⟨σ,[],by simpa using hk,iA.refl σ,by simpa using h⟩
theorem xn.op{P:Program}{all:List Oper}{k:Nat}{σ:St}{ks:List Kind}{R:St->List Kind->Prop}{o:Oper}{x:ae}{m:Mode}(ho:all[k]?=some o)(hg:o.guard=none)(hc:Cert P o σ x m)
  (h:xn P all (k+1) ⟨σ.n,p9 o.dst x σ.br,m.post σ.objs⟩ (ks++[m.kind]) R):xn P all k σ ks R:=by
 obtain⟨ρ,tK,h1,h2,h3⟩:=h;refine⟨ρ,m.kind::tK,by simp only[List.length_cons];omega,?_,by simpa using h3⟩;rw[List.zipIdx_cons,List.map_cons];exact⟨_,⟨o,by simpa using ho,.inl ⟨by simp[c7,hg],x,m,hc,rfl,rfl⟩⟩,h2⟩
theorem yk{P:Program}{ops:Array Oper}:∀{l1 l2:List (Nat×Kind)} {σ τ ρ:St},fw P ops l1 σ τ->fw P ops l2 τ ρ->fw P ops (l1++l2) σ ρ
 | [],_,_,_,_,h1,h2=>h2.same h1.symm
 | _::_,_,_,_,_,⟨fY,h,h1⟩,h2=>⟨fY,h,yk h1 h2⟩
theorem yl{P:Program}{ops all:Array Oper}{k:Nat}(hk:∀i o,ops[i]?=some o->all[k+i]?=some o)(hg:∀o∈all.toList,o.guard=none):∀{l:List (Nat×Kind)} {σ τ:St},fw P ops l σ τ->fw P all (l.map fun p=>(k+p.1,p.2)) σ τ
 | [],_,_,h=>h
 | (i,q)::r,_,_,h=>by
  obtain⟨fY,⟨o,ho,h1⟩,h2⟩:=h;refine⟨fY,⟨o,hk i o ho,?_⟩,yl hk hg h2⟩;have je:=hk i o ho;have Gt:o.guard=none:=hg o (by
   rw[<-Array.getElem?_toList]at je;exact List.mem_of_getElem? je)
  have w1:∀(a:Array Oper) (σ:St),c7 a o σ=some true:=fun a σ=>by simp[c7,Gt]
  rcases h1 with⟨_,h1⟩|⟨h1,_⟩
  ·exact .inl ⟨w1 _ _,h1⟩
  rw[w1]at h1;cases h1
theorem xn.T4{P:Program}{aT:eZ}(md:Md)(hT:b6 P aT){all l1:List Oper}{k:Nat}{σ:St}{ks:List Kind}{R:St->List Kind->Prop}(n:Nat)(h1:(all.drop k).take n=l1)(hn:l1.length=n)(hg:∀o∈all,o.guard=none)
  (h:eA P aT md l1 0 [] σ [] fun τ yO=>xn P all (k+n) τ (ks++yO.reverse) R):xn P all k σ ks R:=by
 obtain⟨τ,yO,c1,n1,ρ,Rk,h3,c2,hR⟩:=eV (all:=l1.toArray) hT l1 0 [] σ [] (fun j=>by simp) (fun j t hj=>by simp[jw]at hj) h;have hl:k+n<=all.length:=by
  have:l1.length<=all.length-k:=by rw[<-h1,List.length_take,List.length_drop];omega
  by_cases hz:n=0
  ·omega
  omega
 have d1:=yl (all:=all.toArray) (k:=k) (fun i o hi=>by
  have ga:l1[i]?=some o:=by simpa using hi
  rw[<-h1,List.getElem?_take]at ga;split at ga
  ·rw[List.getElem?_drop]at ga;simpa using ga
  cases ga) (by simpa using hg) c1
 refine⟨ρ,yO++Rk,by rw[List.length_append];omega,?_,by simpa using hR⟩;rw[List.zipIdx_append,List.map_append];have e1:(yO.zipIdx k).map (fun p=>(p.2,p.1))=((yO.zipIdx 0).map fun p=>(p.2,p.1)).map fun p=>(k+p.1,p.2):=by
  apply List.ext_getElem?;intro i;simp only[List.getElem?_map,List.getElem?_zipIdx];cases yO[i]?<;>simp
 rw[e1];refine yk d1 ?_;rw[show k+yO.length=k+n by omega];exact c2
theorem vh{P:Program}{kb:Nat}(hm:P.follows .mixedOrders=true){id:Nat}{l:List Oper}{draw:Bool}{Q:dE->St->Prop}{σ:St}
  (h:xn P l 0 σ [] fun τ ks=>gG draw (fun _=>dF l.toArray ks)∧At τ (Q .norm)):cc P kb (.region id l.toArray draw) Q σ:=by
 obtain⟨τ,ks,h1,h2,h3,h4⟩:=h;intro base a g hb hr;have pD:fw P l.toArray ((List.range l.toArray.size).map fun i=>(i,ks.getD i .write)) σ τ:=by
  have e:(ks.zipIdx 0).map (fun p=>(p.2,p.1))=(List.range l.toArray.size).map fun i=>(i,ks.getD i .write):=by
   apply List.ext_getElem?;intro i;simp only[List.getElem?_map];have hlen:ks.length=l.toArray.size:=by simpa using h1
   by_cases hi:i<l.toArray.size
   ·have ga:i<ks.length:=by omega
    rw[List.getElem?_range hi];simp[ga]
   rw[List.getElem?_eq_none (by simp only[List.length_zipIdx];omega),List.getElem?_eq_none (by simp only[List.length_range];omega)];rfl
  rw[<-e];exact h2
 cases draw with
 | false=>exact mo pD hr fun a g EX=>⟨g,τ,rfl,EX,h4⟩
 | true =>
  have hB:=h3 rfl;simp only[List.nil_append]at hB;exact n6 hm hB pD hr fun a g EX=>⟨g,τ,rfl,EX,h4⟩
end Go.Av
namespace Go.Proofs.YtjdnhamngpafmaaGreat
open Go.Av


theorem oB(n:Nat):∀l:List Mv,aw n (l.map eM)
 | []=>trivial
 | x::r=>⟨⟨trivial,trivial,trivial⟩,oB n r⟩
def CC(u:bY)(fuel:Int):Nr :=
 if dg u≠0 then⟨[],0,0,0,dg u⟩
 else if within fuel 1 1000000=false then⟨[],0,0,0,4⟩
 else bI u fuel
structure Rx(u:bY):Prop where
 few:u.fns.length<=256
 main:0<=u.main∧u.main<u.fns.length
 none:(ax (aL u u.main) 0).params=[]
 fns:∀f∈u.fns,ou f
 calls:∀f∈u.fns,∀b∈f.blocks,∀i∈b.ins,jJ u i=0
theorem Ib{u:bY}(a8:u.fit)(h:dg u=0):Rx u:=by
 unfold dg at h;split at h
 ·simp at h
 split at h
 ·simp at h
 split at h
 ·simp at h
 rename_i h3;have h4:=js h;have h5:=h4.2;split at h5
 ·simp at h5
 rename_i h6;exact⟨by omega,by omega,List.length_eq_zero_iff.1 (by omega),fun f hf=>Ar (a8.2.2 f hf) (nA h4.1 f hf),qw h5⟩
theorem ou.Ew{f:Func}(h:ou f){b:Block}(hb:b∈f.blocks):b.params.length<=6:=by
 obtain⟨k,hk⟩:=List.mem_iff_getElem?.1 hb;by_cases h0:0<k
 ·rw[h.bare k b hk h0];simp
 have DB:k=0:=by omega
 subst DB;have:=h.args;unfold ax at this;rw[show((0:Int).toNat)=0 from rfl,hk]at this;exact this
theorem CH{u:bY}(a8:u.fit)(h:dg u=0):gd u:=by
 have hw:=Ib a8 h;refine⟨hw.main,hw.few,hw.none,fun f hf=>⟨(hw.fns f hf).ne,by have:=(hw.fns f hf).few;omega⟩,fun f hf b hb=>?_⟩;have hF:=hw.fns f hf;have hE:=jm (hF.fin b hb);refine⟨fun i hi=>?_,⟨hE.kind,?_,hE.jump,hE.cond,hE.switch,fun e he=>?_,by have:=hE.cases;omega⟩,by have:=hF.ins b hb;omega⟩
 ·have hc:=BA (hw.calls f hf b hb i hi);have Sl:=((a8.2.2 f hf).2.2 b hb).2.2.2.1 i hi;by_cases dH:i.op=100
  ·have hm:=hF.cC b hb i hi;unfold oT at hm;have hl:i.args.length=1:=by
    split at hm
    ·simp at hm
    simp only[ne_eq,dH,not_true_eq_false,if_false]at hm;split at hm
    ·simp at hm
    rename_i q;omega
   exact⟨.inr dH,by omega,⟨Sl.1,Sl.2.2.1⟩,fun q=>by omega,fun q=>by omega,fun _=>hl,fun q=>by omega,fun q=>by omega,fun q=>by omega,fun q=>by omega,fun q=>by omega,fun q=>by omega,fun q=>by omega,fun q=>by omega⟩
  have ga:=hF.form b hb i hi dH;have hlen:=ga.len;refine⟨.inl ga.op,by omega,⟨Sl.1,Sl.2.2.1⟩,fun q=>(ga.c0 q).1,ga.c2,fun q=>ga.c1 (by have:=ga.op;omega),ga.c3,fun q=>⟨?_,hlen⟩,fun q=>?_,fun q=>?_,ga.app,ga.Wq,fun _=>hlen,ga.vec⟩
  ·have:=ga.Un q;unfold fU;omega
  ·have:=ga.call (.inl q);have:=hc.1 (.inr q);exact⟨by omega,by omega,hlen⟩
  have:=ga.call (.inr q);exact⟨by omega,hc.1 (.inl q),hc.2.1 q⟩
 ·by_cases h4:b.term.kind=4
  ·have:=hE.ML h4;omega
  have:=hE.n h4;omega
 have DA:=hE.fZ e he;have hm:=gx (f:=f) (k:=e.block) (by omega) (by omega);have:=hF.Ew hm;exact⟨by omega,by omega,DA.2,by omega⟩
theorem Il(u:bY)(a8:u.fit)(fuel:Int):bD Tryz.prog 25 [u.enc,aI fuel] (CC u fuel).enc:=by
 have oI:=oV u a8;obtain⟨R,hR⟩:∃R,R=CC u fuel:=⟨_,rfl⟩
 rw[<-hR];unfold CC at hR;by_cases hc:dg u=0
 ·rw[if_neg (by simp[hc])]at hR;have hu:=CH a8 hc;rw[hc]at oI;by_cases EZ:fuel<1∨1000000<fuel
  ·have Wc:within fuel 1 1000000=false:=by
    cases hx:within fuel 1 1000000 with
    | false=>rfl
    | true =>
     have:=within_iff.1 hx;omega
   rw[if_pos Wc]at hR;refine zf true 0 Tryz.func25 Tryz.ntmps25 ?_;dsimp only[Tmp,TypeId,slotsOf];refine aA (ah ?_);refine aD 2 0 (.ip none [bn u.fns,aI u.main]) rfl (by simp[aj.aF]) trivial rfl ?_ ?_;rotate_left;simp -dsimp only[simprocAttr,↓aa,zp];rotate_left
   ·exact bQ.mp rfl rfl
   refine bX ?_;refine .inl ⟨_,oI,by simp only[aw,ae.upto,zt,zu,az,oB],ao ?_⟩;simp -dsimp only[simprocAttr,↓aa,zp];refine ah ?_;refine aA (ah ?_);apply aP rfl<;>intro h
   ·cases h
   refine cd ?_;cases mH:decide (fuel<1)with
   | true =>
    refine c9 ?_;simp -dsimp only[simprocAttr,↓aa,zp,mH];refine ah ?_;refine cH rfl ?_;refine aA (ah ?_);refine aq ?_;simp -dsimp only[simprocAttr,↓aa,zp,zr,Tryz.results25];rw[hR];exact⟨by simp[aw,ae.upto],rfl⟩
   | false =>
    have VC:=of_decide_eq_false mH;have tF:decide (1000000<fuel)=true:=decide_eq_true (by omega);refine c9 ?_;simp -dsimp only[simprocAttr,↓aa,zp,mH,tF];refine ah ?_;refine cH rfl ?_;refine aA (ah ?_);refine aq ?_;simp -dsimp only[simprocAttr,↓aa,zp,zr,Tryz.results25];rw[hR];exact⟨by simp[aw,ae.upto],rfl⟩
  have YU:within fuel 1 1000000=true:=within_iff.2 (by omega);have mH:decide (fuel<1)=false:=decide_eq_false (by omega);have tF:decide (1000000<fuel)=false:=decide_eq_false (by omega);rw[if_neg (by simp[YU])]at hR;have EW:=rX hu (fuel:=fuel) (by omega) (by omega);rw[<-hR]at EW;unfold Nr.enc at EW;refine zf true 0 Tryz.func25 Tryz.ntmps25 ?_;dsimp only[Tmp,TypeId,slotsOf];refine aA (ah ?_);refine aD 2 0 (.ip none [bn u.fns,aI u.main]) rfl (by simp[aj.aF]) trivial rfl ?_ ?_;rotate_left;simp -dsimp only[simprocAttr,↓aa,zp];rotate_left
  ·exact bQ.mp rfl rfl
  refine bX ?_;refine .inl ⟨_,oI,by simp only[aw,ae.upto,zt,zu,az,oB],ao ?_⟩;simp -dsimp only[simprocAttr,↓aa,zp];refine ah ?_;refine aA (ah ?_);apply aP rfl<;>intro h
  ·cases h
  refine cd ?_;refine c9 ?_;simp -dsimp only[simprocAttr,↓aa,zp,mH,tF];refine ah ?_;apply aP rfl<;>intro h
  ·cases h
  refine cd ?_;refine aA ?_;refine .inl ⟨_,EW,by simp only[aw,ae.upto,zt,zu,az,oB],ao ?_⟩;simp -dsimp only[simprocAttr,↓aa,zp];refine ah ?_;refine aq ?_;simp -dsimp only[simprocAttr,↓aa,zp,zr,Tryz.results25];exact⟨by simp[aw,ae.upto,az],rfl⟩
 rw[if_pos hc]at hR;obtain⟨e,he⟩:∃e,e=dg u:=⟨_,rfl⟩
 rw[<-he]at hc oI hR;have jP:decide (e=0)=false:=decide_eq_false hc;refine zf true 0 Tryz.func25 Tryz.ntmps25 ?_;dsimp only[Tmp,TypeId,slotsOf];refine aA (ah ?_);refine aD 2 0 (.ip none [bn u.fns,aI u.main]) rfl (by simp[aj.aF]) trivial rfl ?_ ?_;rotate_left;simp -dsimp only[simprocAttr,↓aa,zp];rotate_left
 ·exact bQ.mp rfl rfl
 refine bX ?_;refine .inl ⟨_,oI,by simp only[aw,ae.upto,zt,zu,az,oB],ao ?_⟩;simp -dsimp only[simprocAttr,↓aa,zp];refine ah ?_;refine aS ?_;simp -dsimp only[simprocAttr,↓aa,zp,jP];refine ah ?_;refine cH rfl ?_;refine aA (ah ?_);refine aq ?_;simp -dsimp only[simprocAttr,↓aa,zp,zr,Tryz.results25];rw[hR];exact⟨by simp[aw,ae.upto],rfl⟩


theorem AD{u:bY}{m:Mach}(hm:bR u m)(ho:m.over=false)(hp:¬m.left<1):bR u (m.cU 1)∧(m.cU 1).over=false∧(m.cU 1).short=false∧(m.cU 1).left=m.left-1∧(m.cU 1).frames=m.frames:=by
 have h0:=hm.left;have hd:=hm.depth;have xM:m.cU 1 = { m with left:=m.left-1 }:=by simp[Mach.cU,hp]
 rw[xM];exact⟨⟨fun f hf=>(hm.frames f hf).of_heap (by rfl),fun a ha=>⟨(hm.ig a ha).1,fun v hv=>((hm.ig a ha).2 v hv).of_heap (by rfl)⟩,by simp only;omega,by simp only;omega,hm.out,hm.words,hm.fin,hm.val,hm.done,fun h=>hm.over h⟩,ho,(hm.over ho).2,rfl,rfl⟩
theorem s9{m:Mach}(hp:m.left<1):m.cU 1 = { m with short:=true,over:=true }:=by simp[Mach.cU,hp]
theorem wT{u:bY}(hu:gd u):∀(k:Nat) (m:Mach),bR u m->m.left.toNat+2<=k->(Mach.run u k m).over=true∧(Mach.run u k m).left<=m.left∧(m.over=false->(Mach.run u k m).short=false->(Mach.run u k m).left<=m.left-1)∧((Mach.run u k m).short=false->bR u (Mach.run u k m))
 | 0,m,hm,hk=>by omega
 | k+1,m,hm,hk=>by
  cases od:m.over with
  | true=>simp[Mach.run,od,hm]
  | false =>
   have hl:=hm.left;have hd:=hm.depth;simp only[Mach.run,od,Bool.false_eq_true,if_false];by_cases hp:m.left<1
   ·rw[s9 hp];simp
   obtain⟨q1,q2,q3,q4,q5⟩:=AD hm od hp;rw[if_neg (by simp[q3])];have sQ:(m.cU 1).frames.length+(m.cU 1).left+1<=2 ^ 40:=by rw[q4,q5];omega
   have hs:=bR.step hu q1 q2 sQ;have mW:=tj u (m.cU 1) q1 hu q2;have K2:=hs.left;have ih:=wT hu k _ hs (by omega);refine⟨ih.1,by have:=ih.2.1;omega,fun _ _=>by have:=ih.2.1;omega,ih.2.2.2⟩
namespace Mach
def shift(m:Mach)(c:Int):Mach:={ m with left:=m.left+c }
theorem AV(m:Mach)(c:Int)(f:Fr):(m.shift c).bu f=(m.bu f).shift c:=rfl
theorem Dd(m:Mach)(c:Int)(f:Fr)(v:SV):(m.shift c).leave f v=(m.leave f v).shift c:=by
 unfold leave;show(match m.frames.tail with | []=>_|g::r=>_)=_;cases m.frames.tail<;>rfl
theorem AU(u:bY)(m:Mach)(c:Int)(f:Fr)(t:Term):(m.shift c).finish u f t=(m.finish u f t).shift c:=by
 unfold finish;split
 ·rfl
 split
 ·rfl
 split
 ·exact Dd ..
 split<;>rfl
theorem zn(m:Mach)(c n:Int)(h:¬m.left<n)(h':¬m.left+c<n):(m.shift c).cU n=(m.cU n).shift c:=by
 have h1:m.cU n = { m with left:=m.left-n }:=by simp[cU,h]
 have h2:(m.shift c).cU n = { m.shift c with left:=(m.shift c).left-n }:=by simp[cU,shift,h']
 rw[h1,h2];simp only[shift];congr 1;omega
theorem wW(m:Mach)(c:Int)(size fill:SV)(hs:(m.bA size fill).1.short=false)(hl:0<=(m.bA size fill).1.left+c):(m.shift c).bA size fill=((m.bA size fill).1.shift c,(m.bA size fill).2):=by
 unfold bA at hs hl ⊢;by_cases h1:size.kind≠0
 ·rw[if_pos h1,if_pos h1]
 rw[if_neg h1]at hs hl;rw[if_neg h1,if_neg h1];by_cases h2:size.n<0∨1024<size.n
 ·rw[if_pos h2,if_pos h2]
 rw[if_neg h2]at hs hl;rw[if_neg h2,if_neg h2];by_cases h3:(m.cU size.n).short=true
 ·rw[if_pos h3]at hs;simp only at hs;rw[hs]at h3;cases h3
 rw[if_neg h3]at hl;have h4:¬m.left<size.n:=fun q=>h3 (by simp[cU,q]);have h5:m.cU size.n = { m with left:=m.left-size.n }:=by simp[cU,h4]
 have h7:(m.cU size.n).left=m.left-size.n:=by rw[h5]
 simp only[h7]at hl;rw[zn m c size.n h4 (by omega)];have h6:¬((m.cU size.n).shift c).short=true:=h3;rw[if_neg h6,if_neg h3];rfl
theorem AT(m:Mach)(c:Int)(i:Ins)(args:List SV)(hs:(m.effect i args).1.short=false)(hl:0<=(m.effect i args).1.left+c):(m.shift c).effect i args=((m.effect i args).1.shift c,(m.effect i args).2):=by
 unfold effect at hs hl ⊢;by_cases Aa:i.op=15
 ·rw[if_pos Aa,if_pos Aa];show(if _ then _ else if m.out.length=1000 then _ else _)=_;split
  ·rfl
  split<;>rfl
 rw[if_neg Aa]at hs hl;rw[if_neg Aa,if_neg Aa];by_cases yB:i.op=16
 ·rw[if_pos yB]at hs hl;rw[if_pos yB,if_pos yB];exact wW m c _ _ hs hl
 rw[if_neg yB,if_neg yB];by_cases Bf:i.op=18
 ·rw[if_pos Bf,if_pos Bf];split
  ·rfl
  split<;>rfl
 have hh:(m.shift c).heap=m.heap:=rfl;rw[if_neg Bf,if_neg Bf,hh];by_cases k1:(b8 args 0).kind≠3∨(i.op≠17∧(b8 args 1).kind≠0)
 ·rw[if_pos k1,if_pos k1]
 rw[if_neg k1,if_neg k1];by_cases k2:i.op=17
 ·rw[if_pos k2,if_pos k2]
 rw[if_neg k2,if_neg k2];by_cases k3:(b8 args 1).n<0∨((iW m.heap (b8 args 0).arr).length:Int)<=(b8 args 1).n
 ·rw[if_pos k3,if_pos k3]
 rw[if_neg k3,if_neg k3];by_cases k4:i.op=19
 ·rw[if_pos k4,if_pos k4]
 rw[if_neg k4,if_neg k4];rfl
theorem wX(m:Mach)(c:Int)(i:Ins)(args:List SV)(hs:(m.exec i args).1.short=false)(hl:0<=(m.exec i args).1.left+c):(m.shift c).exec i args=((m.exec i args).1.shift c,(m.exec i args).2):=by
 unfold exec at hs hl ⊢;by_cases h0:i.op=0
 ·rw[if_pos h0,if_pos h0]
 rw[if_neg h0]at hs hl;rw[if_neg h0,if_neg h0];by_cases h1:1<=i.op∧i.op<=7
 ·rw[if_pos h1,if_pos h1];split<;>rfl
 rw[if_neg h1]at hs hl;rw[if_neg h1,if_neg h1];by_cases h8:i.op=8
 ·rw[if_pos h8,if_pos h8]
 rw[if_neg h8]at hs hl;rw[if_neg h8,if_neg h8];by_cases h9:i.op=9
 ·rw[if_pos h9,if_pos h9]
 rw[if_neg h9]at hs hl;rw[if_neg h9,if_neg h9];by_cases yA:i.op=10∨i.op=11∨i.op=12∨i.op=21
 ·rw[if_pos yA,if_pos yA]
 rw[if_neg yA]at hs hl;rw[if_neg yA,if_neg yA];by_cases Ez:i.op=22∨i.op=23∨i.op=24
 ·rw[if_pos Ez,if_pos Ez]
 rw[if_neg Ez]at hs hl;rw[if_neg Ez,if_neg Ez];by_cases dH:i.op=100
 ·rw[if_pos dH,if_pos dH]
 rw[if_neg dH]at hs hl;rw[if_neg dH,if_neg dH];exact AT m c i args hs hl
theorem se(f:Fr)(to:Int)(r:Mach×SV×Int):(settle f to r).short=r.1.short∧(settle f to r).left=r.1.left:=by
 unfold settle;split<;>exact⟨rfl,rfl⟩
theorem AW(f:Fr)(to:Int)(r:Mach×SV×Int)(c:Int):settle f to (r.1.shift c,r.2)=(settle f to r).shift c:=by
 unfold settle;simp only;split<;>rfl
theorem FN(u:bY)(m:Mach)(c:Int)(hs:(m.step u).short=false)(hl:0<=(m.step u).left+c):(m.shift c).step u=(m.step u).shift c:=by
 unfold step at hs hl ⊢;show(match m.frames with | []=>m.shift c|f::_=>_)=_;cases hf:m.frames with
 | nil=>rfl
 | cons f r =>
  rw[hf]at hs hl;simp only at hs hl ⊢;cases hi:(ax (aL u f.fn) f.blk).ins[f.pos]? with
  | none =>
   simp only;exact AU u m c f _
  | some i =>
   rw[hi]at hs hl;simp only at hs hl ⊢;rw[AV];generalize m.bu { f with pos:=f.pos+1 }=m' at *;unfold act at hs hl ⊢;by_cases vP:i.op=13
   ·simp only[vP,if_true];rfl
   by_cases xG:i.op=14
   ·rw[if_neg vP,if_pos xG]at hs hl ⊢;rw[if_neg vP,if_pos xG];split<;>rfl
   rw[if_neg vP,if_neg xG]at hs hl ⊢;rw[if_neg vP,if_neg xG];have q:=se { f with pos:=f.pos+1 } i.to (m'.exec i (cB f.vals i.args));rw[q.1]at hs;rw[q.2]at hl;rw[wX m' c i _ hs hl,AW]
end Mach
theorem jX{u:bY}{m:Mach}(h:m.over=true)(k:Nat):Mach.run u k m=m:=by
 cases k with
 | zero=>rfl
 | succ k=>simp[Mach.run,h]
theorem zl{u:bY}(hu:gd u)(c:Int):∀(k:Nat) (m:Mach),bR u m->m.left.toNat+2<=k->(Mach.run u k m).short=false->0<=(Mach.run u k m).left+c->∀j,k<=j∨(m.left+c).toNat+2<=j->Mach.run u j (m.shift c)=(Mach.run u k m).shift c
 | 0,m,hm,hk,_,_,j,hj=>by omega
 | k+1,m,hm,hk,hs,hl,j,hj=>by
  cases od:m.over with
  | true =>
   have h1:(m.shift c).over=true:=od;rw[jX od,jX h1]
  | false =>
   have QY:=hm.left;have hd:=hm.depth;have bJ:Mach.run u (k+1) m=if(m.cU 1).short then m.cU 1 else Mach.run u k (Mach.step u (m.cU 1)):=by simp[Mach.run,od]
   rw[bJ]at hs hl ⊢;by_cases hp:m.left<1
   ·rw[s9 hp]at hs;simp at hs
   obtain⟨q1,q2,q3,q4,q5⟩:=AD hm od hp;rw[if_neg (by simp[q3])]at hs hl ⊢;have sQ:(m.cU 1).frames.length+(m.cU 1).left+1<=2 ^ 40:=by rw[q4,q5];omega
   have fq:=bR.step hu q1 q2 sQ;have mW:=tj u (m.cU 1) q1 hu q2;have K2:=fq.left;have hr:=wT hu k _ fq (by omega);obtain⟨j,rfl⟩:∃j',j=j'+1:=⟨j-1,by omega⟩
   have Nf:(Mach.step u (m.cU 1)).short=false:=by
    cases hx:(Mach.step u (m.cU 1)).short with
    | false=>rfl
    | true =>
     have ho:(Mach.step u (m.cU 1)).over=true:=by
      cases hy:(Mach.step u (m.cU 1)).over with
      | true=>rfl
      | false=>rw[(fq.over hy).2]at hx;cases hx
     rw[jX ho,hx]at hs;cases hs
   have h1:Mach.run u (j+1) (m.shift c)=if((m.shift c).cU 1).short then(m.shift c).cU 1 else Mach.run u j (Mach.step u ((m.shift c).cU 1)):=by
    have:(m.shift c).over=false:=od;simp[Mach.run,this]
   have hle:=hr.2.1;rw[h1,Mach.zn m c 1 hp (by omega)];have h2:¬((m.cU 1).shift c).short=true:=by
    show ¬(m.cU 1).short=true;rw[q3];simp
   rw[if_neg h2,Mach.FN u (m.cU 1) c Nf (by omega)];exact zl hu c k _ fq (by omega) hs hl j (by omega)
end Go.Proofs.YtjdnhamngpafmaaGreat
namespace Go.Proofs.YtjdnhamngpafmaaGreat
open Go.Av
theorem mF(es:List (Int×SV))(k j:Int)(v:SV):fk (cJ es k v) j=if k=j then v else fk es j:=by
 unfold fk;induction es with
 | nil =>
  simp only[cJ,iu];split<;>rfl
 | cons p r ih =>
  obtain⟨a,x⟩:=p;simp only[cJ];by_cases h:a=k
  ·rw[if_pos h];subst h;simp only[iu];split<;>rfl
  rw[if_neg h];simp only[iu];by_cases h2:a=j
  ·rw[if_pos h2,if_pos h2,if_neg (fun q=>h (by rw[h2,q]))]
  rw[if_neg h2,if_neg h2];exact ih
def VR(D:Int->Prop)(s:Int->Int)(es es':List (Int×SV)):Prop:=∀k,D k->fk es' (s k)=fk es k
section
variable {D:Int->Prop} {s:Int->Int}
end
namespace Mach
def put(m:Mach)(fs:List Fr)(l:Int):Mach:={ m with frames:=fs,left:=l }
theorem uo(m:Mach)(fs:List Fr)(size fill:SV):({ m with frames:=fs }:Mach).bA size fill=({ (m.bA size fill).1 with frames:=fs },(m.bA size fill).2):=by
 unfold bA;by_cases h1:size.kind≠0
 ·rw[if_pos h1,if_pos h1]
 rw[if_neg h1,if_neg h1];by_cases h2:size.n<0∨1024<size.n
 ·rw[if_pos h2,if_pos h2]
 rw[if_neg h2,if_neg h2];have e:({ m with frames:=fs }:Mach).cU size.n = { m.cU size.n with frames:=fs }:=by
  unfold cU;by_cases h3:m.left<size.n
  ·rw[if_pos h3,if_pos h3]
  rw[if_neg h3,if_neg h3]
 rw[e];by_cases h4:(m.cU size.n).short=true
 ·rw[if_pos h4,if_pos h4]
 rw[if_neg h4,if_neg h4]
theorem xF(m:Mach)(fs:List Fr)(i:Ins)(args:List SV):({ m with frames:=fs }:Mach).effect i args=({ (m.effect i args).1 with frames:=fs },(m.effect i args).2):=by
 unfold effect;by_cases Aa:i.op=15
 ·rw[if_pos Aa,if_pos Aa];show(if _ then _ else if m.out.length=1000 then _ else _)=_;split
  ·rfl
  split<;>rfl
 rw[if_neg Aa,if_neg Aa];by_cases yB:i.op=16
 ·rw[if_pos yB,if_pos yB];exact uo m fs _ _
 rw[if_neg yB,if_neg yB];by_cases Bf:i.op=18
 ·rw[if_pos Bf,if_pos Bf];split
  ·rfl
  split<;>rfl
 rw[if_neg Bf,if_neg Bf];by_cases k1:(b8 args 0).kind≠3∨(i.op≠17∧(b8 args 1).kind≠0)
 ·rw[if_pos k1,if_pos k1]
 rw[if_neg k1,if_neg k1];by_cases k2:i.op=17
 ·rw[if_pos k2,if_pos k2]
 rw[if_neg k2,if_neg k2];show(if(b8 args 1).n<0∨((iW m.heap (b8 args 0).arr).length:Int)<=(b8 args 1).n then _ else _)=_;by_cases k3:(b8 args 1).n<0∨((iW m.heap (b8 args 0).arr).length:Int)<=(b8 args 1).n
 ·rw[if_pos k3,if_pos k3]
 rw[if_neg k3,if_neg k3];by_cases k4:i.op=19
 ·rw[if_pos k4,if_pos k4]
 rw[if_neg k4,if_neg k4]
theorem B4(m:Mach)(fs:List Fr)(i:Ins)(args:List SV):({ m with frames:=fs }:Mach).exec i args=({ (m.exec i args).1 with frames:=fs },(m.exec i args).2):=by
 unfold exec;by_cases h0:i.op=0
 ·rw[if_pos h0,if_pos h0]
 rw[if_neg h0,if_neg h0];by_cases h1:1<=i.op∧i.op<=7
 ·rw[if_pos h1,if_pos h1];split<;>rfl
 rw[if_neg h1,if_neg h1];by_cases h8:i.op=8
 ·rw[if_pos h8,if_pos h8]
 rw[if_neg h8,if_neg h8];by_cases h9:i.op=9
 ·rw[if_pos h9,if_pos h9]
 rw[if_neg h9,if_neg h9];by_cases yA:i.op=10∨i.op=11∨i.op=12∨i.op=21
 ·rw[if_pos yA,if_pos yA]
 rw[if_neg yA,if_neg yA];by_cases Ez:i.op=22∨i.op=23∨i.op=24
 ·rw[if_pos Ez,if_pos Ez]
 rw[if_neg Ez,if_neg Ez];by_cases dH:i.op=100
 ·rw[if_pos dH,if_pos dH]
 rw[if_neg dH,if_neg dH];exact xF m fs i args
theorem LJ(m:Mach)(fs:List Fr)(l:Int)(i:Ins)(args:List SV)(hs:(m.exec i args).1.short=false)(h0:0<=(m.exec i args).1.left)(hl:m.left<=l) :
  (m.put fs l).exec i args=((m.exec i args).1.put fs (l-(m.left-(m.exec i args).1.left)),(m.exec i args).2):=by
 have e:m.put fs l = { m.shift (l-m.left)with frames:=fs }:=by
  unfold put shift;simp only[Mach.mk.injEq,true_and,and_true];omega
 rw[e,B4,wX m _ i args hs (by omega)];unfold put shift;simp only[Prod.mk.injEq,Mach.mk.injEq,true_and,and_true];omega
inductive Steps(u:bY):Nat->Mach->Mach->Prop
 | refl (m:Mach):Steps u 0 m m
 | cons {n:Nat} {m m':Mach}:m.over=false->m.short=false->1<=m.left->Steps u n (step u { m with left:=m.left-1 }) m'->Steps u (n+1) m m'
theorem uV{m:Mach}(h:1<=m.left):m.cU 1 = { m with left:=m.left-1 }:=by
 unfold cU;rw[if_neg (by omega)]
theorem Steps.trans{u:bY}{a b:Nat}{m m' p8:Mach}(h:Steps u a m m')(k:Steps u b m' p8):Steps u (a+b) m p8:=by
 induction h with
 | refl m=>rw[Nat.zero_add];exact k
 | cons h1 h2 h3 _ ih =>
  rw[Nat.add_right_comm];exact .cons h1 h2 h3 (ih k)
theorem Steps.run{u:bY}{n:Nat}{m m':Mach}(h:Steps u n m m')(k:Nat):Mach.run u (n+k) m=Mach.run u k m':=by
 induction h with
 | refl m=>rw[Nat.zero_add]
 | cons h1 h2 h3 _ ih =>
  rw[Nat.add_right_comm];simp only[Mach.run];rw[if_neg (by rw[h1];simp),uV h3,if_neg (by simp only;rw[h2];simp)];exact ih
theorem Steps.before{u:bY}{n:Nat}{m m':Mach}(h:Steps u n m m'):∀k,k<n->(Mach.run u k m).over=false:=by
 induction h with
 | refl m=>intro k hk;omega
 | cons h1 h2 h3 _ ih =>
  intro k hk;cases k with
  | zero=>exact h1
  | succ k =>
   simp only[Mach.run];rw[if_neg (by rw[h1];simp),uV h3,if_neg (by simp only;rw[h2];simp)];exact ih k (by omega)
end Mach
section
variable (u v:bY) (s:Int->Int) (D L:Int->Int->Prop) (β:Int->Int->Int) (pre:Int->Int->List Ins)
structure FR(f f':Fr):Prop where
 ids:f'.bW=f.bW∧f'.dx=f.dx∧f'.fn=f.fn
 fn:0<=f.fn∧f.fn<u.fns.length
 live:L f.fn f.blk
 blk:f'.blk=β f.fn f.blk
 pos:f'.pos=(pre f.fn f.blk).length+f.pos
 vals:VR (D f.fn) s f.vals f'.vals
def ToR(f f':Fr):List Fr->Prop
 | []=>True
 | g::_=>f'.to=s f.to∧D g.fn f.to
def Zk:List Fr->List Fr->Prop
 | [],[]=>True
 | f::r,f'::r'=>FR u s D L β pre f f'∧ToR s D f f' r∧Zk r r'
 | _,_=>False
def Rel(c d:Int)(m m':Mach):Prop:=∃fs l,m'=m.put fs l∧Zk u s D L β pre m.frames fs∧c*m.left<=l∧l<=m.left+d
end
section
variable {u v:bY} {s:Int->Int} {D L:Int->Int->Prop} {β:Int->Int->Int} {pre:Int->Int->List Ins} {c d:Int}
theorem Lm{c x l a:Int}(hc:1<=c)(h:c*x<=l)(ha:0<=a):c*(x-a)<=l-a:=by
 have h1:c*(x-a)=c*x-c*a:=Int.mul_sub ..;have h2:1*a<=c*a:=Int.mul_le_mul_of_nonneg_right hc ha;omega
theorem FJ(E:Mach)(E2:SV×Int)(f f':Fr)(fs:List Fr)(to to' y:Int):Mach.settle f' to' (E.put fs y,E2)=(Mach.settle f to (E,E2)).put ({ f' with vals:=cJ f'.vals to' E2.1 }::fs.tail) y:=by
 unfold Mach.settle;simp only;split<;>rfl
theorem x6(E:Mach)(E2:SV×Int)(f:Fr)(to:Int):(Mach.settle f to (E,E2)).frames = { f with vals:=cJ f.vals to E2.1 }::E.frames.tail∧(Mach.settle f to (E,E2)).left=E.left:=by
 unfold Mach.settle;simp only;split<;>exact⟨rfl,rfl⟩
end
end Go.Proofs.YtjdnhamngpafmaaGreat
namespace Go.Proofs.YtjdnhamngpafmaaGreat
open Go.Av
theorem Ld{ds:Defs}{v:Int}(h:v ∉ ds.map (·.1)):gb ds v=none:=by
 cases hl:gb ds v with
 | none=>rfl
 | some p=>exact absurd (List.mem_map.2 ⟨_,wy hl,rfl⟩) h
theorem rz{ds:Defs}{v:Int}{p:Int×Int}(hv:0<=v∧v<=4095)(h:v ∉ ds.map (·.1)):(dq ds v p).1=0:=by
 unfold dq;rw[Ld h];simp[within,hv]
theorem rW(k:Int):∀(l:List Int) (ds:Defs),(∀v∈l,0<=v∧v<=4095)->(ds.map (·.1)++l).Nodup->(dJ k ds l).1=0
 | [],_,_,_=>rfl
 | p::r,ds,hv,hn=>by
  have hp:p ∉ ds.map (·.1):=fun q=>by
   rw[List.nodup_append]at hn;exact hn.2.2 p q p List.mem_cons_self rfl
  have h0:=rz (p:=(k,0)) (hv p List.mem_cons_self) hp;simp only[dJ];rw[if_neg (by rw[h0];simp),nf h0];refine rW k r _ (fun v h=>hv v (List.mem_cons_of_mem _ h)) ?_;rw[List.map_append,List.append_assoc];exact hn
theorem yN(k:Int):∀(l:List Ins) (n:Int) (ds:Defs),(∀i∈l,0<=i.to∧i.to<=4095∧kN i=0)->(ds.map (·.1)++l.map Ins.to).Nodup->(nt k n ds l).1=0
 | [],_,_,_,_=>rfl
 | i::r,n,ds,hv,hn=>by
  have hp:i.to ∉ ds.map (·.1):=fun q=>by
   rw[List.nodup_append]at hn;exact hn.2.2 _ q _ List.mem_cons_self rfl
  have hi:=hv i List.mem_cons_self;have h0:=rz (p:=(k,n+1)) ⟨hi.1,hi.2.1⟩ hp;simp only[nt];rw[if_neg (by rw[h0];simp),if_neg (by rw[hi.2.2];simp),nf h0];refine yN k r _ _ (fun j h=>hv j (List.mem_cons_of_mem _ h)) ?_;rw[List.map_append,List.append_assoc];exact hn
theorem Bw{f:Func}{ds:Defs}{k:Int}{b:Block}(hb:ax f k=b)(hp:∀v∈b.params,0<=v∧v<=4095)(hi:∀i∈b.ins,0<=i.to∧i.to<=4095∧kN i=0)(he:kE f b.term=0)(hn:(ds.map (·.1)++fh b).Nodup):(gh f ds k).1=0:=by
 unfold gh;rw[hb];unfold fh at hn;rw[<-List.append_assoc]at hn;have h1:=rW k b.params ds hp (by
  rw[List.nodup_append]at hn;exact hn.1)
 rw[if_neg (by rw[h1];simp),qP k b.params ds h1];have h2:=yN k b.ins 0 (ds++jt k b.params) hi (by
  rw[List.map_append];have:(jt k b.params).map (·.1)=b.params:=by
   unfold jt;rw[List.map_map];exact List.map_id' _
  rw[this];exact hn)
 rw[if_neg (by rw[h2];simp)];exact he
theorem Bv(k:Int)(b:Block):(kR k b).map (·.1)=fh b:=by
 rw[kR,List.map_append,oQ,fh,jt,List.map_map];congr 1;exact List.map_id' _
theorem ri{f:Func}(hp:∀b∈f.blocks,(∀v∈b.params,0<=v∧v<=4095)∧(∀i∈b.ins,0<=i.to∧i.to<=4095∧kN i=0)∧kE f b.term=0) :
  ∀(n k:Nat) (ds:Defs),k+n=f.blocks.length->(ds.map (·.1)++(f.blocks.drop k).flatMap fh).Nodup->(c5 f n k ds).1=0
 | 0,_,_,_,_=>rfl
 | n+1,k,ds,hk,hn=>by
  have hb:f.blocks[k]?=some f.blocks[k]:=List.getElem?_eq_getElem (by omega);have UR:ax f (k:Int)=f.blocks[k]:=by simp[ax,hb]
  rw[bP hb,List.flatMap_cons,<-List.append_assoc]at hn;obtain⟨p1,p2,p3⟩:=hp _ (List.mem_of_getElem? hb);have h0:=Bw (ds:=ds) UR p1 p2 p3 (by
   rw[List.nodup_append]at hn;exact hn.1)
  simp only[c5];rw[if_neg (by rw[h0];simp),yh h0,UR];have e:(k:Int)+1=((k+1:Nat):Int):=by omega
  rw[e];refine ri hp n (k+1) _ (by omega) ?_;rw[List.map_append,Bv];exact hn
theorem qm{ds:Defs}{over:List Bs}{seen:Bs}{k:Nat}:∀(l:List Ins) (n:Nat),(∀(j:Nat) i,l[j]?=some i->∀a∈i.args,jC ds over seen k ((n+j:Nat):Int) a=true)->j9 ds over seen k n l=true
 | [],_,_=>rfl
 | x::r,n,h=>by
  simp only[j9,Bool.and_eq_true,List.all_eq_true];refine⟨fun a ha=>h 0 x rfl a ha,qm r (n+1) fun j i hj a ha=>?_⟩;rw[show n+1+j=n+(j+1) by omega];exact h (j+1) i (by simpa using hj) a ha
theorem qc{ds:Defs}{over:List Bs}{seen:Bs}:∀(l:List Block) (k:Nat),(∀(j:Nat) b,l[j]?=some b->lR ds over seen (k+j) b=true)->iI ds over seen k l=true
 | [],_,_=>rfl
 | x::r,k,h=>by
  simp only[iI,Bool.and_eq_true];refine⟨h 0 x rfl,qc r (k+1) fun j b hj=>?_⟩;rw[show k+1+j=k+(j+1) by omega];exact h (j+1) b (by simpa using hj)
theorem qD{f:Func}(hn:(lE f).Nodup){k:Nat}{n v:Int}(h:Bl f k n v):jC (Dx f) (lJ f).1 (lJ f).2 k n v=true:=by
 obtain⟨p,h1,h2⟩:=h;have hl:gb (Dx f) v=some p:=(H' (by rw[zR];exact hn)).2 (GQ.2 h1);unfold jC;rw[hl];simp only[Bool.or_eq_true,Bool.and_eq_true,decide_eq_true_eq,Bool.not_eq_true',decide_eq_false_iff_not];cases hs:tT f k with
 | false=>exact .inr (.inr hs)
 | true =>
  rcases h2 hs with q|q
  ·exact .inl q
  exact .inr (.inl q)
theorem FZ{f:Func}(hn:(lE f).Nodup)(h:F' f):sj f (Dx f)=0:=by
 unfold sj;rw[if_pos];refine qc f.blocks 0 fun j b hj=>?_;rw[Nat.zero_add];unfold lR ph;simp only[Bool.and_eq_true,Bool.or_eq_true,decide_eq_true_eq,List.all_eq_true];refine⟨qm b.ins 0 fun n i hi a ha=>?_,?_,fun e he a ha=>qD hn (h.args j b hj e he a ha)⟩
 ·rw[Nat.zero_add];exact qD hn (h.ins j b hj n i hi a ha)
 by_cases h1:b.term.kind=1
 ·exact .inl (.inl h1)
 by_cases h4:b.term.kind=4
 ·exact .inl (.inr h4)
 exact .inr (qD hn (h.arg j b hj h1 h4))
def p'(bs:List Block):Nat:=(bs.map fun b=>b.ins.length).sum
theorem Bb:∀(bs:List Block) (m:Nat),(∀b∈bs,b.ins.length<=1024)->m+bs.length*1024<=1000000->mS m bs=((m+p' bs:Nat):Int)
 | [],m,_,_=>by simp[mS,p']
 | b::r,m,h,hm=>by
  have h1:=h b List.mem_cons_self;rw[List.length_cons]at hm;have hw:IntKind.i64.wrap ((m:Int)+(b.ins.length:Int))=((m+b.ins.length:Nat):Int):=by
   rw[nQ .i64 _ (by show(-9223372036854775808:Int)<=_;omega) (by show _<=(9223372036854775807:Int);omega)];omega
  simp only[mS];rw[hw,Bb r (m+b.ins.length) (fun x hx=>h x (List.mem_cons_of_mem _ hx)) (by omega)];unfold p';rw[List.map_cons,List.sum_cons,Nat.add_assoc]
theorem tz{f:Func}(ct:f.blocks≠[])(uv:f.blocks.length<=128)(vY:-1<=f.name∧f.name<=1048575)(xL:∀b∈f.blocks,b.ins.length<=1024)(aar:p' f.blocks<=1024)(xO:(ax f 0).params.length<=6)
  (hv:∀v∈lE f,0<=v∧v<=4095) (hn:(lE f).Nodup) (hb:∀b∈f.blocks,(∀i∈b.ins,kN i=0)∧kE f b.term=0) (hu:F' f):aZ f=0:=by
 have hbv:∀b∈f.blocks,(∀v∈b.params,0<=v∧v<=4095)∧(∀i∈b.ins,0<=i.to∧i.to<=4095∧kN i=0)∧kE f b.term=0:=fun b h=>by
  have tD:∀v∈fh b,0<=v∧v<=4095:=fun v q=>hv v (List.mem_flatMap.2 ⟨b,h,q⟩);refine⟨fun v q=>tD v (List.mem_append_left _ q),fun i q=>?_,(hb b h).2⟩;have:=tD i.to (List.mem_append_right _ (List.mem_map.2 ⟨i,q,rfl⟩));exact⟨this.1,this.2,(hb b h).1 i q⟩
 have h0:=ri hbv f.blocks.length 0 [] (by omega) (by
  rw[List.drop_zero];exact hn)
 have h1:=qv f.blocks.length 0 [] (by omega) h0;rw[List.drop_zero,List.nil_append]at h1;have hw:=Bb f.blocks 0 xL (by omega);rw[Nat.zero_add]at hw;have hl:=List.length_pos_iff.2 ct;unfold aZ;have Ri:mS 0 f.blocks=((p' f.blocks:Nat):Int):=hw;rw[if_neg (by omega),if_neg (by rw[Ri];omega),if_neg (by simp[within,vY]),if_neg (by
  have Gn:(c5 f f.blocks.length 0 []).1=0:=h0;rw[Gn];simp)]
 have HG:(c5 f f.blocks.length 0 []).2=Dx f:=h1;rw[HG];exact FZ hn hu
theorem PA{f:Func}(a8:f.fit)(h:aZ f=0):p' f.blocks<=1024:=by
 have hw:=c6 a8 h;have he:=Bb f.blocks 0 hw.ins (by have:=hw.few;omega);unfold aZ at h;split at h
 ·simp at h
 split at h
 ·simp at h
 rename_i h2;rw[Nat.zero_add]at he;have DA:mS 0 f.blocks=((p' f.blocks:Nat):Int):=he;rw[DA]at h2;omega
theorem RI{n k:Nat}{D:Nat->Nat->Prop}{R:Nat->Prop}{S:Ds}(hn:n<=128)(hl:S.over.length=n)(h1:∀i j,j<n->D i j->i<n∧(S.at_ j).has i=true)(h2:∀j,j<128->S.seen.has j=true->R j)(hk:k<n){e:Edge}(he:0<=e.block∧e.block.toNat<n)(hR:R k->R e.block.toNat)
  (hD:R k->∀i,D i e.block.toNat->i=e.block.toNat∨D i k) (hs:R k):(∀i j,j<n->D i j->i<n∧((iQ k S e).at_ j).has i=true)∧(∀j,j<128->(iQ k S e).seen.has j=true->R j)∧(iQ k S e).over.length=n:=by
 unfold iQ;simp only;split
 ·refine⟨fun i j hj sR=>?_,fun j hj K4=>?_,by simp only;rw[List.length_set,hl]⟩
  ·refine⟨(h1 i j hj sR).1,?_⟩;have hi:=(h1 i j hj sR).1;unfold Ds.at_;simp only;rw[List.getElem?_set];split
   ·rename_i q;rw[if_pos (by rw[hl];exact he.2),Option.getD_some,Bs.has_add _ _ _ (by omega) (by omega),Bs.vQ];simp only[Bool.or_eq_true,Bool.and_eq_true,decide_eq_true_eq];rw[<-q]at sR;rcases hD hs i sR with r|r
    ·exact .inr r
    exact .inl ⟨(h1 i _ he.2 sR).2,(h1 i k hk r).2⟩
   exact(h1 i j hj sR).2
  simp only at K4;rw[Bs.has_add _ _ _ (by omega) hj]at K4;simp only[Bool.or_eq_true,decide_eq_true_eq]at K4;rcases K4 with q|q
  ·exact h2 j hj q
  rw[q];exact hR hs
 exact⟨h1,h2,hl⟩
structure Rv(n:Nat)(D:Nat->Nat->Prop)(R:Nat->Prop)(S:Ds):Prop where
 len:S.over.length=n
 QM:∀i j,j<n->D i j->i<n∧(S.at_ j).has i=true
 seen:∀j,j<128->S.seen.has j=true->R j
structure WC(f:Func)(D:Nat->Nat->Prop)(R:Nat->Prop):Prop where
 few:f.blocks.length<=128
 fZ:∀b∈f.blocks,∀e∈b.term.to,0<=e.block∧e.block.toNat<f.blocks.length
 next:∀(k:Nat) b,f.blocks[k]?=some b->R k->∀e∈b.term.to,R e.block.toNat∧∀i,D i e.block.toNat->i=e.block.toNat∨D i k
theorem QJ{f:Func}{D:Nat->Nat->Prop}{R:Nat->Prop}(hc:WC f D R){k:Nat}{b:Block}(hb:f.blocks[k]?=some b)(hR:R k):∀(l:List Edge) {S:Ds},(∀e∈l,e∈b.term.to)->Rv f.blocks.length D R S->Rv f.blocks.length D R (l.foldl (iQ k) S)
 | [],_,_,h=>h
 | e::r,S,hl,h=>by
  have hn:=hc.next k b hb hR e (hl e List.mem_cons_self)
  obtain⟨a1,a2,a3⟩:=RI hc.few h.len h.QM h.seen (I hb) (hc.fZ b (List.mem_of_getElem? hb) e (hl e List.mem_cons_self)) (fun _=>hn.1) (fun _=>hn.2) hR;rw[List.foldl_cons];exact QJ hc hb hR r (fun x hx=>hl x (List.mem_cons_of_mem _ hx)) ⟨a3,a1,a2⟩
theorem QL{f:Func}{D:Nat->Nat->Prop}{R:Nat->Prop}(hc:WC f D R):∀(l:List Block) (k:Nat) {S:Ds},l=f.blocks.drop k->Rv f.blocks.length D R S->Rv f.blocks.length D R (mc k S l)
 | [],_,_,_,h=>h
 | b::r,k,S,hl,h=>by
  have hb:f.blocks[k]?=some b:=by
   have:=congrArg (fun l=>l[0]?) hl;simpa using this.symm
  have hr:r=f.blocks.drop (k+1):=by
   rw[bP hb]at hl;simpa using hl
  rw[mc];refine QL hc r (k+1) hr ?_;unfold rA;split
  ·exact h
  rename_i hs;have hk:=I hb;exact QJ hc hb (h.seen k (by have:=hc.few;omega) (by simpa using hs)) _ (fun e he=>he) h
theorem QK{f:Func}{D:Nat->Nat->Prop}{R:Nat->Prop}(hc:WC f D R):∀(n:Nat) {S:Ds},Rv f.blocks.length D R S->Rv f.blocks.length D R (jz f n S)
 | 0,_,h=>h
 | n+1,S,h=>by
  simp only[jz];split
  ·exact QK hc n (QL hc f.blocks 0 (S:=⟨S.over,S.seen,false⟩) (by rw[List.drop_zero]) ⟨h.len,h.QM,h.seen⟩)
  exact h
theorem Ga:∀(n j:Nat),n<=128->j<n->(xp n).has j=true
 | 0,_,_,h=>absurd h (Nat.not_lt_zero _)
 | n+1,j,hn,hj=>by
  rw[xp,Bs.has_add _ _ _ (by omega) (by omega)];by_cases e:j=n
  ·simp[e]
  rw[Ga n j (by omega) (by omega)];rfl
theorem NV{f:Func}{D:Nat->Nat->Prop}{R:Nat->Prop}(ct:f.blocks≠[])(hc:WC f D R)(h0:R 0)(hz:∀i,D i 0->i=0)(bg:∀i j,D i j->i<f.blocks.length){i j:Nat}(hj:j<f.blocks.length)(h:D i j):(o7 f j).has i=true:=by
 have hl:=List.length_pos_iff.2 ct;have hs:Rv f.blocks.length D R (nh f):=by
  refine⟨by simp[nh],fun i j hj sR=>⟨bg i j sR,?_⟩,fun j hj K4=>?_⟩
  ·unfold Ds.at_ nh;simp only;rw[List.getElem?_set];split
   ·rename_i e;subst e;rw[if_pos (by simpa using hl),Option.getD_some,hz i sR];decide
   rw[List.getElem?_replicate,if_pos hj,Option.getD_some];exact Ga _ _ hc.few (bg i j sR)
  have:(Bs.none.add 0).has j=true:=K4;rw[Bs.has_add _ _ _ (by omega) hj]at this;have hn:Bs.none.has j=false:=by unfold Bs.has Bs.none;simp
  rw[hn]at this;simp only[Bool.false_or,decide_eq_true_eq]at this;rw[this];exact h0
 exact((QK hc 20000 hs).QM i j hj h).2
end Go.Proofs.YtjdnhamngpafmaaGreat
namespace Go.Proofs.YtjdnhamngpafmaaGreat
open Go.Av
theorem rj(f:Func):((List.range f.blocks.length).map fun k:Nat=>ax f (k:Int))=f.blocks:=by
 apply List.ext_getElem?;intro i;rw[List.getElem?_map];by_cases h:i<f.blocks.length
 ·rw[List.getElem?_range h,List.getElem?_eq_getElem h];simp[ax,h]
 rw[List.getElem?_eq_none (by simp;omega),List.getElem?_eq_none (by omega)];rfl
theorem wN{f:Func}(hw:mY f):ec f=((List.range f.blocks.length).map fun k:Nat=>(k:Int)).filter fun k=>decide (0<=gX f k):=by
 have hp:((List.range f.blocks.length).map fun k:Nat=>(k:Int)).Pairwise (fun a b=>a<b):=by
  rw[List.pairwise_map];exact List.Pairwise.imp (fun h=>by omega) List.pairwise_lt_range
 have hp2:=hp.filter (fun k=>decide (0<=gX f k));refine List.Perm.eq_of_pairwise (le:=fun a b=>a<=b) (fun a b _ _ h1 h2=>by omega) (sg _) (hp2.imp fun h=>by omega) ?_;rw[List.perm_ext_iff_of_nodup (qS hw) (hp2.imp fun h=>by omega)];intro k;rw[dT,List.mem_filter,decide_eq_true_eq];constructor
 ·intro h;have hr:=hw.range k h;exact⟨List.mem_map.2 ⟨k.toNat,List.mem_range.2 (by omega),by omega⟩,h⟩
 exact fun h=>h.2
theorem L'{α β:Type}(F:α->List β){l m:List α}(h:l.Sublist m):(l.flatMap F).Sublist (m.flatMap F):=by
 induction h with
 | slnil=>exact List.Sublist.refl _
 | cons a _ ih =>
  rw[List.flatMap_cons];exact List.sublist_append_of_sublist_right ih
 | cons_cons a _ ih =>
  rw[List.flatMap_cons,List.flatMap_cons];exact(List.Sublist.refl _).append ih
theorem Pz{α:Type}(F:α->Nat){l m:List α}(h:l.Sublist m):(l.map F).sum<=(m.map F).sum:=by
 induction h with
 | slnil=>exact Nat.le_refl _
 | cons a _ ih =>
  rw[List.map_cons,List.sum_cons];omega
 | cons_cons a _ ih =>
  rw[List.map_cons,List.map_cons,List.sum_cons,List.sum_cons];omega
theorem AK{f:Func}(hw:mY f):(ec f).Sublist ((List.range f.blocks.length).map fun k:Nat=>(k:Int)):=by
 rw[wN hw];exact List.filter_sublist
theorem FC{f:Func}(hw:mY f):(lE (bj f)).Sublist (lE f):=by
 have h1:lE (bj f)=(ec f).flatMap fun k=>fh (ax f k):=by
  unfold lE bj;rw[List.flatMap_map];rfl
 have h2:lE f=((List.range f.blocks.length).map fun k:Nat=>(k:Int)).flatMap fun k=>fh (ax f k):=by
  unfold lE
  conv=>lhs;rw[<-rj f]
  rw[List.flatMap_map,List.flatMap_map]
 rw[h1,h2];exact L' _ (AK hw)
theorem Iz{f:Func}(hw:mY f):p' (bj f).blocks<=p' f.blocks:=by
 have h1:p' (bj f).blocks=((ec f).map fun k=>(ax f k).ins.length).sum:=by
  unfold p' bj;rw[List.map_map];rfl
 have h2:p' f.blocks=(((List.range f.blocks.length).map fun k:Nat=>(k:Int)).map fun k=>(ax f k).ins.length).sum:=by
  unfold p'
  conv=>lhs;rw[<-rj f]
  rw[List.map_map,List.map_map];rfl
 rw[h1,h2];exact Pz _ (AK hw)
def eK(f:Func)(k:Int):Int:=kH (ec f) k
section
variable {f:Func}
theorem pos_at{k:Int}(h:0<=gX f k):0<=eK f k∧(ec f)[(eK f k).toNat]?=some k:=by
 have h1:=(fT (l:=ec f) (n:=k)).1.2 (dT.2 h);exact⟨h1,(fT (l:=ec f) (n:=k)).2 h1⟩
theorem uW(hw:mY f){i j:Nat}{k:Int}(h1:(ec f)[i]?=some k)(h2:(ec f)[j]?=some k):i=j:=by
 have hn:=List.pairwise_iff_getElem.1 (qS hw);obtain⟨p1,e1⟩:=List.getElem?_eq_some_iff.1 h1;obtain⟨p2,e2⟩:=List.getElem?_eq_some_iff.1 h2;refine Classical.byContradiction fun q=>?_;rcases Nat.lt_or_gt_of_ne q with q|q
 ·exact hn i j p1 p2 q (e1.trans e2.symm)
 exact hn j i p2 p1 q (e2.trans e1.symm)
theorem qQ(hw:mY f){j:Nat}{k:Int}(h:(ec f)[j]?=some k):eK f k=j:=by
 obtain⟨h1,h2⟩:=pos_at (dT.1 (List.mem_of_getElem? h))
 have:=uW hw h h2;omega
theorem r6(hw:mY f):(ec f)[0]?=some 0:=by
 obtain⟨h1,h2⟩:=pos_at (f:=f) (k:=0) (by rw[hw.zero];omega)
 have hs:=List.pairwise_iff_getElem.1 (sg (bH f));have hl:=I h2;have h0:(ec f)[0]?=some ((ec f)[0]'(by omega)):=List.getElem?_eq_getElem _;rw[h0];congr 1;by_cases e:(eK f 0).toNat=0
 ·rw[e,h0]at h2;simpa using h2
 have h3:=hs 0 (eK f 0).toNat (by show 0<(ec f).length;omega) hl (by omega);have h4:=(List.getElem?_eq_some_iff.1 h2).2;have h5:=(hw.range _ (dT.1 (List.mem_of_getElem? h0))).1;have h6:(ec f)[0]'(by omega)<=(ec f)[(eK f 0).toNat]:=h3;rw[h4]at h6;omega
theorem vd{k:Int}(h0:0<=k)(h1:k<f.blocks.length):DP (nS f) k=eK f k:=by
 unfold DP nS;rw[List.getElem?_map,List.getElem?_range (by omega),Option.map_some,Option.getD_some];show kH (ec f) ((k.toNat:Nat):Int)=_;rw[show((k.toNat:Nat):Int)=k by omega];rfl
theorem jV{j:Nat}{c:Block}:(bj f).blocks[j]?=some c↔∃k,(ec f)[j]?=some k∧c=tg (nS f) (ax f k):=by
 unfold bj;simp only[List.getElem?_map,Option.map_eq_some_iff];constructor
 ·rintro⟨k,h1,h2⟩;exact⟨k,h1,h2.symm⟩
 rintro⟨k,h1,h2⟩;exact⟨k,h1,h2.symm⟩
theorem dW:(bj f).blocks.length=(ec f).length:=List.length_map ..
theorem o8{k:Int}(h:0<=gX f k):ax (bj f) (eK f k)=tg (nS f) (ax f k):=by
 have:=(jV (f:=f)).2 ⟨k,(pos_at h).2,rfl⟩;unfold ax;rw[this];rfl
theorem gS{k:Int}(h0:0<=k)(h1:k<f.blocks.length):f.blocks[k.toNat]?=some (ax f k):=by
 unfold ax;rw[List.getElem?_eq_getElem (by omega)];rfl
end
theorem FL{t t':Term}(h1:t.kind=t'.kind)(h2:t.arg=t'.arg)(h3:t.n=t'.n)(h4:t.cases=t'.cases)(h5:t.to.length=t'.to.length):ef t=ef t':=by
 unfold ef fc sx;rw[h1,h2,h3,h4,h5]
theorem ya.range{f:Func}{v:Int}{p:Int×Int}(h:ya f v p):0<=p.1∧p.1<f.blocks.length:=by
 obtain⟨k,b,h1,h2,_⟩:=h;have:=I h1;omega
theorem sL{f:Func}{t:Term}(h1:ef t=true)(h2:t.cases.length<=256)(h3:t.kind=4->1<=t.n∧t.n<=6)(h4:jK t.cases t.cases.length=0)(h5:∀e∈t.to,(1<=e.block∧e.block<=(f.blocks.length:Int)-1)∧e.args.length=(ax f e.block).params.length):kE f t=0:=by
 unfold kE;rw[if_neg (by simp[h1]),if_neg (by omega),if_neg (fun q=>by
  have:=h3 q.1;have q2:=q.2;simp[within,this]at q2),if_neg (by rw[h4];simp)]
 generalize t.to=l at h5;induction l with
 | nil=>rfl
 | cons e r ih =>
  have he:=h5 e List.mem_cons_self;simp only[oC];rw[if_neg (by simp[within,he.1]),if_neg (by rw[he.2];simp)];exact ih fun x hx=>h5 x (List.mem_cons_of_mem _ hx)
theorem Hz{f:Func}{t:Term}(h:kE f t=0):jK t.cases t.cases.length=0:=by
 unfold kE at h;split at h
 ·simp at h
 split at h
 ·simp at h
 split at h
 ·simp at h
 split at h
 ·rename_i q;exact absurd h q
 rename_i q;simpa using q
theorem Da{f:Func}(hd:Nz f)(hw:mY f):∀(n:Nat) (k:Int),0<=gX f k->gX f k<n->tT f k.toNat=true∧∀d,d<128->(o7 f k.toNat).has d=true->0<=gX f (d:Int)
 | 0,k,h,hn=>by omega
 | n+1,k,h,hn=>by
  by_cases h0:gX f k=0
  ·have hk:k=0:=hw.inj k 0 h (by rw[hw.zero,h0]);subst hk;refine⟨hd.seen,fun d ll q=>?_⟩;rw[(hd.zero d ll).1 q];show 0<=gX f 0;rw[hw.zero];omega
  obtain⟨p,⟨e,he,KF⟩,HX,EV⟩:=hw.fwd k (by omega);obtain⟨i1,i2⟩:=Da hd hw n p HX (by omega);have xm:=hw.range p HX;obtain⟨s1,s2⟩:=hd.step p.toNat (ax f p) (gS xm.1 xm.2) i1 e he;rw[KF]at s1 s2;refine⟨s1,fun d ll q=>?_⟩;rcases s2 d ll q with r|r
  ·have DC:=hw.range k h;rw[r,show((k.toNat:Nat):Int)=k by omega];exact h
  exact i2 d ll r
theorem CZ{f:Func}(hd:Nz f)(hw:mY f){k:Int}(h:0<=gX f k):tT f k.toNat=true∧∀d,d<128->(o7 f k.toNat).has d=true->0<=gX f (d:Int):=Da hd hw 300 k h (by
 have h1:=(hw.low k).2;have h2:=hw.few;omega)
theorem ym{f:Func}(hw:mY f){v:Int}{p:Int×Int}(h:ya f v p)(hr:0<=gX f p.1):ya (bj f) v (eK f p.1,p.2):=by
 obtain⟨k,b,h1,h2,h3⟩:=h;obtain⟨q1,q2⟩:=pos_at hr;have hb:ax f p.1=b:=by
  rw[h2];unfold ax;rw[Int.toNat_natCast,h1];rfl
 refine⟨(eK f p.1).toNat,tg (nS f) b,jV.2 ⟨p.1,q2,by rw[hb]⟩,by simp only;omega,h3⟩
theorem CW{f:Func}(a8:f.fit)(hc:aZ f=0):aZ (bj f)=0:=by
 have hv:=BJ a8 hc;have hf:=hv.fn;have hg:=hf.gr;have hw:=jF hg;have hd:=hv.QM;have wo:=FC hw;have Q9:=r6 hw;have hlen:(ec f).length<=f.blocks.length:=by
  have:=(AK hw).length_le;simpa using this
 have yJ:=I Q9;have uv:=hg.few;have XQ:ax (bj f) 0=tg (nS f) (ax f 0):=by
  have:=o8 (f:=f) (k:=0) (by rw[hw.zero];omega)
  rwa [qQ hw Q9]at this
 have fX:∀c∈(bj f).blocks,∃k,0<=gX f k∧c=tg (nS f) (ax f k)∧ax f k∈f.blocks:=fun c uq=>by
  obtain⟨j,hj⟩:=List.mem_iff_getElem?.1 uq;obtain⟨k,h1,h2⟩:=jV.1 hj;have hk:=dT.1 (List.mem_of_getElem? h1);have DC:=hw.range k hk;exact⟨k,hk,h2,List.mem_of_getElem? (gS DC.1 DC.2)⟩
 have Ca:∀{k:Int},0<=gX f k->∀e∈(ax f k).term.to,0<=gX f e.block∧1<=e.block∧e.block<f.blocks.length:=fun {k} hk e he=>by
  have DC:=hw.range k hk;have:=hg.fZ _ (List.mem_of_getElem? (gS DC.1 DC.2)) e he;exact⟨hw.next k e.block hk ⟨e,he,rfl⟩,this⟩
 have yG:∀{k:Int} {n v:Int},0<=gX f k->Bl f k.toNat n v->Bl (bj f) (eK f k).toNat n v:=fun {k n v} hk h=>by
  obtain⟨⟨pa,pb⟩,h1,h2⟩:=h;obtain⟨p,K1⟩:∃p:Int×Int,p=(pa,pb):=⟨_,rfl⟩
  rw[<-K1]at h1 h2;obtain⟨s1,s2⟩:=CZ hd hw hk;have DC:=hw.range k hk;obtain⟨q1,q2⟩:=pos_at hk;rcases h2 s1 with⟨e1,e2⟩|⟨e1,e2⟩
  ·have e3:p.1=k:=by omega
   refine⟨(eK f k,p.2),by rw[<-e3];exact ym hw h1 (by rw[e3];exact hk),fun _=>.inl ⟨by simp only;omega,e2⟩⟩
  have ll:=h1.range;have Jg:((p.1.toNat:Nat):Int)=p.1:=by omega
  have hpd:0<=gX f p.1:=by
   have:=s2 p.1.toNat (by omega) e2
   rwa [Jg]at this
  obtain⟨r1,r2⟩:=pos_at hpd;refine⟨(eK f p.1,p.2),ym hw h1 hpd,fun _=>.inr ⟨fun q=>?_,?_⟩⟩
  ·have q':(eK f p.1).toNat=(eK f k).toNat:=by
    have:eK f p.1=((eK f k).toNat:Int):=q;omega
   rw[q',q2]at r2;simp only[Option.some.injEq]at r2;omega
  show(o7 (bj f) (eK f k).toNat).has (eK f p.1).toNat=true;refine NV (D:=fun i j=>∃ki kj,(ec f)[i]?=some ki∧(ec f)[j]?=some kj∧(o7 f kj.toNat).has ki.toNat=true) (R:=fun _=>True) (by
   intro q;have:=congrArg List.length q;rw[dW]at this;simp only[List.length_nil]at this;omega) ?_ trivial ?_ ?_ (by rw[dW];exact I q2) ⟨p.1,k,r2,q2,e2⟩
  ·refine⟨by rw[dW];omega,fun c uq e he=>?_,fun j c hj _ e he=>⟨trivial,fun i hi=>?_⟩⟩
   ·obtain⟨kc,Vp,e3,_⟩:=fX c uq;rw[e3,iM]at he;obtain⟨x,hx,rfl⟩:=List.mem_map.1 he;obtain⟨x1,x2,x3⟩:=Ca Vp x hx;obtain⟨y1,y2⟩:=pos_at x1;show 0<=DP (nS f) x.block∧(DP (nS f) x.block).toNat<_;rw[vd (by omega) x3,dW];exact⟨y1,I y2⟩
   obtain⟨kc,h3,h4⟩:=jV.1 hj;have Vp:=dT.1 (List.mem_of_getElem? h3);rw[h4,iM]at he;obtain⟨x,hx,rfl⟩:=List.mem_map.1 he;obtain⟨x1,x2,x3⟩:=Ca Vp x hx;obtain⟨y1,y2⟩:=pos_at x1;have B6:(gY (nS f) x).block=eK f x.block:=vd (by omega) x3;rw[B6]at hi ⊢;obtain⟨ki,kj,i1,i2,i3⟩:=hi;rw[y2]at i2;simp only[Option.some.injEq]at i2;subst i2;have Vq:=hw.range kc Vp;have Yp:=hw.range ki (dT.1 (List.mem_of_getElem? i1));obtain⟨t1,t2⟩:=hd.step kc.toNat _ (gS Vq.1 Vq.2) (CZ hd hw Vp).1 x hx;rcases t2 ki.toNat (by omega) i3 with u|u
   ·refine .inl ?_;have:ki=x.block:=by omega
    rw[this]at i1;exact uW hw i1 y2
   exact .inr ⟨ki,kc,i1,h3,u⟩
  ·rintro i ⟨ki,kj,i1,i2,i3⟩;rw[Q9]at i2;simp only[Option.some.injEq]at i2;subst i2;have Yp:=hw.range ki (dT.1 (List.mem_of_getElem? i1));have:=(hd.zero ki.toNat (by omega)).1 i3;have DB:ki=0:=by omega
   rw[DB]at i1;exact uW hw i1 Q9
  rintro i j ⟨ki,kj,i1,_,_⟩;rw[dW];exact I i1
 refine tz (fun q=>?_) (by rw[dW];omega) hf.name (fun c uq=>?_) (Nat.le_trans (Iz hw) (PA a8 hc)) (by rw[XQ];exact hf.args) (fun v h=>hv.vals v (wo.subset h)) (wo.nodup hv.nodup) (fun c uq=>?_) ?_
 ·have:=congrArg List.length q;rw[dW]at this;simp only[List.length_nil]at this;omega
 ·obtain⟨k,_,e1,e2⟩:=fX c uq;rw[e1];exact hf.ins (ax f k) e2
 ·obtain⟨k,hk,e1,e2⟩:=fX c uq;have UW:=hf.blk _ e2;rw[e1];refine⟨UW.Gm,?_⟩;obtain⟨m1,m2,m3,m4⟩:=kS UW.fin;refine sL ?_ m2 m3 (Hz (f:=f) (t:=(ax f k).term) UW.fin) fun e he=>?_
  ·have hs:ef (tg (nS f) (ax f k)).term=ef (ax f k).term:=FL rfl rfl rfl rfl (List.length_map ..);rw[hs];exact m1
  rw[iM]at he;obtain⟨x,hx,rfl⟩:=List.mem_map.1 he;obtain⟨x1,x2,x3⟩:=Ca hk x hx;obtain⟨y1,y2⟩:=pos_at x1;have B6:(gY (nS f) x).block=eK f x.block:=vd (by omega) x3;rw[B6,o8 x1,dW];have YX:=I y2;refine⟨⟨?_,by omega⟩,(m4 x hx).2⟩;refine Classical.byContradiction fun q=>?_;have h0:(eK f x.block).toNat=0:=by omega
  rw[h0,Q9]at y2;simp only[Option.some.injEq]at y2;omega
 have fm:∀{j:Nat} {c:Block},(bj f).blocks[j]?=some c->∃k,0<=gX f k∧c=tg (nS f) (ax f k)∧f.blocks[k.toNat]?=some (ax f k)∧j=(eK f k).toNat:=fun {j c} hj=>by
  obtain⟨k,h1,h2⟩:=jV.1 hj;have hk:=dT.1 (List.mem_of_getElem? h1);have DC:=hw.range k hk;have:=qQ hw h1;exact⟨k,hk,h2,gS DC.1 DC.2,by omega⟩
 refine⟨fun j c hj n i hi a ha=>?_,fun j c hj h1 h4=>?_,fun j c hj e he a ha=>?_⟩
 ·obtain⟨k,hk,e1,e2,e3⟩:=fm hj;rw[e3];rw[e1]at hi;exact yG hk (hv.MN.ins _ _ e2 n i hi a ha)
 ·obtain⟨k,hk,e1,e2,e3⟩:=fm hj;rw[e3];rw[e1]at h1 h4 ⊢;exact yG hk (hv.MN.arg _ (ax f k) e2 h1 h4)
 obtain⟨k,hk,e1,e2,e3⟩:=fm hj;rw[e3];rw[e1]at he ⊢;rw[iM]at he;obtain⟨x,hx,rfl⟩:=List.mem_map.1 he;exact yG hk (hv.MN.args _ _ e2 x hx a ha)
end Go.Proofs.YtjdnhamngpafmaaGreat
namespace Go.Proofs.YtjdnhamngpafmaaGreat
open Go.Av

end Go.Proofs.YtjdnhamngpafmaaGreat
namespace Go.Proofs.YtjdnhamngpafmaaGreat
open Go.Av
theorem Iy{f:Func}(a8:f.fit)(hg:uC f):(bj f).fit:=by
 have hw:=jF hg;have hl:(ec f).length<=128:=by rw[CY];exact hw.few
 refine⟨a8.1,by rw[dW];omega,fun c uq=>?_⟩;obtain⟨j,hj⟩:=List.mem_iff_getElem?.1 uq;obtain⟨k,h1,h2⟩:=jV.1 hj;have DC:=hw.range k (dT.1 (List.mem_of_getElem? h1));obtain⟨b1,b2,b3,b4,t1,t2,t3,t4,t5,t6,t7⟩:=a8.2.2 _ (List.mem_of_getElem? (gS DC.1 DC.2));rw[h2];refine⟨b1,b2,b3,b4,t1,t2,t3,t4,t5,by rw[iM,List.length_map];exact t6,fun e he=>?_⟩;rw[iM]at he;obtain⟨x,hx,rfl⟩:=List.mem_map.1 he;obtain⟨x1,x2,x3⟩:=t7 x hx;refine⟨?_,x2,x3⟩;show cm (DP (nS f) x.block);have hb:-1<=DP (nS f) x.block∧DP (nS f) x.block<=128:=by
  unfold DP nS;rw[List.getElem?_map];by_cases q:x.block.toNat<f.blocks.length
  ·rw[List.getElem?_range q,Option.map_some,Option.getD_some];by_cases r:0<=kH (ec f) ((x.block.toNat:Nat):Int)
   ·have:=I ((fT (l:=ec f) (n:=((x.block.toNat:Nat):Int))).2 r);omega
   have:kH (ec f) ((x.block.toNat:Nat):Int)=-1:=by
    unfold kH at r ⊢;split
    ·rename_i s;rw[if_pos s]at r;omega
    rfl
   omega
  rw[List.getElem?_eq_none (by simp;omega)];simp
 unfold cm;omega
section
variable {f:Func}
theorem LH(hw:mY f):eK f 0=0:=qQ hw (r6 hw)
theorem Ix(hg:uC f){p k:Int}(hp:0<=gX f p)(h:Jm f p k):Jm (bj f) (eK f p) (eK f k):=by
 have hw:=jF hg;obtain⟨x,hx,e⟩:=h;have xm:=hw.range p hp;have hxr:=hg.fZ _ (List.mem_of_getElem? (gS xm.1 xm.2)) x hx;refine⟨gY (nS f) x,?_,?_⟩
 ·unfold kX;rw[o8 hp,iM];exact List.mem_map.2 ⟨x,hx,rfl⟩
 show DP (nS f) x.block=_;rw[vd (by omega) hxr.2,e]
theorem zd(hg:uC f)(xR:mY (bj f)):∀(n:Nat) (k:Int),0<=gX f k->gX f k<n->0<=gX (bj f) (eK f k)
 | 0,k,h,hn=>by omega
 | n+1,k,h,hn=>by
  have hw:=jF hg;by_cases h0:gX f k=0
  ·have hk:k=0:=hw.inj k 0 h (by rw[hw.zero,h0]);rw[hk,LH hw,xR.zero];omega
  obtain⟨p,he,HX,EV⟩:=hw.fwd k (by omega);exact xR.next _ _ (zd hg xR n p HX (by omega)) (Ix hg HX he)
theorem ID(hg:uC f)(xR:mY (bj f)){k:Int}(h:0<=gX f k):0<=gX (bj f) (eK f k):=zd hg xR 300 k h (by
 have hw:=jF hg;have h1:=(hw.low k).2;have h2:=hw.few;omega)
end
end Go.Proofs.YtjdnhamngpafmaaGreat
namespace Go.Proofs.YtjdnhamngpafmaaGreat
open Go.Av
theorem CV{f:Func}(hw:mY f):eK f 0=0∧ax (bj f) 0=tg (nS f) (ax f 0):=by
 have h0:=qQ hw (r6 hw);have:=o8 (f:=f) (k:=0) (by rw[hw.zero];omega);rw[h0]at this;exact⟨h0,this⟩
theorem Iw{f:Func}(hg:uC f)(xR:mY (bj f)):(ec (bj f)).length=(bj f).blocks.length:=by
 have hw:=jF hg;rw[wN xR,List.filter_eq_self.2,List.length_map,List.length_range];intro k hk;obtain⟨j,hj,rfl⟩:=List.mem_map.1 hk;have hj:=List.mem_range.1 hj;rw[dW]at hj;have hb:(ec f)[j]?=some ((ec f)[j]'hj):=List.getElem?_eq_getElem _;have:=ID hg xR (dT.1 (List.mem_of_getElem? hb));rw[qQ hw hb]at this;exact decide_eq_true this
section
variable {u:bY} (a8:u.fit) (hc:gD u=0)
include a8 hc
end
end Go.Proofs.YtjdnhamngpafmaaGreat
namespace Go.Proofs.YtjdnhamngpafmaaGreat
open Go.Av
section
variable {f:Func}
end
end Go.Proofs.YtjdnhamngpafmaaGreat
namespace Go.Proofs.YtjdnhamngpafmaaGreat
open Go.Av
section
variable {f g:Func} {s:Int->Int} {β:Nat->Nat} {pre:Nat->List Ins}
end
end Go.Proofs.YtjdnhamngpafmaaGreat
namespace Go.Proofs.YtjdnhamngpafmaaGreat
open Go.Av
section
variable {f:Func}
end
end Go.Proofs.YtjdnhamngpafmaaGreat
namespace Go.Proofs.YtjdnhamngpafmaaGreat
open Go.Av
section
variable {f:Func}
end
end Go.Proofs.YtjdnhamngpafmaaGreat
namespace Go.Proofs.YtjdnhamngpafmaaGreat
open Go.Av

end Go.Proofs.YtjdnhamngpafmaaGreat
namespace Go.Proofs.YtjdnhamngpafmaaGreat
open Go.Av
section
variable {u:bY} (a8:u.fit) (hc:gD u=0) (hm:∀f∈u.fns,f.blocks.length+(spM f).news.length<=128)
include a8 hc hm
end
end Go.Proofs.YtjdnhamngpafmaaGreat
namespace Go.Proofs.YtjdnhamngpafmaaGreat
open Go.Av
section
variable {g:Func} {sp:Int} {k n m:Nat}
end
end Go.Proofs.YtjdnhamngpafmaaGreat
namespace Go.Proofs.YtjdnhamngpafmaaGreat
open Go.Av
section
variable {V:Type}
end
end Go.Proofs.YtjdnhamngpafmaaGreat
namespace Go.Proofs.YtjdnhamngpafmaaGreat
open Go.Av
section
variable (u v:bY) (D:Int->Int->Prop) (pre post:Int->Int->List Ins) (c:Int)
end
section
variable {u v:bY} {D:Int->Int->Prop} {pre post:Int->Int->List Ins} {c:Int}
theorem Py(u:bY){m:Mach}{f:Fr}{r:List Fr}(h:m.frames=f::r):Mach.step u m=match (ax (aL u f.fn) f.blk).ins[f.pos]? with
  | none=>m.finish u f (ax (aL u f.fn) f.blk).term
  | some i=>(m.bu { f with pos:=f.pos+1 }).act u { f with pos:=f.pos+1 } i (cB f.vals i.args):=by
 unfold Mach.step;rw[h];rfl
end
end Go.Proofs.YtjdnhamngpafmaaGreat
namespace Go.Proofs.YtjdnhamngpafmaaGreat
open Go.Av
section
variable {u v:bY} {D:Int->Int->Prop} {pre post:Int->Int->List Ins} {c:Int}
theorem IQ{u:bY}(hu:gd u){fuel:Int}(h0:0<=fuel)(h1:fuel<=2 ^ 39):bR u ((Mach.start fuel).enter u u.main [] 0):=by
 have hs:bR u { Mach.start fuel with over:=true } :=
  ⟨by simp[Mach.start],by simp[Mach.start],h0,by simp[Mach.start];omega,by simp[Mach.start],by simp[Mach.start],by simp[Mach.start],by simp[Mach.start,fU],by simp[Mach.start],by simp⟩
 have h:=hs.enter hu (by simp) (by simp[Mach.start];omega) hu.main (args:=[]) (by simp) 0;exact⟨fun f hf=>(h.frames f hf).of_heap (by rfl),fun a ha=>by simp[Mach.start,Mach.enter]at ha,h.left,h.depth,h.out,h.words,h.fin,h.val,h.done,fun _=>⟨by simp[Mach.enter],rfl⟩⟩
end
end Go.Proofs.YtjdnhamngpafmaaGreat
namespace Go.Proofs.YtjdnhamngpafmaaGreat
open Go.Av
theorem BM{O:List aj}(bG:∀o∈O,o.upto O.length)(l:List Bool)(hl:l≠[])(KO:l.length<=2 ^ 40) :
  bd Tryz.prog 127 O [.aC 1 (l.map eB) .nn] (fun r O'=>r=.ms O.length 0 l.length l.length∧O'=O++[.cells (l.map eB)]):=by
 have gl:O.length<=O.length+1:=by omega
 have QY:¬l.length=0:=fun e=>hl (List.length_eq_zero_iff.1 e);have hc:=BP l;have hs:=Ht l;have eH:(O++[aj.cells (l.map eB)]).take (O.length+1)=O++[aj.cells (l.map eB)]:=List.take_of_length_le (by simp);have uO:∀o∈O++[aj.cells (l.map eB)],o.upto (O.length+1):=j0 (fun o ho=>aj.cj (by omega) (bG o ho)) (fi _ _);refine dy hT true (O.length+1) Tryz.func127 rfl (by kernel_rfl) (by simp[Tryz.ntmps127]) (by assumption) ?_;show cc Tryz.prog _ _ _ ⟨8,_,_⟩;dsimp only[Tmp,TypeId,slotsOf];refine aA (ah ?_);refine bX (ah ?_);refine cr rfl ?_;refine cd ?_;refine zm1 ?_;simp -dsimp only[simprocAttr,↓aa,zp,hc,hs]
 repeat(refine⟨by omega,?_⟩)
 refine ah ?_;refine aq ?_;simp -dsimp only[simprocAttr,↓aa,zp,zr,Tryz.results127,eH];exact⟨uO,by omega⟩
theorem BX(l m:List Bool):bD Tryz.prog 105 [.aC 1 (l.map eB) .sh,.aC 1 (m.map eB) .sh] (.v (.bool (decide (l=m)))):=by
 by_cases hlen:l.length=m.length
 ·have ll:decide ((l.length:Int)=m.length)=true:=decide_eq_true (by omega);obtain⟨R,hR⟩:∃R,R=decide (l=m):=⟨_,rfl⟩
  rw[<-hR];refine zf true 0 Tryz.func105 Tryz.ntmps105 ?_;dsimp only[Tmp,TypeId,slotsOf];refine aA (ah ?_);refine gg 0 rfl (fun KO=>?_);simp only[List.length_map]at KO;refine c9 ?_;simp -dsimp only[simprocAttr,↓aa,zp,ll];refine ah ?_;apply aP rfl<;>intro h
  ·cases h
  refine cd ?_;refine bX (ah ?_);refine ai (aO (ι:={k:Nat // k<=l.length∧R=decide (l.drop k=m.drop k)}) (fun k=>⟨26,[(0,.aC 1 (l.map eB) .sh),(1,.aC 1 (m.map eB) .sh),(4,.v (.bool false)),(12,aI l.length),(13,aI k.1)],[]⟩) (fun k=>l.length-k.1) ⟨0,by omega,hR⟩ ?_ ?_)
  ·refine zq rfl ?_ ?_;simp -dsimp only[simprocAttr,↓aa,zp,zc];rfl
  rintro⟨k,hk,dw⟩;refine aA (ah ?_);apply iz rfl<;>intro h
  ·refine cd ?_;have bg:k<l.length:=by simpa using h
   obtain⟨a,ha⟩:∃a,l[k]?=some a:=⟨l[k],by simp[bg]⟩
   obtain⟨b,hb⟩:∃b,m[k]?=some b:=⟨m[k]'(by omega),List.getElem?_eq_getElem _⟩
   rw[bP ha,bP hb]at dw;simp only[List.cons.injEq,Bool.decide_and]at dw;refine aJ (ai ?_);refine aA (ah ?_);refine aS ?_;simp -dsimp only[simprocAttr,↓aa,zp,ha,hb,eB];refine⟨Tryz.underlying4,?_⟩;refine⟨ob (by kernel_rfl),?_⟩;refine ah ?_;apply aP rfl<;>intro h
   ·refine aA (ah ?_);refine aq ?_;simp -dsimp only[simprocAttr,↓aa,zp,zr,Tryz.results105];rw[dw,decide_eq_false (show ¬a=b by simpa using h)];rfl
   refine la ?_;rw[decide_eq_true (show a=b by simpa using h),Bool.true_and]at dw;refine cT ?_
   repeat(refine⟨by omega,?_⟩)
   refine fK ?_;refine⟨⟨k+1,bg,dw⟩,by simp;omega,?_⟩;refine zq rfl ?_ ?_;simp -dsimp only[simprocAttr,↓aa,zp,zc]
   ·exact Sub.int (by simp)
   rfl
  refine aM ?_;simp -dsimp only[bS,ne_eq,Nat.reduceEqDiff,reduceCtorEq];have gl:k=l.length:=by simp at h;omega
  subst gl;rw[List.drop_length,hlen,List.drop_length]at dw;refine aA (ah ?_);refine aq ?_;simp -dsimp only[simprocAttr,↓aa,zp,zr,Tryz.results105];rw[dw];rfl
 have ll:decide ((l.length:Int)=m.length)=false:=decide_eq_false (by omega);rw[decide_eq_false (fun e=>hlen (by rw[e]))];refine zf true 0 Tryz.func105 Tryz.ntmps105 ?_;dsimp only[Tmp,TypeId,slotsOf];refine aA (ah ?_);refine c9 ?_;simp -dsimp only[simprocAttr,↓aa,zp,ll];refine ah ?_;refine cH rfl ?_;refine aA (ah ?_);refine aq ?_;simp -dsimp only[simprocAttr,↓aa,zp,zr,Tryz.results105]
def G9(many:Nat)(v:Int):Prop:=0<=v∧v<many
def Hs(l:List Bool)(v:Nat):Prop:=l[v]?=some true
theorem Hs.lt{l:List Bool}{v:Nat}(h:Hs l v):v<l.length:=(List.getElem?_eq_some_iff.1 h).1
theorem wk{l:List Bool}{j v:Nat}{b:Bool}:Hs (l.set j b) v↔(v=j∧b=true∧v<l.length)∨(v≠j∧Hs l v):=by
 unfold Hs;rw[List.getElem?_set];by_cases e:j=v
 ·subst e;by_cases h:j<l.length
  ·simp[h]
  simp[h]
 rw[if_neg e];have:v≠j:=fun q=>e q.symm;simp[this]
theorem EY{l:List Bool}{v w:Nat}{b:Bool}{x:Int}(hx:x.toNat=v):Hs (lO l x b) w↔(w=v∧b=true∧w<l.length)∨(w≠v∧Hs l w):=by
 rw[lO,hx,wk]
theorem sS:∀(vs:List Int) (l:List Bool) (w:Nat),Hs (kJ l vs) w↔Hs l w∨(w<l.length∧∃a∈vs,w=a.toNat)
 | [],l,w=>by simp[kJ]
 | v::r,l,w=>by
  have ih:=sS r (lO l v true) w;rw[lx,EY rfl]at ih;have e:kJ l (v::r)=kJ (lO l v true) r:=rfl;rw[e,ih];constructor
  ·rintro((⟨h1,_,h2⟩|⟨_,h1⟩)|⟨h1,a,h2,h3⟩)
   ·exact .inr ⟨h2,v,by simp,h1⟩
   ·exact .inl h1
   exact .inr ⟨h1,a,by simp[h2],h3⟩
  rintro(h|⟨h1,a,h2,h3⟩)
  ·by_cases q:w=v.toNat
   ·exact .inl (.inl ⟨q,rfl,h.lt⟩)
   exact .inl (.inr ⟨q,h⟩)
  rcases List.mem_cons.1 h2 with q|q
  ·subst q;exact .inl (.inl ⟨h3,rfl,h1⟩)
  exact .inr ⟨h1,a,q,h3⟩
theorem rN(i:Ins)(s:List Bool)(w:Nat):Hs (lh i s) w↔(w≠i.to.toNat∧Hs s w)∨(w<s.length∧∃a∈i.args,w=a.toNat):=by
 rw[lh,sS,lx,EY rfl];simp
theorem Cj(ps:List Int):∀(S:List Bool) (v:Nat) (out:List Bool) (w:Nat),Hs (nX ps v S out) w↔Hs out w∨(w<out.length∧oH ps w=false∧∃j,Hs S j∧w=v+j)
 | [],v,out,w=>by simp[nX,Hs]
 | is::r,v,out,w=>by
  have ih:=Cj ps r (v+1) (if is&&!oH ps v then out.set v true else out) w;have hl:(if is&&!oH ps v then out.set v true else out).length=out.length:=by split<;>simp
  rw[nX,ih,hl];constructor
  ·rintro(h|⟨h1,h2,j,h3,h4⟩)
   ·split at h
    ·rename_i hc;rcases wk.1 h with⟨h1,_,h2⟩|⟨_,h1⟩
     ·simp only[Bool.and_eq_true,Bool.not_eq_true']at hc;subst h1;exact .inr ⟨h2,hc.2,0,by simp[Hs,hc.1],by omega⟩
     exact .inl h1
    exact .inl h
   exact .inr ⟨h1,h2,j+1,by simpa[Hs]using h3,by omega⟩
  rintro(h|⟨h1,h2,j,h3,h4⟩)
  ·refine .inl ?_;split
   ·by_cases q:w=v
    ·exact wk.2 (.inl ⟨q,rfl,h.lt⟩)
    exact wk.2 (.inr ⟨q,h⟩)
   exact h
  cases j with
  | zero =>
   have h3':is=true:=by simpa[Hs]using h3
   have Zr:w=v:=by omega
   subst Zr;refine .inl ?_;rw[if_pos (by simp[h3',h2])];exact wk.2 (.inl ⟨rfl,rfl,h1⟩)
  | succ j=>exact .inr ⟨h1,h2,j,by simpa[Hs]using h3,by omega⟩
theorem wi(f:Func)(first:List (List Bool)):∀(l:List Edge) (out:List Bool) (w:Nat),Hs (l.foldl (kO f first) out) w↔Hs out w∨(w<out.length∧∃e∈l,Hs (cq first e.block) w∧oH (ax f e.block).params w=false)
 | [],out,w=>by simp
 | e::r,out,w=>by
  have ih:=wi f first r (kO f first out e) w
  rw[List.foldl_cons,ih];rw[show(kO f first out e).length=out.length from pL ..];unfold kO;rw[Cj];constructor
  ·rintro((h|⟨h1,h2,j,h3,h4⟩)|⟨h1,x,h2,h3,h4⟩)
   ·exact .inl h
   ·have:w=j:=by omega
    subst this;exact .inr ⟨h1,e,by simp,h3,h2⟩
   exact .inr ⟨h1,x,by simp[h2],h3,h4⟩
  rintro(h|⟨h1,x,h2,h3,h4⟩)
  ·exact .inl (.inl h)
  rcases List.mem_cons.1 h2 with q|q
  ·subst q;exact .inl (.inr ⟨h1,h4,w,h3,by omega⟩)
  exact .inr ⟨h1,x,q,h3,h4⟩
theorem Ch:∀(l:List Edge) (out:List Bool) (w:Nat),Hs (l.foldl (fun o e=>kJ o e.args) out) w↔Hs out w∨(w<out.length∧∃e∈l,∃a∈e.args,w=a.toNat)
 | [],out,w=>by simp
 | e::r,out,w=>by
  have ih:=Ch r (kJ out e.args) w;rw[List.foldl_cons,ih,nG,sS];constructor
  ·rintro((h|⟨h1,h2⟩)|⟨h1,x,h2,h3⟩)
   ·exact .inl h
   ·exact .inr ⟨h1,e,by simp,h2⟩
   exact .inr ⟨h1,x,by simp[h2],h3⟩
  rintro(h|⟨h1,x,h2,h3⟩)
  ·exact .inl (.inl h)
  rcases List.mem_cons.1 h2 with q|q
  ·subst q;exact .inl (.inr ⟨h1,h3⟩)
  exact .inr ⟨h1,x,q,h3⟩
theorem wh{n w:Nat}:¬Hs (List.replicate n false) w:=by
 unfold Hs;rw[List.getElem?_replicate];split<;>simp
theorem wj(f:Func)(many:Nat)(first:List (List Bool))(t:Term)(w:Nat):Hs (lW f many first t) w↔w<many∧((∃e∈t.to,Hs (cq first e.block) w∧oH (ax f e.block).params w=false)∨(dh t=true∧w=t.arg.toNat)∨∃e∈t.to,∃a∈e.args,w=a.toNat):=by
 have hl:(t.to.foldl (kO f first) (List.replicate many false)).length=many:=by rw[pJ,List.length_replicate]
 rw[lW,yP,Ch];have key:Hs (if dh t then lO (t.to.foldl (kO f first) (List.replicate many false)) t.arg true else t.to.foldl (kO f first) (List.replicate many false)) w↔w<many∧((∃e∈t.to,Hs (cq first e.block) w∧oH (ax f e.block).params w=false)∨(dh t=true∧w=t.arg.toNat)):=by
  split
  ·rename_i hu;rw[EY rfl,wi,List.length_replicate,hl];constructor
   ·rintro(⟨h1,_,h2⟩|⟨_,h|⟨h1,h2⟩⟩)
    ·exact⟨h2,.inr ⟨hu,h1⟩⟩
    ·exact absurd h wh
    exact⟨h1,.inl h2⟩
   rintro⟨h1,h2|⟨_,h2⟩⟩
   ·by_cases q:w=t.arg.toNat
    ·exact .inl ⟨q,rfl,h1⟩
    exact .inr ⟨q,.inr ⟨h1,h2⟩⟩
   exact .inl ⟨h2,rfl,h1⟩
  rename_i hu;rw[wi,List.length_replicate];constructor
  ·rintro(h|⟨h1,h2⟩)
   ·exact absurd h wh
   exact⟨h1,.inl h2⟩
  rintro⟨h1,h2|⟨q,_⟩⟩
  ·exact .inr ⟨h1,h2⟩
  exact absurd q hu
 have Bi:(if dh t then lO (t.to.foldl (kO f first) (List.replicate many false)) t.arg true else t.to.foldl (kO f first) (List.replicate many false)).length=many:=by
  split
  ·rw[lx,hl]
  exact hl
 rw[key,Bi];constructor
 ·rintro(⟨h1,h2|h2⟩|⟨h1,h2⟩)
  ·exact⟨h1,.inl h2⟩
  ·exact⟨h1,.inr (.inl h2)⟩
  exact⟨h1,.inr (.inr h2)⟩
 rintro⟨h1,h2|h2|h2⟩
 ·exact .inl ⟨h1,.inl h2⟩
 ·exact .inl ⟨h1,.inr h2⟩
 exact .inr ⟨h1,h2⟩
def NA(a b:List Bool):Prop:=∀v,Hs a v->Hs b v
theorem JV:∀(a b:List Bool),a.length=b.length->NA a b->a.countP id<=b.countP id∧(a≠b->a.countP id<b.countP id)
 | [],[],_,_=>by simp
 | [],_::_,h,_=>by simp at h
 | _::_,[],h,_=>by simp at h
 | x::a,y::b,hl,h=>by
  have ih:=JV a b (by simpa using hl) (fun v hv=>by
   have:=h (v+1) (by simpa[Hs]using hv);simpa[Hs]using this)
  have h0:=h 0;simp only[Hs,List.getElem?_cons_zero,Option.some.injEq]at h0;rw[List.countP_cons,List.countP_cons];cases x<;>cases y<;>simp at h0 ⊢
  ·exact ih
  ·omega
  exact ih
theorem vi:∀(l:List Ins) {a b:List Bool},a.length=b.length->NA a b->NA (fM l a) (fM l b)
 | [],_,_,_,h=>h
 | i::r,a,b,hl,h=>by
  have ih:=vi r hl h;have Bi:(fM r a).length=(fM r b).length:=by rw[mu,mu,hl]
  intro v hv;have e:∀s,fM (i::r) s=lh i (fM r s):=fun s=>rfl;rw[e,rN]at hv;rw[e,rN];rcases hv with⟨h1,h2⟩|⟨h1,h2⟩
  ·exact .inl ⟨h1,ih v h2⟩
  exact .inr ⟨by omega,h2⟩
theorem E8{f:Func}{many:Nat}{A B:List (List Bool)}(h:∀k,NA (cq A k) (cq B k))(t:Term):NA (lW f many A t) (lW f many B t):=fun v hv=>by
 rw[wj]at hv ⊢;obtain⟨h1,h2⟩:=hv;refine⟨h1,?_⟩;rcases h2 with⟨e,he,h3,h4⟩|h2
 ·exact .inl ⟨e,he,h _ v h3,h4⟩
 exact .inr h2
def mz(g:Func)(many:Nat)(N:List (List Bool))(k:Int):List Bool:=fM (ax g k).ins (lW g many N (ax g k).term)
structure Ng where
 N:List (List Bool)
 again:Bool
def jr(g:Func)(many:Nat)(k:Int)(S:Ng):Ng:=if mz g many S.N k=cq S.N k then S else⟨S.N.set k.toNat (mz g many S.N k),true⟩
def CM(g:Func)(many:Nat)(l:List Int)(S:Ng):Ng:=l.foldr (jr g many) S
def Jk(g:Func)(many:Nat)(ord:List Int):Nat->Ng->Ng
 | 0,S=>S
 | q+1,S=>if S.again=true then Jk g many ord q (CM g many ord ⟨S.N,false⟩)else S
def Pa(n many:Nat):Ng:=⟨List.replicate n (List.replicate many false),true⟩
def rS(g:Func)(many:Nat)(ord:List Int):List (List Bool):=(Jk g many ord 700000 (Pa g.blocks.length many)).N
def Ng.weight(many:Nat)(S:Ng):Nat:=(S.N.map fun l=>many-l.countP id).sum
structure uZ(g:Func)(many:Nat)(ord:List Int)(S:Ng):Prop where
 len:S.N.length=g.blocks.length
 sz:∀l∈S.N,l.length=many
 low:∀k∈ord,NA (cq S.N k) (mz g many S.N k)
theorem JA(g:Func)(many:Nat)(N:List (List Bool))(k:Int):(mz g many N k).length=many:=by
 unfold mz;rw[mu,pK]
theorem Hf{g:Func}{many:Nat}{A B:List (List Bool)}(h:∀k,NA (cq A k) (cq B k))(k:Int):NA (mz g many A k) (mz g many B k) :=
 vi _ (by rw[pK,pK]) (E8 h _)
theorem tX{α:Type}{f:α->Nat}:∀{l:List α} {i:Nat} {x y:α},l[i]?=some x->((l.set i y).map f).sum+f x=(l.map f).sum+f y
 | a::r,0,x,y,h=>by
  obtain rfl:a=x:=by simpa using h
  simp only[List.set_cons_zero,List.map_cons,List.sum_cons];omega
 | a::r,i+1,x,y,h=>by
  have:=tX (f:=f) (l:=r) (i:=i) (x:=x) (y:=y) (by simpa using h);simp only[List.set_cons_succ,List.map_cons,List.sum_cons];omega
theorem yZ{g:Func}{many:Nat}{ord:List Int}{S:Ng}(h:uZ g many ord S){k:Int}(hk:k∈ord)(h0:0<=k)(h1:k<g.blocks.length) :
  uZ g many ord (jr g many k S)∧(jr g many k S).weight many<=S.weight many∧((jr g many k S).again=true->S.again=true∨(jr g many k S).weight many<S.weight many):=by
 unfold jr;split
 ·exact⟨h,Nat.le_refl _,fun q=>.inl q⟩
 rename_i ct;obtain⟨GW,ho⟩:∃GW,S.N[k.toNat]?=some GW:=⟨S.N[k.toNat]'(by rw[h.len];omega),List.getElem?_eq_getElem _⟩
 have hof:cq S.N k=GW:=by unfold cq;rw[ho];rfl
 obtain⟨nw,KU⟩:∃nw,nw=mz g many S.N k:=⟨_,rfl⟩
 have Ag:=h.low k hk;rw[hof]at ct Ag;rw[<-KU]at ct Ag ⊢;have ET:nw.length=many:=by rw[KU,JA]
 have HW:GW.length=many:=h.sz GW (List.mem_of_getElem? ho);have Gz:=I ho;have Yd:∀j,NA (cq S.N j) (cq (S.N.set k.toNat nw) j):=fun j=>by
  unfold cq;rw[List.getElem?_set];by_cases e:k.toNat=j.toNat
  ·rw[if_pos e,if_pos Gz,<-e,ho];exact Ag
  rw[if_neg e];exact fun v q=>q
 have hc:=JV GW nw (by omega) Ag;have bg:=hc.2 (fun e=>ct e.symm);have gK:=List.countP_le_length (p:=id) (l:=nw);have hs:=tX (f:=fun l:List Bool=>many-l.countP id) (y:=nw) ho;have hw:(⟨S.N.set k.toNat nw,true⟩:Ng).weight many<S.weight many:=by
  unfold Ng.weight;simp only at hs ⊢;omega
 refine⟨⟨by rw[List.length_set,h.len],fun l hl=>?_,fun j hj=>?_⟩,Nat.le_of_lt hw,fun _=>.inr hw⟩
 ·rcases List.mem_or_eq_of_mem_set hl with q|q
  ·exact h.sz l q
  rw[q,ET]
 have hm:=Hf (g:=g) (many:=many) Yd j;by_cases e:k.toNat=j.toNat
 ·have TM:cq (S.N.set k.toNat nw) j=nw:=by
   unfold cq;rw[<-e,List.getElem?_set_self Gz];rfl
  by_cases e2:k=j
  ·subst e2;simp only;rw[TM];intro v hv;rw[KU]at hv;exact hm v hv
  have EO:=h.low j hj;simp only;rw[TM];have hjo:cq S.N j=GW:=by
   unfold cq;rw[<-e,ho];rfl
  have hb:mz g many S.N j=mz g many S.N k:=by
   unfold mz ax;rw[e]
  intro v hv;refine hm v ?_;rw[hb,<-KU];exact hv
 have TM:cq (S.N.set k.toNat nw) j=cq S.N j:=by
  unfold cq;rw[List.getElem?_set_ne e]
 simp only;rw[TM];intro v hv;exact hm v (h.low j hj v hv)
theorem Aw{g:Func}{many:Nat}{ord:List Int}:∀(l:List Int) {S:Ng},uZ g many ord S->(∀k∈l,k∈ord∧0<=k∧k<g.blocks.length) ->
  uZ g many ord (CM g many l S)∧(CM g many l S).weight many<=S.weight many∧((CM g many l S).again=true->S.again=true∨(CM g many l S).weight many<S.weight many)
 | [],S,h,_=>⟨h,Nat.le_refl _,fun q=>.inl q⟩
 | k::r,S,h,hl=>by
  obtain⟨h1,h2,h3⟩:=Aw r h fun x hx=>hl x (List.mem_cons_of_mem _ hx);obtain⟨k1,k2,k3⟩:=hl k List.mem_cons_self;obtain⟨q1,q2,q3⟩:=yZ h1 k1 k2 k3;have e:CM g many (k::r) S=jr g many k (CM g many r S):=rfl;rw[e];refine⟨q1,by omega,fun q=>?_⟩;rcases q3 q with p|p
  ·rcases h3 p with p|p
   ·exact .inl p
   exact .inr (by omega)
  exact .inr (by omega)
theorem Fg(g:Func)(many:Nat)(ord:List Int):uZ g many ord (Pa g.blocks.length many):=by
 refine⟨by simp[Pa],fun l hl=>by rw[(List.mem_replicate.1 hl).2];simp,fun k _ v hv=>?_⟩;unfold cq Pa at hv;simp only[List.getElem?_replicate]at hv;split at hv
 ·exact absurd hv wh
 simp[Hs]at hv
theorem wB(n many:Nat):(Pa n many).weight many<=n*many:=by
 unfold Ng.weight Pa;rw[List.map_replicate,List.sum_replicate_nat];exact Nat.mul_le_mul_left _ (Nat.sub_le _ _)
theorem CL{g:Func}{many:Nat}{ord:List Int}{S:Ng}(h:S.again=false):∀n,Jk g many ord n S=S
 | 0=>rfl
 | n+1=>by rw[Jk,h];rfl
theorem Lp{g:Func}{many:Nat}{ord:List Int}(ho:∀k∈ord,0<=k∧k<g.blocks.length):∀(n:Nat) {S:Ng},uZ g many ord S->uZ g many ord (Jk g many ord n S)
 | 0,_,h=>h
 | n+1,S,h=>by
  rw[Jk];split
  ·exact Lp ho n (Aw ord (S:=⟨S.N,false⟩) ⟨h.len,h.sz,h.low⟩ fun k hk=>⟨hk,ho k hk⟩).1
  exact h
theorem CI{g:Func}{many:Nat}{ord:List Int}(ho:∀k∈ord,0<=k∧k<g.blocks.length):(rS g many ord).length=g.blocks.length∧∀l∈rS g many ord,l.length=many:=by
 have:=Lp ho 700000 (Fg g many ord);exact⟨this.len,this.sz⟩
theorem Bt(b:Block)(s:List Bool)(many:Nat)(mW:s.length=many)(mq:0<many)(Nb:many<=2 ^ 20)(xK:b.ins.length<=2 ^ 40)(tD:∀i∈b.ins,G9 many i.to∧(∀a∈i.args,G9 many a)∧i.args.length<=2 ^ 40)(ha:dh b.term=true->G9 many b.term.arg) :
  bD Tryz.prog 104 [b.enc,.aC 1 (s.map eB) .nn] (.aC 1 ((fM b.ins (if dh b.term then lO s b.term.arg true else s)).map eB) .sh):=by
 obtain⟨s1,wg⟩:∃s1,s1=if dh b.term then lO s b.term.arg true else s:=⟨_,rfl⟩
 rw[<-wg];have YH:s1.length=many:=by
  rw[wg];split
  ·rw[lx,mW]
  exact mW
 obtain⟨R,hR⟩:∃R,R=fM b.ins s1:=⟨_,rfl⟩
 rw[<-hR];have ct:s≠[]:=fun e=>by rw[e]at mW;simp at mW;omega
 have gK:=BM (O:=[.gone]) (by simp[aj.upto]) s ct (by omega);rw[mW]at gK;obtain⟨uk,OT⟩:∃uk,uk=dh b.term:=⟨_,rfl⟩
 rw[<-OT]at wg ha;refine zf true 0 Tryz.func104 Tryz.ntmps104 ?_;dsimp only[Tmp,TypeId,slotsOf];refine aA (ah ?_);refine aD 2 0 (.ip none [aK b.params,bf b.ins,aI b.term.kind,aI b.term.arg,aI b.term.n,aK b.term.cases,aH b.term.to]) rfl (by simp[aj.aF]) trivial rfl ?_ ?_;rotate_left;simp -dsimp only[simprocAttr,↓aa,zp];rotate_left
 ·exact bQ.mp rfl rfl
 refine aA ?_;refine .inr (.inl ⟨_,_,gK,.inl (ao (zj ?_))⟩);refine ah ?_;refine gI (⟨58,[(2,.ip none [aK b.params,bf b.ins,aI b.term.kind,aI b.term.arg,aI b.term.n,aK b.term.cases,aH b.term.to]),(5,.ms 1 0 many many)],[.gone,.cells (s1.map eB)]⟩) ?_ ?_
 ·by_cases k1:b.term.kind=1
  ·have d1:decide (b.term.kind=1)=true:=decide_eq_true k1;have hu:uk=false:=by rw[OT];simp[dh,k1]
   rw[hu,if_neg (by decide)]at wg;subst wg;refine aS ?_;simp -dsimp only[simprocAttr,↓aa,zp,d1];refine ah ?_;refine cr rfl ?_;refine a6 ?_;show bc _ _;refine zq rfl ?_ ?_;simp -dsimp only[simprocAttr,↓aa,zp,zc]
   all_goals rfl
  have d1:decide (b.term.kind=1)=false:=decide_eq_false k1;by_cases k4:b.term.kind=4
  ·have d4:decide (b.term.kind=4)=true:=decide_eq_true k4;have hu:uk=false:=by rw[OT];simp[dh,k4]
   rw[hu,if_neg (by decide)]at wg;subst wg;refine aS ?_;simp -dsimp only[simprocAttr,↓aa,zp,d1,d4];refine ah ?_;refine cr rfl ?_;refine a6 ?_;show bc _ _;refine zq rfl ?_ ?_;simp -dsimp only[simprocAttr,↓aa,zp,zc]
   all_goals rfl
  have d4:decide (b.term.kind=4)=false:=decide_eq_false k4;have hu:uk=true:=by rw[OT];simp[dh,k1,k4]
  rw[hu,if_pos rfl]at wg;obtain⟨a0,a1⟩:=ha hu;have VM:s1=s.set b.term.arg.toNat true:=wg;have nW:=zS (l:=s) (j:=b.term.arg.toNat) (by omega) true;rw[<-VM]at nW;refine aS ?_;simp -dsimp only[simprocAttr,↓aa,zp,d1,d4];refine ah ?_;refine cH rfl ?_;refine fb hT hm ?_;simp -dsimp only[simprocAttr,↓aa,zp,Nat.mul_one,nW,mW]
  repeat(refine⟨by omega,?_⟩)
  refine ba ?_;show bc _ _;refine zq rfl ?_ ?_;simp -dsimp only[simprocAttr,↓aa,zp,zc]
  all_goals rfl
 refine bX ?_
 repeat(refine⟨by omega,?_⟩)
 refine ah ?_;refine ai (aO (ι:={x:Nat×List Bool // x.1<=b.ins.length∧x.2.length=many∧R=fM (b.ins.take x.1) x.2}) (fun x=>⟨58,[(2,.ip none [aK b.params,bf b.ins,aI b.term.kind,aI b.term.arg,aI b.term.n,aK b.term.cases,aH b.term.to]),(5,.ms 1 0 many many),(6,aI ((x.1.1:Int)-1))],[.gone,.cells (x.1.2.map eB)]⟩) (fun x=>x.1.1) ⟨(b.ins.length,s1),Nat.le_refl _,YH,by rw[List.take_length];exact hR⟩ ?_ ?_)
 ·refine zq rfl ?_ ?_;simp -dsimp only[simprocAttr,↓aa,zp,zc]
  all_goals rfl
 rintro⟨⟨n,t⟩,hn,jD,UI⟩;simp only at hn jD UI;refine bX (ah ?_);apply aP rfl<;>intro h
 ·refine cd ?_;obtain⟨n,rfl⟩:∃m,n=m+1:=⟨n-1,by have:=of_decide_eq_true h;omega⟩
  have bg:n<b.ins.length:=by omega
  obtain⟨i,hi⟩:∃i,b.ins[n]?=some i:=⟨b.ins[n],by simp[bg]⟩
  obtain⟨⟨hi0,Gv⟩,Yh,aak⟩:=tD i (List.mem_of_getElem? hi);have eH:b.ins.take (n+1)=b.ins.take n++[i]:=by rw[List.take_add_one,hi];rfl
  have UT:fM (b.ins.take n++[i]) t=fM (b.ins.take n) (lh i t):=by simp[fM]
  rw[eH,UT]at UI;obtain⟨j,hj⟩:∃j:Nat,i.to=(j:Int):=⟨i.to.toNat,by omega⟩
  have nW:=zS (l:=t) (j:=j) (by omega) false;have mH:((n+1:Nat):Int)-1=(n:Nat):=by omega
  obtain⟨T,Kw⟩:∃T,T=lh i t:=⟨_,rfl⟩
  have WN:T.length=many:=by rw[Kw,yg,jD]
  rw[<-Kw]at UI;have VM:lO t i.to false=t.set j false:=by simp[lO,hj]
  unfold lh kJ at Kw;rw[VM]at Kw;refine aJ (ai ?_);refine aS ?_;simp -dsimp only[simprocAttr,↓aa,zp,mH,hi,hj,Int.toNat_natCast,Nat.mul_one,nW]
  repeat(refine⟨by omega,?_⟩)
  refine ah ?_;refine aS ?_;simp -dsimp only[simprocAttr,↓aa,zp,mH,hi]
  repeat(refine⟨by omega,?_⟩)
  refine ah ?_;refine ai (aO (ι:={y:Nat×List Bool // y.1<=i.args.length∧y.2.length=many∧T=(i.args.drop y.1).foldl (fun s v=>lO s v true) y.2}) (fun y=>⟨58,[(2,.ip none [aK b.params,bf b.ins,aI b.term.kind,aI b.term.arg,aI b.term.n,aK b.term.cases,aH b.term.to]),(5,.ms 1 0 many many),(6,aI (n:Nat)),(47,aK i.args),(48,aI i.args.length),(49,aI y.1.1)],[.gone,.cells (y.1.2.map eB)]⟩) (fun y=>i.args.length-y.1.1) ⟨(0,t.set j false),by simp,by simp[jD],Kw⟩ ?_ ?_)
  ·refine zq rfl ?_ ?_;simp -dsimp only[simprocAttr,↓aa,zp,zc,mH]
   all_goals rfl
  rintro⟨⟨v,cur⟩,hv,gK,Aj⟩;simp only at hv gK Aj;refine aA (ah ?_);apply iz rfl<;>intro h
  ·refine cd ?_;have Bj:v<i.args.length:=by simpa using h
   obtain⟨a,XP⟩:∃a,i.args[v]?=some a:=⟨i.args[v],by simp[Bj]⟩
   obtain⟨a0,a1⟩:=Yh a (List.mem_of_getElem? XP);obtain⟨q,rfl⟩:∃q:Nat,a=(q:Int):=⟨a.toNat,by omega⟩
   rw[bP XP,List.foldl_cons]at Aj;have VM:lO cur (q:Int) true=cur.set q true:=by simp[lO]
   rw[VM]at Aj;have nW:=zS (l:=cur) (j:=q) (by omega) true;refine aJ (ai ?_);refine aS ?_;simp -dsimp only[simprocAttr,↓aa,zp,XP];refine ah ?_;refine kC ?_;simp -dsimp only[simprocAttr,↓aa,zp,Int.toNat_natCast,Nat.mul_one,nW]
   repeat(refine⟨by omega,?_⟩)
   refine ah ?_;refine cT ?_
   repeat(refine⟨by omega,?_⟩)
   refine fK ?_;refine⟨⟨(v+1,cur.set q true),Bj,by simp[gK],Aj⟩,by simp;omega,?_⟩;refine zq rfl ?_ ?_;simp -dsimp only[simprocAttr,↓aa,zp,zc]
   ·exact Sub.int (by simp)
   rfl
  refine aM ?_;simp -dsimp only[bS,ne_eq,Nat.reduceEqDiff,reduceCtorEq];have OU:v=i.args.length:=by simp at h;omega
  subst OU;rw[List.drop_length,List.foldl_nil]at Aj;subst Aj;refine cT ?_
  repeat(refine⟨by omega,?_⟩)
  refine fK ?_;refine⟨⟨(n,T),by simp only;omega,WN,UI⟩,by simp,?_⟩;refine zq rfl ?_ ?_;simp -dsimp only[simprocAttr,↓aa,zp,zc]
  all_goals rfl
 refine aM ?_;simp -dsimp only[bS,ne_eq,Nat.reduceEqDiff,reduceCtorEq];have vX:n=0:=by have:=of_decide_eq_false h;omega
 subst vX;have hRt:R=t:=UI;subst hRt;refine aD 5 1 (o:=.cells (R.map eB)) (.aC 1 (R.map eB) .nn) rfl (by simp[aj.aF]) trivial rfl (yq rfl jD) ?_;simp -dsimp only[simprocAttr,↓aa,zp];refine aA (ah ?_);refine aq ?_;simp -dsimp only[simprocAttr,↓aa,zp,zr,Tryz.results104];exact fi _ _
end Go.Proofs.YtjdnhamngpafmaaGreat
namespace Go.Av

end Go.Av
namespace Go.Proofs.YtjdnhamngpafmaaGreat
open Go.Av
def uD{X:Type}(step:X->Nat->List Bool->X)(l:List Ins):Nat->X->List Bool->X
 | 0,x,s=>step x 0 s
 | n+1,x,s=>match l[n]? with
  | none=>x
  | some i=>uD step l n (step x (n+1) s) (lh i s)

structure T'(g:Func)(many:Nat):Prop where
 few:0<g.blocks.length∧g.blocks.length<=128
 M3:0<many∧many<=4096
 par:∀(k:Nat) b,g.blocks[k]?=some b->0<k->b.params=[]
 Fu:∀b∈g.blocks,b.params.length<=4096∧∀v∈b.params,G9 many v
 ins:∀b∈g.blocks,b.ins.length<=8192∧∀i∈b.ins,G9 many i.to∧(∀a∈i.args,G9 many a)∧i.args.length<=4096
 arg:∀b∈g.blocks,G9 many b.term.arg
 to:∀b∈g.blocks,b.term.to.length<=257∧∀e∈b.term.to,1<=e.block∧e.block<g.blocks.length∧e.args=[]
def eG(s:List Bool):ae:=.aC 1 (s.map eB) .sh
theorem jl(n:Nat)(l:List (List Bool)):aw n (l.map eG):=by
 rw[aV];intro x hx;obtain⟨s,_,rfl⟩:=List.mem_map.1 hx;exact⟨fi _ _,trivial⟩
theorem iD(n:Nat)(l:List (List Int)):aw n (l.map aK):=by
 rw[aV];intro x hx;obtain⟨s,_,rfl⟩:=List.mem_map.1 hx;exact⟨az _ _,trivial⟩
theorem sK(l:List (List Bool)):∀d∈l.map eG,d.scalar:=fun d hd=>by
 obtain⟨s,_,rfl⟩:=List.mem_map.1 hd;trivial
theorem NW(l:List (List Bool)):∀d∈l.map eG,d.cells.length=1:=fun d hd=>by
 obtain⟨s,_,rfl⟩:=List.mem_map.1 hd;rfl
theorem RN(l:List (List Bool)):(l.map eG).map ae.bk=au (l.map eG):=by
 induction l with
 | nil=>rfl
 | cons a r ih =>
  simp only[List.map_cons,au,List.flatMap_cons]at ih ⊢;rw[ih];rfl
theorem J6{O:List aj}{rows:List (List Bool)}{k:Nat}(hk:k<rows.length){s:List Bool}{o:nR}:∀(j:Nat) (c d:ae),(bo (rows.map eG) k [.aC 1 (s.map eB) o])[j]?=some c->((rows.set k s).map eG)[j]?=some d->Sub O c d:=fun j c d hc hd=>by
 rw[cG _ (by simpa using hk),List.getElem?_set]at hc;rw[List.getElem?_map,List.getElem?_set]at hd;by_cases e:k=j
 ·rw[if_pos e,if_pos (by simpa using hk),Option.some.injEq]at hc;rw[if_pos e,if_pos (by simpa using hk),Option.map_some,Option.some.injEq]at hd;rw[<-hc,<-hd];exact Sub.sh rfl
 rw[if_neg e,List.getElem?_map]at hc;rw[if_neg e]at hd;rw[hc]at hd;rw[Option.some.injEq]at hd;rw[hd];exact Sub.refl _
theorem LL{α:Type}(z y:α)(k n:Nat)(h:k<n):(List.replicate k z++List.replicate (n-k) y).set k z=List.replicate (k+1) z++List.replicate (n-(k+1)) y:=by
 rw[show n-k=(n-(k+1))+1 by omega,List.replicate_succ (a:=y),List.set_append_right _ _ (by simp),List.length_replicate,Nat.sub_self,List.set_cons_zero,List.replicate_succ' (a:=z),List.append_assoc];rfl
theorem E7{t:Term}(h:∀e∈t.to,e.args=[])(o:List Bool):yP t o=if dh t then lO o t.arg true else o:=by
 unfold yP;generalize (if dh t then lO o t.arg true else o)=q;have:∀(l:List Edge),(∀e∈l,e.args=[])->l.foldl (fun o e=>kJ o e.args) q=q:=fun l=>by
  induction l with
  | nil=>exact fun _=>rfl
  | cons e r ih =>
   intro hl;rw[List.foldl_cons,hl e List.mem_cons_self];exact ih fun x hx=>hl x (List.mem_cons_of_mem _ hx)
 exact this t.to h
structure Nx where
 S:Ng
 q:Nat
theorem CK(g:Func)(ord:List Int)(inn:List (List Int))(many:Nat)(hw:T' g many)(ho:∀k∈ord,0<=k∧k<g.blocks.length)(HW:ord.length<=128)(xK:inn.length<=128) :
  bD Tryz.prog 72 [.agg [aI g.name,ay g.blocks,aK ord,.aC 1 (inn.map aK) .sh],aI many] (.aC 1 ((rS g many ord).map eG) .sh):=by
 obtain⟨vX,hn⟩:=hw.few;obtain⟨mq,Nb⟩:=hw.M3;obtain⟨R,hR⟩:∃R,R=rS g many ord:=⟨_,rfl⟩
 have ZH:R.length=g.blocks.length:=by rw[hR];exact(CI ho).1
 rw[<-hR];unfold rS at hR;obtain⟨N,hN⟩:∃N,N=g.blocks.length:=⟨_,rfl⟩
 have Oh:=Fg g many ord;have hW0:=wB N many;rw[<-hN]at vX hn hR Oh ZH;have dk:(List.replicate many (ae.v (.bool false)))=(List.replicate many false).map eB:=by simp[eB]
 obtain⟨z,hz⟩:∃z,z=List.replicate many false:=⟨_,rfl⟩
 rw[<-hz]at dk;have Al:z.length=many:=by rw[hz];simp
 have YC:∀(i:Nat) k,ord[i]?=some k->0<=k∧k<N:=fun i k h=>by rw[hN];exact ho k (List.mem_of_getElem? h)
 refine zf true 0 Tryz.func72 Tryz.ntmps72 ?_;dsimp only[Tmp,TypeId,slotsOf];refine aA (ah ?_);refine aD 2 0 (.ip none [aI g.name,ay g.blocks,aK ord,.aC 1 (inn.map aK) .sh]) rfl (by simp[aj.aF]) trivial rfl ?_ ?_;rotate_left;simp -dsimp only[simprocAttr,↓aa,zp];rotate_left
 ·exact bQ.mp rfl rfl
 refine aS ?_;simp -dsimp only[simprocAttr,↓aa,zp,<-hN,y0]
 repeat(refine⟨by omega,?_⟩)
 refine ah ?_;refine eN 1 ((List.replicate N ([]:List Bool)).map eG) rfl (by simp) (sK _) (fun j c d hc hd=>?_) ?_
 ·have h1:=(List.mem_replicate.1 (List.mem_of_getElem? hc)).2;rw[List.getElem?_map]at hd;cases hj:(List.replicate N ([]:List Bool))[j]? with
  | none=>rw[hj]at hd;cases hd
  | some x =>
   have h2:=(List.mem_replicate.1 (List.mem_of_getElem? hj)).2;rw[hj,Option.map_some,Option.some.injEq,h2]at hd;rw[h1,<-hd];exact Sub.sh rfl
 simp -dsimp only[simprocAttr,↓aa,zp];refine bX (ah ?_);refine ai (aO (ι:={k:Nat // k<=N}) (fun k=>⟨104,[(1,aI many),(2,.ip none [aI g.name,ay g.blocks,aK ord,.aC 1 (inn.map aK) .sh]),(5,.ms 1 0 N N),(22,aI N),(23,aI k.1)],[.gone,.cells ((List.replicate k.1 z++List.replicate (N-k.1) []).map eG)]⟩) (fun k=>N-k.1) ⟨0,Nat.zero_le _⟩ ?_ ?_)
 ·refine zq rfl ?_ ?_;simp -dsimp only[simprocAttr,↓aa,zp,zc]
  all_goals rfl
 rintro⟨k,hk⟩;refine aA (ah ?_);apply iz rfl<;>intro h
 ·refine cd ?_;have ER:k<N:=by simpa using h
  have fq:=LL z ([]:List Bool) k N ER;have yJ:(List.replicate k z++List.replicate (N-k) ([]:List Bool)).length=N:=by simp;omega
  generalize List.replicate k z++List.replicate (N-k) ([]:List Bool)=rows at *;refine aJ (ai ?_);refine aA (ah ?_);refine zv0 ?_;simp -dsimp only[simprocAttr,↓aa,zp,dk,yJ,Int.toNat_natCast,Nat.mul_one]
  repeat(refine⟨by omega,?_⟩)
  refine ah ?_;rw[show List.replicate many (([ae.v (Value.bool false)].getD 0 (ae.v (Value.bool false))).share)=z.map eB from dk];refine eN (cs:=bo (rows.map eG) k [.aC 1 (z.map eB) .ex]) 1 ((rows.set k z).map eG) rfl (by rw[cG _ (by rw[List.length_map];omega)];simp) (sK _) (J6 (by omega)) ?_;rw[fq];simp -dsimp only[simprocAttr,↓aa,zp];refine cT ?_
  repeat(refine⟨by omega,?_⟩)
  refine fK ?_;refine⟨⟨k+1,ER⟩,by simp;omega,?_⟩;refine zq rfl ?_ ?_;simp -dsimp only[simprocAttr,↓aa,zp,zc]
  ·exact Sub.int (by simp)
  rfl
 refine aM ?_;simp -dsimp only[bS,ne_eq,Nat.reduceEqDiff,reduceCtorEq];have Vo:k=N:=by have:=of_decide_eq_false h;omega
 subst Vo;rw[Nat.sub_self,List.replicate_zero,List.append_nil];have hSN:List.replicate k z=(Pa k many).N:=by rw[hz];rfl
 rw[hSN];have hfu:(Pa k many).weight many<700000:=by
  have:k*many<=128*4096:=Nat.mul_le_mul (by omega) Nb;omega
 refine bX (ah ?_);refine ai (aO (ι:={X:Nx // uZ g many ord X.S∧R=(Jk g many ord X.q X.S).N∧(X.S.again=true->X.S.weight many<X.q)}) (fun X=>⟨104,[(1,aI many),(2,.ip none [aI g.name,ay g.blocks,aK ord,.aC 1 (inn.map aK) .sh]),(5,.ms 1 0 k k),(7,.v (.bool X.1.S.again))],[.gone,.cells (X.1.S.N.map eG)]⟩) (fun X=>X.1.S.weight many+if X.1.S.again then 1 else 0) ⟨⟨Pa k many,700000⟩,Oh,hR,fun _=>hfu⟩ ?_ ?_)
 ·refine zq rfl ?_ ?_;simp -dsimp only[simprocAttr,↓aa,zp,zc]
  all_goals first|rfl|exact Sub.refl _
 rintro⟨⟨S,q⟩,HI,Og,SR⟩;simp only at HI Og SR;refine bX (ah ?_);apply aP rfl<;>intro h
 ·refine cd ?_;have mU:S.again=true:=h;have SR:=SR mU;obtain⟨q,rfl⟩:∃q',q=q'+1:=⟨q-1,by omega⟩
  have Kv:R=(Jk g many ord q (CM g many ord ⟨S.N,false⟩)).N:=by
   rw[Og,Jk,if_pos mU]
  have ZI:uZ g many ord ⟨S.N,false⟩:=⟨HI.len,HI.sz,HI.low⟩
  obtain⟨Xd,Xe,Ro⟩:=Aw ord ZI fun k hk=>⟨hk,ho k hk⟩
  obtain⟨S1,UJ⟩:∃S1,S1=CM g many ord ⟨S.N,false⟩:=⟨_,rfl⟩
  rw[<-UJ]at Kv Xd Xe Ro;have Xb:(⟨S.N,false⟩:Ng).weight many=S.weight many:=rfl;rw[Xb]at Xe Ro;refine ai ?_;refine aA (ah ?_);refine aA ?_
  repeat(refine⟨by omega,?_⟩)
  refine ah ?_;refine ai (aO (ι:={Y:Nx // Y.q<=ord.length∧uZ g many ord Y.S∧S1=CM g many (ord.take Y.q) Y.S}) (fun Y=>⟨104,[(1,aI many),(2,.ip none [aI g.name,ay g.blocks,aK ord,.aC 1 (inn.map aK) .sh]),(5,.ms 1 0 k k),(7,.v (.bool Y.1.S.again)),(8,aI ((Y.1.q:Int)-1))],[.gone,.cells (Y.1.S.N.map eG)]⟩) (fun Y=>Y.1.q) ⟨⟨⟨S.N,false⟩,ord.length⟩,Nat.le_refl _,ZI,by rw[List.take_length];exact UJ⟩ ?_ ?_)
  ·refine zq rfl ?_ ?_;simp -dsimp only[simprocAttr,↓aa,zp,zc]
   all_goals rfl
  rintro⟨⟨T,n⟩,tF,I9,EA⟩;simp only at tF I9 EA;refine bX (ah ?_);apply aP rfl<;>intro h
  ·refine cd ?_;obtain⟨n,rfl⟩:∃m,n=m+1:=⟨n-1,by have:=of_decide_eq_true h;omega⟩
   have bg:n<ord.length:=by omega
   obtain⟨o,W5⟩:∃o,ord[n]?=some o:=⟨ord[n],by simp[bg]⟩
   obtain⟨o0,o1⟩:=YC n o W5;have eH:ord.take (n+1)=ord.take n++[o]:=by rw[List.take_add_one,W5];rfl
   have Oi:S1=CM g many (ord.take n) (jr g many o T):=by
    rw[EA,eH];simp[CM]
   have mH:((n+1:Nat):Int)-1=(n:Nat):=by omega
   obtain⟨b,hb⟩:∃b,g.blocks[o.toNat]?=some b:=⟨g.blocks[o.toNat]'(by omega),List.getElem?_eq_getElem _⟩
   have mg:=List.mem_of_getElem? hb;have vT:ax g o=b:=by unfold ax;rw[hb];rfl
   obtain⟨t1,t2⟩:=hw.to b mg;obtain⟨i1,i2⟩:=hw.ins b mg;have R1:=hw.arg b mg;obtain⟨B,hB⟩:∃B,B=b.term.to.foldl (kO g T.N) z:=⟨_,rfl⟩
   have UD:B.length=many:=by rw[hB,pJ,Al]
   have XS:mz g many T.N o=fM b.ins (if dh b.term then lO B b.term.arg true else B):=by
    unfold mz lW;rw[vT,E7 (fun e he=>(t2 e he).2.2),<-hz,<-hB]
   have UT:=Bt b B many UD mq (by omega) (by omega) (fun i hi=>⟨(i2 i hi).1,(i2 i hi).2.1,by have:=(i2 i hi).2.2;omega⟩) (fun _=>R1);rw[<-XS]at UT;obtain⟨nw,KU⟩:∃nw,nw=mz g many T.N o:=⟨_,rfl⟩
   rw[<-KU]at UT;obtain⟨GW,hold⟩:∃GW,T.N[o.toNat]?=some GW:=⟨T.N[o.toNat]'(by rw[I9.len];omega),List.getElem?_eq_getElem _⟩
   have bL:jr g many o T=if nw=GW then T else⟨T.N.set o.toNat nw,true⟩:=by
    unfold jr cq;rw[hold,Option.getD_some,<-KU]
   have WN:=I9.len;have mW:=(yZ I9 (List.mem_of_getElem? W5) o0 (by omega)).1;refine aJ (ai ?_);refine aS ?_;simp -dsimp only[simprocAttr,↓aa,zp,mH,W5]
   repeat(refine⟨by omega,?_⟩)
   refine ah ?_;refine aS ?_;simp -dsimp only[simprocAttr,↓aa,zp,tA,dk]
   repeat(refine⟨by omega,?_⟩)
   refine ah ?_;refine c9 ?_;simp -dsimp only[simprocAttr,↓aa,zp,hb]
   repeat(refine⟨by omega,?_⟩)
   refine ah ?_;rw[<-hz];refine ai (aO (ι:={x:Nat×List Bool // x.1<=b.term.to.length∧x.2.length=many∧B=(b.term.to.drop x.1).foldl (kO g T.N) x.2}) (fun x=>⟨104,[(1,aI many),(2,.ip none [aI g.name,ay g.blocks,aK ord,.aC 1 (inn.map aK) .sh]),(5,.ms 1 0 k k),(7,.v (.bool T.again)),(8,aI (n:Nat)),(9,aI o),(10,.ms 2 0 many many),(55,aH b.term.to),(56,aI b.term.to.length),(57,aI x.1.1)],[.gone,.cells (T.N.map eG),.cells (x.1.2.map eB)]⟩) (fun x=>b.term.to.length-x.1.1) ⟨(0,z),Nat.zero_le _,Al,hB⟩ ?_ ?_)
   ·refine zq rfl ?_ ?_;simp -dsimp only[simprocAttr,↓aa,zp,zc,mH]
    all_goals rfl
   rintro⟨⟨w,cur⟩,hwl,gK,GF⟩;simp only at hwl gK GF;refine aA (ah ?_);apply iz rfl<;>intro h
   ·refine cd ?_;have KQ:w<b.term.to.length:=by simpa using h
    obtain⟨e,uL⟩:∃e,b.term.to[w]?=some e:=⟨b.term.to[w],by simp[KQ]⟩
    obtain⟨e1,e2,e3⟩:=t2 e (List.mem_of_getElem? uL);rw[bP uL,List.foldl_cons]at GF;obtain⟨S2,TF⟩:∃S2,T.N[e.block.toNat]?=some S2:=⟨T.N[e.block.toNat]'(by rw[WN];omega),List.getElem?_eq_getElem _⟩
    have aab:S2.length=many:=I9.sz S2 (List.mem_of_getElem? TF);obtain⟨c,hc⟩:∃c,g.blocks[e.block.toNat]?=some c:=⟨g.blocks[e.block.toNat]'(by omega),List.getElem?_eq_getElem _⟩
    have Sa:=hw.par _ c hc (by omega);have hlE:kO g T.N cur e=nX [] 0 S2 cur:=by
     unfold kO cq ax;rw[TF,hc,Option.getD_some,Option.getD_some,Sa]
    rw[hlE]at GF;have hSg:(T.N.map eG)[e.block.toNat]?=some (.aC 1 (S2.map eB) .sh):=by rw[List.getElem?_map,TF];rfl
    obtain⟨V,hV⟩:∃V,V=nX [] 0 S2 cur:=⟨_,rfl⟩
    have hVl:V.length=many:=by rw[hV,pL,gK]
    rw[<-hV]at GF;refine aJ (ai ?_);refine aS ?_;simp -dsimp only[simprocAttr,↓aa,zp,uL];refine ah ?_;refine aD 12 3 (.ip none [aI e.block,aK e.args]) rfl (by simp[aj.aF]) trivial rfl ?_ ?_;rotate_left;simp -dsimp only[simprocAttr,↓aa,zp];rotate_left
    ·exact bQ.mp rfl rfl
    refine bt 3 [(1,aI many),(2,.ip none [aI g.name,ay g.blocks,aK ord,.aC 1 (inn.map aK) .sh]),(5,.ms 1 0 k k),(7,.v (.bool T.again)),(8,aI (n:Nat)),(9,aI o),(10,.ms 2 0 many many),(55,aH b.term.to),(56,aI b.term.to.length),(57,aI w),(12,.ip none [aI e.block,aK e.args])] (by simp) (by omega) [.gone,.cells (T.N.map eG),.cells (cur.map eB)] ?_ ?_ ?_ ?_ ?_
    ·rfl
    ·simp[aj.upto,fi,jl]
    ·simp[fj,St.get,bF,bh,Go.Av.look,Sub.refl]
    ·simp[aj.upto,aw,ae.upto,az,Func.ag,Block.ag,Edge.ag,Ins.ag,iD]
    refine aS ?_;simp -dsimp only[simprocAttr,↓aa,zp,hSg,Nat.mul_one]
    repeat(refine⟨by omega,?_⟩)
    refine ah ?_;refine ai (aO (ι:={y:Nat×List Bool // y.1<=S2.length∧y.2.length=many∧V=nX [] y.1 (S2.drop y.1) y.2}) (fun y=>⟨104,[(1,aI many),(2,.ip none [aI g.name,ay g.blocks,aK ord,.aC 1 (inn.map aK) .sh]),(5,.ms 1 0 k k),(7,.v (.bool T.again)),(8,aI (n:Nat)),(9,aI o),(10,.ms 2 0 many many),(55,aH b.term.to),(56,aI b.term.to.length),(57,aI w),(65,.aC 1 (S2.map eB) .sh),(66,aI S2.length),(67,aI y.1.1)],[.gone,.cells (T.N.map eG),.cells (y.1.2.map eB)]⟩) (fun y=>S2.length-y.1.1) ⟨(0,cur),Nat.zero_le _,gK,hV⟩ ?_ ?_)
    ·refine zq rfl ?_ ?_;simp -dsimp only[simprocAttr,↓aa,zp,zc]
     all_goals rfl
    rintro⟨⟨v,c2⟩,hv,M5,Aj⟩;simp only at hv M5 Aj;refine aA (ah ?_);apply iz rfl<;>intro h
    ·refine cd ?_;have Bj:v<S2.length:=by simpa using h
     obtain⟨is,Sq⟩:∃is,S2[v]?=some is:=⟨S2[v],by simp[Bj]⟩
     obtain⟨u,hu⟩:∃u,c2[v]?=some u:=⟨c2[v]'(by omega),List.getElem?_eq_getElem _⟩
     have Yk:(S2.map eB)[v]?=some (.v (.bool is)):=by rw[List.getElem?_map,Sq];rfl
     have hug:(c2.map eB)[v]?=some (.v (.bool u)):=by rw[List.getElem?_map,hu];rfl
     have nW:=zS (l:=c2) (j:=v) (by omega) (u ||is);have ew:c2.set v (u ||is)=if(is&&!oH [] (v:Int))=true then c2.set v true else c2:=by
      have h0:oH [] (v:Int)=false:=rfl;rw[h0];cases is with
      | true=>simp
      | false =>
       simp only[Bool.or_false,Bool.false_and,Bool.false_eq_true,if_false];apply List.ext_getElem?;intro i;rw[List.getElem?_set];split
       ·rename_i q;subst q;rw[if_pos (by omega),hu]
       rfl
     rw[bP Sq,nX,<-ew]at Aj;refine aJ (ai ?_);refine aS ?_;simp -dsimp only[simprocAttr,↓aa,zp,Yk];refine ah ?_;cases u with
     | true =>
      rw[Bool.true_or]at Aj nW;refine kC ?_;simp -dsimp only[simprocAttr,↓aa,zp,hug,nW,M5,Int.toNat_natCast,Nat.mul_one]
      repeat(refine⟨by omega,?_⟩)
      refine ah ?_;refine cT ?_
      repeat(refine⟨by omega,?_⟩)
      refine fK ?_;refine⟨⟨(v+1,c2.set v true),Bj,by simp[M5],Aj⟩,by simp;omega,?_⟩;refine zq rfl ?_ ?_;simp -dsimp only[simprocAttr,↓aa,zp,zc]
      ·exact Sub.int (by simp)
      rfl
     | false =>
      rw[Bool.false_or]at Aj nW;refine kC ?_;simp -dsimp only[simprocAttr,↓aa,zp,hug,nW,M5,Int.toNat_natCast,Nat.mul_one]
      repeat(refine⟨by omega,?_⟩)
      refine ah ?_;refine cT ?_
      repeat(refine⟨by omega,?_⟩)
      refine fK ?_;refine⟨⟨(v+1,c2.set v is),Bj,by simp[M5],Aj⟩,by simp;omega,?_⟩;refine zq rfl ?_ ?_;simp -dsimp only[simprocAttr,↓aa,zp,zc]
      ·exact Sub.int (by simp)
      rfl
    refine aM ?_;simp -dsimp only[bS,ne_eq,Nat.reduceEqDiff,reduceCtorEq];have OU:S2.length<=v:=by simpa using h
    rw[List.drop_of_length_le OU,nX]at Aj;subst Aj;refine cT ?_
    repeat(refine⟨by omega,?_⟩)
    refine fK ?_;refine⟨⟨(w+1,V),KQ,hVl,GF⟩,by simp;omega,?_⟩;refine zq rfl ?_ ?_;simp -dsimp only[simprocAttr,↓aa,zp,zc]
    ·exact Sub.int (by simp)
    rfl
   refine aM ?_;simp -dsimp only[bS,ne_eq,Nat.reduceEqDiff,reduceCtorEq];have Ri:b.term.to.length<=w:=by simpa using h
   rw[List.drop_of_length_le Ri,List.foldl_nil]at GF;subst GF;refine aD 10 2 (o:=.cells (B.map eB)) (.aC 1 (B.map eB) .nn) rfl (by simp[aj.aF]) trivial rfl (yq rfl UD) ?_;simp -dsimp only[simprocAttr,↓aa,zp];have hog:(T.N.map eG)[o.toNat]?=some (.aC 1 (GW.map eB) .sh):=by rw[List.getElem?_map,hold];rfl
   have heq:=BX nw GW;have Kz:=UT.use (by simp[aw,ae.upto,Block.enc,az,Edge.ag,Ins.ag,fi]) [.gone,.cells (T.N.map eG),.gone];refine aS ?_;simp -dsimp only[simprocAttr,↓aa,zp,hb]
   repeat(refine⟨by omega,?_⟩)
   refine .inr (.inr ⟨_,Kz,ao (zj ?_)⟩);refine ah ?_;refine bt 2 [(1,aI many),(2,.ip none [aI g.name,ay g.blocks,aK ord,.aC 1 (inn.map aK) .sh]),(5,.ms 1 0 k k),(7,.v (.bool T.again)),(8,aI (n:Nat)),(9,aI o),(15,.aC 1 (nw.map eB) .sh)] (by simp) (by omega) [.gone,.cells (T.N.map eG)] ?_ ?_ ?_ ?_ ?_
   ·rfl
   ·simp[aj.upto,jl]
   ·simp[fj,St.get,bF,bh,Go.Av.look,Sub.refl]
   ·simp[aj.upto,aw,ae.upto,az,Func.ag,Block.ag,Edge.ag,Ins.ag,iD,fi]
   by_cases hq:nw=GW
   ·rw[if_pos hq]at bL;rw[bL]at Oi;rw[decide_eq_true hq]at heq;refine aS ?_;simp -dsimp only[simprocAttr,↓aa,zp,hog,Nat.mul_one]
    repeat(refine⟨by omega,?_⟩)
    refine .inl ⟨_,heq,by simp only[aw,ae.upto,zt,zu,az,fi],ao ?_⟩;simp -dsimp only[simprocAttr,↓aa,zp];refine ah ?_;apply aP rfl<;>intro h
    ·cases h
    refine la ?_;refine cT ?_
    repeat(refine⟨by omega,?_⟩)
    refine fK ?_;refine⟨⟨⟨T,n⟩,by simp only;omega,I9,Oi⟩,by simp,?_⟩;refine zq rfl ?_ ?_;simp -dsimp only[simprocAttr,↓aa,zp,zc]
    all_goals rfl
   rw[if_neg hq]at bL;rw[bL]at Oi mW;rw[decide_eq_false hq]at heq;refine aS ?_;simp -dsimp only[simprocAttr,↓aa,zp,hog,Nat.mul_one]
   repeat(refine⟨by omega,?_⟩)
   refine .inl ⟨_,heq,by simp only[aw,ae.upto,zt,zu,az,fi],ao ?_⟩;simp -dsimp only[simprocAttr,↓aa,zp];refine ah ?_;refine cH rfl ?_;refine kC ?_;simp -dsimp only[simprocAttr,↓aa,zp,Nat.mul_one]
   repeat(refine⟨by omega,?_⟩)
   refine ah ?_;refine eN (cs:=bo (T.N.map eG) o.toNat [.aC 1 (nw.map eB) .sh]) 1 ((T.N.set o.toNat nw).map eG) rfl (by rw[cG _ (by rw[List.length_map];omega)];simp) (sK _) (J6 (by omega)) ?_;simp -dsimp only[simprocAttr,↓aa,zp];refine cT ?_
   repeat(refine⟨by omega,?_⟩)
   refine fK ?_;refine⟨⟨⟨⟨T.N.set o.toNat nw,true⟩,n⟩,by simp only;omega,mW,Oi⟩,by simp,?_⟩;refine zq rfl ?_ ?_;simp -dsimp only[simprocAttr,↓aa,zp,zc]
   all_goals rfl
  refine aM ?_;simp -dsimp only[bS,ne_eq,Nat.reduceEqDiff,reduceCtorEq];have Yy:n=0:=by have:=of_decide_eq_false h;omega
  subst Yy;have hTS:S1=T:=EA;subst hTS;have KP:S1.again=true->S1.weight many<q:=fun hh=>by
   rcases Ro hh with r|r
   ·cases r
   omega
  refine⟨⟨⟨S1,q⟩,Xd,Kv,KP⟩,?_,?_⟩
  ·simp only[mU,if_true];cases wg:S1.again
   ·simp;omega
   rcases Ro wg with r|r
   ·cases r
   simp;omega
  refine zq rfl ?_ ?_;simp -dsimp only[simprocAttr,↓aa,zp,zc]
  all_goals rfl
 refine aM ?_;simp -dsimp only[bS,ne_eq,Nat.reduceEqDiff,reduceCtorEq];have mU:S.again=false:=h;rw[CL mU]at Og;subst Og;have hSl:=HI.len;refine aD 5 1 (o:=.cells (S.N.map eG)) (.aC 1 (S.N.map eG) .sh) rfl (by simp[aj.aF]) trivial rfl (bQ.ms rfl (NW _) (by rw[List.length_map];omega) (by rw[List.drop_zero,List.take_of_length_le (by rw[List.length_map];omega),RN])) ?_;simp -dsimp only[simprocAttr,↓aa,zp];refine aA (ah ?_);refine aq ?_;simp -dsimp only[simprocAttr,↓aa,zp,zr,Tryz.results72];exact jl _ _
def mP(b:Block):Term:=if b.term.kind=0 then⟨4,0,3,[],[]⟩else⟨b.term.kind,0,b.term.n,b.term.cases,b.term.to⟩
def Np(t:Term):Bool:=decide (t.kind=2) ||decide (t.kind=3)
def kL(k:Nat)(b:Block):Block:=⟨[],if Np (mP b)=true then [⟨(k:Int),0,0,[]⟩]else [],⟨(mP b).kind,if Np (mP b)=true then(k:Int)else 0,(mP b).n,(mP b).cases,(mP b).to⟩⟩
def eC(f:Func):Func:=⟨-1,f.blocks.mapIdx kL⟩
theorem jv(f:Func):(eC f).blocks.length=f.blocks.length:=List.length_mapIdx
theorem wY{f:Func}{k:Nat}{b:Block}(h:f.blocks[k]?=some b):(eC f).blocks[k]?=some (kL k b):=by
 unfold eC;rw[List.getElem?_mapIdx,h];rfl
end Go.Proofs.YtjdnhamngpafmaaGreat
namespace Go.Av
def QD(id:Nat)(O:List aj)(es:List (Value×ae))(r:ae)(O':List aj):Prop :=
 (es=[]∧r=.cD [.v (.bool false)]∧O'=O)∨∃(l1 l2:List (Value×ae)) (k x:Value),es=l1++(k,.v x)::l2∧r=.cD [.v (.bool true),.v k,.v x]∧O'=O.set id (.map (.iter (some (k,x))) (l1++l2))
theorem filter_push{seen:Array Nat}{e:MapEntry}:∀(l:List MapEntry) (l1 l2:List MapEntry),(l.map (·.born)).Nodup->(l.filter fun e=>!seen.contains e.born)=l1++e::l2->(l.filter fun x=>!(seen.push e.born).contains x.born)=l1++l2
 | [],l1,l2,_,h=>by
  rw[List.filter_nil]at h;exact absurd h.symm (by simp)
 | a::r,l1,l2,hn,h=>by
  have jQ:a.born ∉ r.map (·.born)∧(r.map (·.born)).Nodup:=List.nodup_cons.1 hn;have TP:∀x:MapEntry,(seen.push e.born).contains x.born=(seen.contains x.born ||decide (x.born=e.born)):=fun x=>by
   rw[Bool.eq_iff_iff];simp
  have TK:e∈(a::r).filter fun e=>!seen.contains e.born:=by
   rw[h];simp
  rw[List.filter_cons]at h ⊢;rw[TP];by_cases hs:seen.contains a.born=true
  ·rw[hs]at h ⊢;simp only[Bool.not_true,Bool.false_eq_true,if_false,Bool.true_or]at h ⊢;exact filter_push r l1 l2 jQ.2 h
  have TR:seen.contains a.born=false:=by simpa using hs
  rw[TR]at h ⊢;simp only[Bool.not_false,if_true,Bool.false_or]at h ⊢;cases l1 with
  | nil =>
   simp only[List.nil_append,List.cons.injEq]at h;obtain⟨rfl,h2⟩:=h;simp only[decide_true,Bool.not_true,Bool.false_eq_true,if_false,List.nil_append];rw[<-h2];refine List.filter_congr fun x hx=>?_;rw[TP];have:x.born≠a.born:=fun q=>jQ.1 (q ▸ List.mem_map.2 ⟨x,hx,rfl⟩);simp[this]
  | cons b l1 =>
   simp only[List.cons_append,List.cons.injEq]at h;obtain⟨rfl,h2⟩:=h;have ZW:e∈r:=by
    have:e∈r.filter fun e=>!seen.contains e.born:=by
     rw[h2];simp
    exact(List.mem_filter.1 this).1
   have ct:a.born≠e.born:=fun q=>jQ.1 (q ▸ List.mem_map.2 ⟨e,ZW,rfl⟩);simp only[ct,decide_false,Bool.not_false,if_true,List.cons_append,List.cons.injEq,true_and];exact filter_push r l1 l2 jQ.2 h2
theorem D2{P:Program}{o:Oper}{σ:St}{x:Operand}{id:Nat}{cur:Option (Value×Value)}{es:List (Value×ae)}
  (ho:o.op=.next x false) (hd:∀d,o.dst=some d->d<σ.n) (hx:σ.ev x=some (.mp id 0)) (ns:σ.objs[id]?=some (.map (.iter cur) es)):Jl P o σ (QD id σ.objs es):=by
 intro base τ a g bN hn mU hm K Q hK;have hg:=bN.good;have hO:g.objs=σ.objs:=bN.objs.trans hm;obtain⟨l,o1,rJ,h1,_,ex⟩:=(bN.eval (mU x (by simp[ho,Op.operands]) _ hx)).lu;have ln:g.objs[id]?=some (.map (.iter cur) es):=by rw[hO];exact ns
 obtain⟨l',ob,e1,iK,hh,Ah⟩:=hg.map id _ es ln;rw[rJ]at e1;simp only[Option.some.injEq]at e1;subst e1;obtain⟨m,clk,last,seen,arr,rfl,WV,Ai,hb,tE,gL,yE,U2⟩:=Ah;have bg:=aW hh;have put:∀(r:ae) (u:Value) (g':G),QD id σ.objs es r g'.objs->Le g g'->Good g'->RV g' r u->(execOp a.eval o).run P g.w=.ok (.value u) g'.w->o.wp P a g.w K Q:=fun r u g' hR hle dp rM bJ=>by
  unfold Oper.wp;rw[bJ,Oper.upon_value];refine hK r u g' hR ?_;cases jA:o.dst with
  | none=>exact bN.step hle dp
  | some d=>exact bN.put hle dp (d:=d) (by rw[hn];exact hd d jA) rM
 rcases xX (P:=P) g.w o.type l.block m clk last seen arr hh WV hb tE with⟨q1,q2⟩|⟨l1,l2,e,w1,q1,p1,p2,p3,p4,q2⟩
 ·rw[q1,List.map_nil]at yE;refine put (.cD [.v (.bool false)]) (.tuple #[.bool false]) g (.inl ⟨yE,rfl,hO⟩) (Le.refl g) hg (.cD rfl fun i c u hc hu=>?_) (by simp[execOp,ho,ex,q2])
  match i,hc,hu with
  | 0,hc,hu =>
   simp at hc hu;subst hc;subst hu;exact .v trivial
  | i+1,hc,hu=>simp at hc
 rw[q1,List.map_append,List.map_cons]at yE;have TK:e∈arr.toList:=by
  have:e∈arr.toList.filter fun e=>!seen.contains e.born:=by
   rw[q1];simp
  exact(List.mem_filter.1 this).1
 obtain⟨i,hi⟩:=List.mem_iff_getElem?.1 TK;have ga:arr[i]?=some e:=by simpa using hi
 obtain⟨f1,f2⟩:=gL i e ga;obtain⟨w2,OV⟩:∃w2:World,w2 = { w1 with heap:=g.w.heap.setIfInBounds l.block (.mapIter (some m) clk (seen.push e.born) clk) }:=⟨_,rfl⟩
 rw[<-OV]at q2;have Gu:w2.heap=g.w.heap.setIfInBounds l.block (.mapIter (some m) clk (seen.push e.born) clk):=by rw[OV]
 have v8:∀k,k≠l.block->w2.heap[k]?=g.w.heap[k]?:=fun k hk=>by rw[Gu];exact Array.getElem?_setIfInBounds_ne (fun e=>hk e.symm)
 have eR:ld g id (.map (.iter cur) es) (some l) (.map (.iter (some (e.key,e.val))) (l1.map (fun e=>(e.key,ae.v e.val))++l2.map (fun e=>(e.key,ae.v e.val)))) w2:={
  obj:=ln
  os:=by rw[OV];exact p2
  tape:=by rw[OV];exact p3
  output:=by rw[OV];exact p4
  size:=by rw[Gu];simp
  block:=fun k _ hk=>v8 k (fun e=>hk l rJ trivial e.symm)
  cell:=fun b off x hx _=>by
   by_cases e:b=l.block
   ·subst e;simp only[G.cell,World.cell?,hh]at hx;cases hx
   simp only[World.cell?,v8 b e];exact hx
  place:=fun l1 h1 _=>by
   simp only[Option.some.injEq]at h1;subst h1;exact .inr ⟨l,rJ,trivial,rfl,Nat.le_refl _⟩
  spare:=fun m h=>by cases h
  plain:=fun _=>⟨by simp[aj.aF],rJ⟩
  gone:=by simp }
 have hle:=Le.bB hg eR;obtain⟨s1,s2⟩:=hle.stay WV Ai;refine put (.cD [.v (.bool true),.v e.key,.v e.val]) (.tuple #[.bool true,e.key,e.val]) (g.bB id (some l) (.map (.iter (some (e.key,e.val))) (l1.map (fun e=>(e.key,ae.v e.val))++l2.map (fun e=>(e.key,ae.v e.val)))) w2)
  (.inr ⟨_,_,e.key,e.val,yE,rfl,by simp only[G.bB,hO]⟩) hle (Good.bB hg eR ?_ ?_) (.cD rfl fun i c u hc hu=>?_) (by simp[execOp,ho,ex,q2,G.bB])
 ·refine⟨l,.mapIter (some m) clk (seen.push e.born) clk,rfl,iK,?_,?_⟩
  ·simp only[G.bB];rw[Gu,Array.getElem?_setIfInBounds_self_of_lt bg]
  show DH _ _ _ _;refine⟨m,clk,clk,seen.push e.born,arr,rfl,s1,s2,hb,fun _=>rfl,gL,?_,fun k x Vr=>?_⟩
  ·rw[filter_push arr.toList l1 l2 (vo hb) q1,List.map_append]
  simp only[Option.some.injEq,Prod.mk.injEq]at Vr;exact⟨i,e,ga,by simp,Vr.1,Vr.2⟩
 ·intro l1 h1 _;simp only[Option.some.injEq]at h1;subst h1;rw[Gu];simpa using bg
 match i,hc,hu with
 | 0,hc,hu =>
  simp at hc hu;subst hc;subst hu;exact .v trivial
 | 1,hc,hu =>
  simp at hc hu;subst hc;subst hu;exact .v f1
 | 2,hc,hu =>
  simp at hc hu;subst hc;subst hu;exact .v f2
 | i+3,hc,hu=>simp at hc
end Go.Av
namespace Go.Proofs.YtjdnhamngpafmaaGreat
open Go.Av
abbrev Env:=Int->Option Int
def n5(E:Env)(v x:Int):Env:=fun w=>if w=v then some x else E w
def gE(E:Env)(v:Int):Int:=(E v).getD 0
def ot:Env:=fun _=>none
abbrev kI(v:Int):Value:=.int .i64 v
structure eo(es:List (Value×ae))(E:Env):Prop where
 fit:∀p∈es,∃v x:Int,p=(kI v,aI x)∧cm v∧cm x
 nd:(es.map Prod.fst).Nodup
 look:∀v:Int,fH es (kI v)=(E v).map aI
theorem k6(a b:Int):mE (kI a) (kI b)=decide (a=b):=rfl
theorem sM:eo [] ot:=⟨fun p hp=>absurd hp (by simp),List.nodup_nil,fun _=>rfl⟩
theorem yQ{v w x:Int}:∀{es:List (Value×ae)},(∀p∈es,∃v x:Int,p=(kI v,aI x)∧cm v∧cm x)->fH (gP es (kI v) (aI x)) (kI w)=if w=v then some (aI x)else fH es (kI w)
 | [],_=>by
  simp only[gP,fH,k6];by_cases e:w=v
  ·subst e;simp
  have e3:¬v=w:=fun q=>e q.symm;simp[e,e3]
 | p::r,h=>by
  obtain⟨a,b,rfl,_,_⟩:=h p List.mem_cons_self;have ih:=yQ (v:=v) (w:=w) (x:=x) (es:=r) fun q hq=>h q (List.mem_cons_of_mem _ hq);simp only[gP,k6];by_cases e:a=v
  ·subst e;simp only[decide_true,if_true,fH,k6];by_cases e2:w=a
   ·subst e2;simp
   have e3:¬a=w:=fun q=>e2 q.symm;simp[e2,e3]
  simp only[e,decide_false,Bool.false_eq_true,if_false,fH,k6,ih];by_cases e2:a=w
  ·subst e2;simp[e]
  simp[e2]
theorem zg{v x:Int}:∀{es:List (Value×ae)},(∀p∈es,∃v x:Int,p=(kI v,aI x)∧cm v∧cm x)->((gP es (kI v) (aI x)).map Prod.fst=es.map Prod.fst∧kI v∈es.map Prod.fst)∨((gP es (kI v) (aI x)).map Prod.fst=es.map Prod.fst++[kI v]∧kI v ∉ es.map Prod.fst)
 | [],_=>.inr ⟨rfl,by simp⟩
 | p::r,h=>by
  obtain⟨a,b,rfl,_,_⟩:=h p List.mem_cons_self;have ih:=zg (v:=v) (x:=x) (es:=r) fun q hq=>h q (List.mem_cons_of_mem _ hq);simp only[gP,k6];by_cases e:a=v
  ·subst e;left;simp
  simp only[e,decide_false,Bool.false_eq_true,if_false,List.map_cons];rcases ih with⟨q1,q2⟩|⟨q1,q2⟩
  ·exact .inl ⟨by rw[q1],List.mem_cons_of_mem _ q2⟩
  refine .inr ⟨by rw[q1];rfl,fun q=>?_⟩;rcases List.mem_cons.1 q with q|q
  ·injection q with _ q;exact e q.symm
  exact q2 q
theorem CX{v x:Int}:∀{es:List (Value×ae)} {p:Value×ae},p∈gP es (kI v) (aI x)->p∈es∨p=(kI v,aI x)
 | [],p,h=>.inr (by simpa[gP]using h)
 | q::r,p,h=>by
  obtain⟨a,b⟩:=q;rw[gP]at h;split at h
  ·rcases List.mem_cons.1 h with e|e
   ·exact .inr e
   exact .inl (List.mem_cons_of_mem _ e)
  rcases List.mem_cons.1 h with e|e
  ·exact .inl (by rw[e];exact List.mem_cons_self)
  rcases CX e with e|e
  ·exact .inl (List.mem_cons_of_mem _ e)
  exact .inr e
theorem eo.put{es:List (Value×ae)}{E:Env}(h:eo es E){v x:Int}(hv:cm v)(hx:cm x):eo (gP es (kI v) (aI x)) (n5 E v x):=by
 refine⟨fun p hp=>?_,?_,fun w=>?_⟩
 ·rcases CX hp with q|q
  ·exact h.fit p q
  exact⟨v,x,q,hv,hx⟩
 ·rcases zg (v:=v) (x:=x) h.fit with⟨q,_⟩|⟨q,q2⟩
  ·rw[q];exact h.nd
  rw[q,List.nodup_append];refine⟨h.nd,by simp,fun a ha b hb=>?_⟩;rw[List.mem_singleton]at hb;subst hb;exact fun e=>q2 (e ▸ ha)
 rw[yQ h.fit,h.look];unfold n5;split<;>rfl
theorem eo.mem{es:List (Value×ae)}{E:Env}(h:eo es E){v x:Int}:E v=some x↔(kI v,aI x)∈es:=by
 have key:∀{l:List (Value×ae)},(∀p∈l,∃v x:Int,p=(kI v,aI x)∧cm v∧cm x)->(l.map Prod.fst).Nodup->(fH l (kI v)=some (aI x)↔(kI v,aI x)∈l):=fun {l}=>by
  induction l with
  | nil=>intro _ _;simp[fH]
  | cons p r ih =>
   intro hf hn;obtain⟨a,b,rfl,_,_⟩:=hf p List.mem_cons_self;have jQ:kI a ∉ r.map Prod.fst∧(r.map Prod.fst).Nodup:=List.nodup_cons.1 hn;have ih:=ih (fun q hq=>hf q (List.mem_cons_of_mem _ hq)) jQ.2;simp only[fH,k6];by_cases e:a=v
   ·subst e;simp only[decide_true,if_true,Option.some.injEq];constructor
    ·intro q;rw[q];exact List.mem_cons_self
    intro q;rcases List.mem_cons.1 q with q|q
    ·exact(Prod.mk.inj q).2.symm
    exact absurd (List.mem_map.2 ⟨_,q,rfl⟩) jQ.1
   simp only[e,decide_false,Bool.false_eq_true,if_false];rw[ih];constructor
   ·exact fun q=>List.mem_cons_of_mem _ q
   intro q;rcases List.mem_cons.1 q with q|q
   ·have:=(Prod.mk.inj q).1;injection this with _ this;exact absurd this.symm e
   exact q
 rw[<-key h.fit h.nd,h.look];cases hE:E v with
 | none=>simp
 | some y=>simp
structure zy(EP:Env)(left:List (Value×ae))(E:Env):Prop where
 fit:∀p∈left,∃v x:Int,p=(kI v,aI x)∧cm v∧cm x
 nd:(left.map Prod.fst).Nodup
 all:∀v x:Int,EP v=some x↔((kI v,aI x)∈left∨E v=some x)
 new:∀v x:Int,(kI v,aI x)∈left->E v=none
theorem zy.start{es:List (Value×ae)}{EP:Env}(h:eo es EP):zy EP es ot :=
 ⟨h.fit,h.nd,fun v x=>by rw[h.mem];simp[ot],fun _ _ _=>rfl⟩
theorem zy.step{EP E:Env}{l1 l2:List (Value×ae)}{k x:Value}(h:zy EP (l1++(k,.v x)::l2) E):∃v y:Int,k=kI v∧x=kI y∧cm v∧cm y∧zy EP (l1++l2) (n5 E v y):=by
 obtain⟨v,y,e,hv,hy⟩:=h.fit (k,.v x) (by simp);obtain⟨rfl,e2⟩:=Prod.mk.inj e;obtain rfl:x=kI y:=by injection e2
 have wo:∀p,p∈l1++l2->p∈l1++(kI v,ae.v (kI y))::l2:=fun p hp=>by
  rcases List.mem_append.1 hp with q|q
  ·exact List.mem_append_left _ q
  exact List.mem_append_right _ (List.mem_cons_of_mem _ q)
 have uM:=h.nd;rw[List.map_append,List.map_cons]at uM;have W4:∀z,(kI v,z) ∉ l1++l2:=fun z hz=>by
  have hp:=List.perm_middle (a:=kI v) (l₁:=l1.map Prod.fst) (l₂:=l2.map Prod.fst);have:=List.nodup_cons.1 (hp.nodup_iff.1 uM);rw[<-List.map_append]at this;exact this.1 (List.mem_map.2 ⟨_,hz,rfl⟩)
 refine⟨v,y,rfl,rfl,hv,hy,fun p hp=>h.fit p (wo p hp),?_,fun w z=>?_,fun w z hw=>?_⟩
 ·have hp:=List.perm_middle (a:=kI v) (l₁:=l1.map Prod.fst) (l₂:=l2.map Prod.fst);have:=List.nodup_cons.1 (hp.nodup_iff.1 uM);rw[List.map_append];exact this.2
 ·rw[h.all];unfold n5;constructor
  ·rintro(q|q)
   ·rcases List.mem_append.1 q with q|q
    ·exact .inl (List.mem_append_left _ q)
    rcases List.mem_cons.1 q with q|q
    ·obtain⟨q1,q2⟩:=Prod.mk.inj q;injection q1 with _ q1;injection q2 with q2;injection q2 with _ q2;right;rw[if_pos q1,q2]
    exact .inl (List.mem_append_right _ q)
   by_cases e:w=v
   ·subst e;have:=h.new w y (by simp);rw[this]at q;cases q
   right;rw[if_neg e];exact q
  rintro(q|q)
  ·exact .inl (wo _ q)
  split at q
  ·rename_i e;rw[Option.some.injEq]at q;subst e;subst q;left;simp
  exact .inr q
 have ct:w≠v:=fun e=>by
  subst e;exact W4 _ hw
 unfold n5;rw[if_neg ct];exact h.new w z (wo _ hw)
theorem zy.done{EP E:Env}(h:zy EP [] E):E=EP:=by
 funext v
 cases hE:EP v with
 | none =>
  cases h2:E v with
  | none=>rfl
  | some x =>
   have:=(h.all v x).2 (.inr h2);rw[hE]at this;cases this
 | some x =>
  rcases(h.all v x).1 hE with q|q
  ·cases q
  exact q
def dG(E:Env)(nx:Int):List Int->Env
 | []=>E
 | v::r=>dG (n5 E v nx) (nx+1) r
def cC:Env->Int->List Ins->Env×Int×List Ins
 | E,nx,[]=>(E,nx,[])
 | E,nx,i::r=>if i.op=100 then cC (n5 E i.to ((i.args.map (gE E)).headD 0)) nx r
  else
   let q:=cC (n5 E i.to nx) (nx+1) r
   (q.1,q.2.1,⟨nx,i.op,i.n,i.args.map (gE E)⟩::q.2.2)


theorem pM{v:Int}:∀(l:List Bool) (n:Nat),v∈cx n l->∃j:Nat,Hs l j∧v=n+j
 | [],n,h=>by simp[cx]at h
 | is::r,n,h=>by
  simp only[cx]at h;split at h
  ·rename_i hc;rcases List.mem_cons.1 h with q|q
   ·exact⟨0,by simp[Hs,hc],by omega⟩
   obtain⟨j,h1,h2⟩:=pM r (n+1) q;exact⟨j+1,by simpa[Hs]using h1,by omega⟩
  obtain⟨j,h1,h2⟩:=pM r (n+1) h;exact⟨j+1,by simpa[Hs]using h1,by omega⟩
theorem sW{j:Nat}:∀(l:List Bool) (n:Nat),Hs l j->((n+j:Nat):Int)∈cx n l
 | [],n,h=>by simp[Hs]at h
 | is::r,n,h=>by
  simp only[cx];cases j with
  | zero =>
   simp only[Hs,List.getElem?_cons_zero,Option.some.injEq]at h;rw[if_pos h];exact List.mem_cons_self
  | succ j =>
   have ih:=sW r (n+1) (j:=j) (by simpa[Hs]using h);rw[show n+1+j=n+(j+1) by omega]at ih;split
   ·exact List.mem_cons_of_mem _ ih
   exact ih
theorem tu{X:Type}{step:X->Nat->List Bool->X}{l:List Ins}{J:Nat->X->List Bool->Prop}(hs:∀n x s i,l[n]?=some i->J (n+1) x s->J n (step x (n+1) s) (lh i s)):∀n x s,n<=l.length->J n x s->∃x' s',J 0 x' s'∧uD step l n x s=step x' 0 s'
 | 0,x,s,_,h=>⟨x,s,h,rfl⟩
 | n+1,x,s,hn,h=>by
  obtain⟨i,hi⟩:∃i,l[n]?=some i:=⟨l[n],List.getElem?_eq_getElem _⟩
  obtain⟨x',s',h1,h2⟩:=tu hs n _ _ (by omega) (hs n x s i hi h);refine⟨x',s',h1,?_⟩;simp only[uD,hi];exact h2
def setAt(f:Func)(S:List (List Bool))(k n:Nat):List Bool:=fM ((ax f k).ins.drop n) (S[k]?.getD [])
theorem FI{f:Func}{S:List (List Bool)}{k n:Nat}{i:Ins}(h:(ax f k).ins[n]?=some i):setAt f S k n=lh i (setAt f S k (n+1)):=by
 unfold setAt;rw[bP h];rfl
theorem gU:∀(l:List Bool) (n:Nat),(cx n l).length=l.countP id
 | [],_=>rfl
 | a::r,n=>by
  have:=gU r (n+1);cases a<;>simp[cx,this]
def wC(g:Func)(ord:List Int)(inn:List (List Int))(N:List (List Bool))(nx:Int)(OB EN n:Nat):List ae :=
 [aI g.name,ay g.blocks,aK ord,.aC 1 (inn.map aK) .sh,.aC 1 (N.map eG) .sh,aI nx,aI g.name,.ms OB 0 n n,.ms EN 0 n n]
theorem po{O:List aj}{g:Func}{ord:List Int}{inn:List (List Int)}{N:List (List Bool)}{nx:Int}{W OB EN n:Nat}(hW:O[W]?=some (.cells (wC g ord inn N nx OB EN n)))(hn:0<=nx∧nx<=2 ^ 40) :
  bd Tryz.prog 107 O [.mp W 0] (fun r O'=>r=aI nx∧O'=O.set W (.cells (wC g ord inn N (nx+1) OB EN n))):=by
 have ZM:(O.set W (.cells (wC g ord inn N (nx+1) OB EN n)))[W]?=some (.cells (wC g ord inn N (nx+1) OB EN n)):=ox hW;unfold wC at hW ZM ⊢;have hx:nx+1-1=nx:=by omega
 refine yr hT Tryz.func107 rfl (by kernel_rfl) (by simp[Tryz.ntmps107]) ?_;show cc Tryz.prog _ _ _ ⟨15,_,_⟩;dsimp only[Tmp,TypeId,slotsOf];refine aA (ah ?_);refine aS ?_;simp -dsimp only[simprocAttr,↓aa,zp,hW]
 repeat(refine⟨by omega,?_⟩)
 refine ah ?_;refine aS ?_;simp -dsimp only[simprocAttr,↓aa,zp,ZM,hx]
 repeat(refine⟨by omega,?_⟩)
 refine ah ?_;refine aq ?_;simp -dsimp only[simprocAttr,↓aa,zp,DJ,Tryz.results107,gj,o9,jq,l6,j7,kV]
def nk(g:Func)(ord:List Int)(inn:List (List Int))(N:List (List Bool))(nx:Int)(n:Nat)(C A:List ae):List aj :=
 [.gone,.cells [aI 0,.aC 7 [] .ex],.gone,.gone,.gone,.cells C,.cells A,.cells (wC g ord inn N nx 5 6 n)]
theorem iq{n i:Nat}{C:List ae}{x:ae}(h:aw n C)(hx:x.upto n):aw n (C.set i x):=by
 rw[aV]at h ⊢;intro d hd;rcases List.mem_or_eq_of_mem_set hd with q|q
 ·exact h d q
 rw[q];exact hx
theorem eo.upto{es:List (Value×ae)}{E:Env}(h:eo es E)(n:Nat):lD n es:=by
 rw[k9];intro p hp;obtain⟨v,x,rfl,_⟩:=h.fit p hp;trivial
theorem zV{g:Func}{ord:List Int}{inn:List (List Int)}{N:List (List Bool)}{nx:Int}{n m:Nat}{C A:List ae}(hC:aw m C)(hA:aw 0 A)(hm:8<=m):∀o∈nk g ord inn N nx n C A,o.upto m:=by
 intro o ho;simp only[nk,List.mem_cons,List.not_mem_nil,or_false]at ho;rcases ho with rfl|rfl|rfl|rfl|rfl|rfl|rfl|rfl
 ·trivial
 ·exact⟨trivial,⟨trivial,trivial⟩,trivial⟩
 ·trivial
 ·trivial
 ·trivial
 ·exact hC
 ·exact dC (Nat.zero_le _) _ hA
 exact⟨trivial,⟨Block.ag _ _,trivial⟩,⟨az _ _,trivial⟩,⟨iD _ _,trivial⟩,⟨jl _ _,trivial⟩,trivial,trivial,show 5<m by omega,show 6<m by omega,trivial⟩
def CB(C:List ae)(k:Nat)(ps:List Int)(is:List Ins):List ae:=(C.set (k*7) (aK ps)).set (k*7+1) (.aC 4 (is.map Ins.enc) (.tok 9))
theorem Gd{g:Func}{ord:List Int}{inn:List (List Int)}{N:List (List Bool)}{n k:Nat}{C A:List ae}(hC:aw 0 C)(hA:aw 0 A)(x:Int)(es:List (Value×ae))(E:Env)(y:List Int)(z:List Ins)(hE:eo es E):∀o∈nk g ord inn N x n (CB C k y z) A++[.map (.int .i64) es,.spare z.length],o.upto 10:=fun o ho=>by
 rcases List.mem_append.1 ho with q|q
 ·exact zV (iq (iq (dC (Nat.zero_le _) _ hC) (show ae.upto 10 (aK y) from⟨az _ _,trivial⟩)) (show ae.upto 10 (.aC 4 (z.map Ins.enc) (.tok 9)) from⟨Ins.ag _ _,by decide⟩)) hA (by omega) o q
 simp only[List.mem_cons,List.not_mem_nil,or_false]at q;rcases q with rfl|rfl
 ·exact hE.upto 10
 trivial
structure Bx where
 v:Nat
 es:List (Value×ae)
def dj(n:Int)(k:Nat):List Int:=(List.range k).map fun i:Nat=>n+(i:Int)
theorem sF(n:Int)(k:Nat):dj n (k+1)=dj n k++[n+(k:Int)]:=by
 unfold dj;rw[List.range_succ,List.map_append];rfl
theorem gn(n:Int)(k:Nat):(dj n k).length=k:=by unfold dj;rw[List.length_map,List.length_range]
theorem pv:∀(l:List Int) (E:Env) (nx v:Int),dG E nx (l++[v])=n5 (dG E nx l) v (nx+l.length)
 | [],E,nx,v=>by simp[dG]
 | a::r,E,nx,v=>by
  simp only[List.cons_append,dG,List.length_cons];rw[pv r];congr 1;omega
theorem qK{s:List Bool}{v:Nat}{is:Bool}(h:s[v]?=some is)(n:Nat):cx n (s.take (v+1))=cx n (s.take v)++if is=true then [((n+v:Nat):Int)]else []:=by
 induction s generalizing v n with
 | nil=>simp at h
 | cons a r ih =>
  cases v with
  | zero =>
   obtain rfl:a=is:=by simpa using h
   cases a<;>simp[cx]
  | succ v =>
   have:=ih (v:=v) (by simpa using h) (n+1);simp only[List.take_succ_cons,cx];rw[this,show n+1+v=n+(v+1) by omega];cases a<;>simp
theorem ed{C:List ae}{i:Nat}{x:ae}(h:∀d∈C,d.scalar)(hx:x.scalar):∀d∈C.set i x,d.scalar:=fun d hd=>by
 rcases List.mem_or_eq_of_mem_set hd with q|q
 ·exact h d q
 rw[q];exact hx
theorem uX{O:List aj}{C:List ae}{i:Nat}{x y:ae}(h:i<C.length->Sub O x y):∀(j:Nat) (c d:ae),(C.set i x)[j]?=some c->(C.set i y)[j]?=some d->Sub O c d:=fun j c d hc hd=>by
 rw[List.getElem?_set]at hc hd;split at hc
 ·rename_i e;rw[if_pos e]at hd;split at hc
  ·rename_i e2;rw[if_pos e2]at hd;rw[Option.some.injEq]at hc hd;rw[<-hc,<-hd];exact h e2
  cases hc
 rename_i e;rw[if_neg e,hc,Option.some.injEq]at hd;rw[hd];exact Sub.refl _
theorem ny{es:List (Value×ae)}{E:Env}(h:eo es E)(v x:Int)(hv:cm v)(hx:cm x):fH (gP es (.int .i64 v) (.v (.int .i64 x))) (.int .i64 v)=some (.v (.int .i64 x)):=by
 have:=(h.put hv hx).look v;unfold n5 at this;rw[if_pos rfl]at this;exact this
theorem DV{g:Func}{ord:List Int}{inn:List (List Int)}{N:List (List Bool)}{nx:Int}{n k many:Nat}{C A:List ae}{s:List Bool}{is:List Int}(Kt:aw 0 C)(Ks:aw 0 A)
  (hn:0<=nx∧nx<=2 ^ 30) (hC:C.length=n*7) (Od:∀d∈C,d.scalar) (hk:k<n) (DB:k≠0) (Gr:C[k*7]?=some (.aC 1 [] .ex)) (lL:C[k*7+1]?=some (.aC 4 [] .ex)) (hs:N[k]?=some s) (mW:s.length=many) (Nb:many<=4096) (hi:inn[k]?=some is) (xK:is.length≠1) (aal:is.length<=2 ^ 30) (Q3:n<=128) :
  bd Tryz.prog 106 (nk g ord inn N nx n C A) [.mp 7 0,aI k] (fun r O'=>∃es,r=.mm 8∧eo es (dG ot nx (cx 0 s)) ∧
   O'=nk g ord inn N (nx+(cx 0 s).length) n (CB C k (dj nx (cx 0 s).length) []) A++[.map (.int .i64) es,.spare 0]):=by
 have vV:decide ((k:Int)=0)=false:=decide_eq_false (by omega);have gp:decide ((is.length:Int)=1)=false:=decide_eq_false (by omega);have Sm:(inn.map aK)[k]?=some (aK is):=by rw[List.getElem?_map,hi];rfl
 have VX:(N.map eG)[k]?=some (.aC 1 (s.map eB) .sh):=by rw[List.getElem?_map,hs];rfl
 obtain⟨D,hD⟩:∃D,D=C.set (k*7+1) (.aC 4 [] (.tok 9)):=⟨_,rfl⟩
 have hDl:D.length=n*7:=by rw[hD,List.length_set,hC]
 have Xy:D[k*7]?=some (.aC 1 [] .ex):=by rw[hD,List.getElem?_set_ne (by omega),Gr]
 have XA:∀d∈D,d.scalar:=by rw[hD];exact ed Od trivial
 have Xz:∀y,D.set (k*7) (aK y)=CB C k y []:=fun y=>by
  rw[hD];unfold CB;rw[List.set_comm _ _ (by omega)];rfl
 have WY:k*7<D.length:=by omega
 have Gs:∀x:ae,(D.set (k*7) x)[k*7]?=some x:=fun x=>List.getElem?_set_self WY;have gK:∀x:ae,(D.set (k*7) x).length=n*7:=fun x=>by rw[List.length_set,hDl]
 have jB:∀x y:ae,bo (D.set (k*7) x) (k*7) [y]=D.set (k*7) y:=fun x y=>by
  rw[cG _ (by rw[List.length_set];exact WY),List.set_set]
 have dQ:∀(x:Int) (C':List ae) (X:List aj),0<=x∧x<=2 ^ 40->bd Tryz.prog 107 (nk g ord inn N x n C' A++X) [.mp 7 0] (fun r O'=>r=aI x∧O'=nk g ord inn N (x+1) n C' A++X):=fun x C' X hx=>po rfl hx;have EJ:∀v,(cx 0 (s.take v)).length<=4096:=fun v=>by
  have h1:=gU (s.take v) 0;have h2:=List.countP_le_length (p:=id) (l:=s.take v);rw[List.length_take]at h2;omega
 have Cn:=fun(x:Int) (es:List (Value×ae)) (E:Env) (y:List Int) (hE:eo es E)=>Gd (g:=g) (ord:=ord) (inn:=inn) (N:=N) (n:=n) (k:=k) Kt Ks x es E y [] hE;unfold nk wC at dQ Cn ⊢;have gl:8<=10:=by omega
 refine dy hT true (10) Tryz.func106 rfl (by kernel_rfl) (by simp[Tryz.ntmps106]) (by assumption) ?_;show cc Tryz.prog _ _ _ ⟨186,_,_⟩;dsimp only[Tmp,TypeId,slotsOf];refine aA (ah ?_);refine aA (ah ?_);refine aJ (ai ?_);refine aS ?_;simp -dsimp only[simprocAttr,↓aa,zp,vV];refine ah ?_;apply aP rfl<;>intro h
 ·cases h
 refine aS ?_;simp -dsimp only[simprocAttr,↓aa,zp,Sm,gp,Int.toNat_natCast,Nat.mul_one]
 repeat(refine⟨by omega,?_⟩)
 refine ah ?_;apply aP rfl<;>intro h
 ·cases h
 refine aS ?_;simp -dsimp only[simprocAttr,↓aa,zp,VX,Int.toNat_natCast,Nat.mul_one]
 repeat(refine⟨by omega,?_⟩)
 refine ah ?_;refine db 5 (k*7+1) rfl lL ?_;simp -dsimp only[simprocAttr,↓aa,zp,<-hD];refine db 5 (k*7) rfl Xy ?_;simp -dsimp only[simprocAttr,↓aa,zp];refine ai (aO (ι:={X:Bx // X.v<=s.length∧eo X.es (dG ot nx (cx 0 (s.take X.v)))}) (fun X=>⟨186,[(0,.mp 7 0),(1,aI k),(5,.mm 8),(23,.aC 1 (s.map eB) .sh),(24,aI s.length),(25,aI X.1.v)],[.gone,.cells [aI 0,.aC 7 [] .ex],.gone,.gone,.gone,.cells (D.set (k*7) (.aC 1 ((dj nx (cx 0 (s.take X.1.v)).length).map aI) (.tok 10))),.cells A,.cells [aI g.name,ay g.blocks,aK ord,.aC 1 (inn.map aK) .sh,.aC 1 (N.map eG) .sh,aI (nx+((cx 0 (s.take X.1.v)).length:Int)),aI g.name,.ms 5 0 n n,.ms 6 0 n n],.map (.int .i64) X.1.es,.spare 0,.spare (cx 0 (s.take X.1.v)).length]⟩) (fun X=>s.length-X.1.v) ⟨⟨0,[]⟩,Nat.zero_le _,sM⟩ ?_ ?_)
 ·refine zq rfl ?_ ?_;simp -dsimp only[simprocAttr,↓aa,zp,zc]
  all_goals (simp[cx,dj];done)
 rintro⟨⟨v,es⟩,hv,hE⟩;simp only at hv hE;refine aA (ah ?_);apply iz rfl<;>intro h
 ·refine cd ?_;have Bj:v<s.length:=by simpa using h
  obtain⟨b,hb⟩:∃b,s[v]?=some b:=⟨s[v],by simp[Bj]⟩
  have Oq:(s.map eB)[v]?=some (.v (.bool b)):=by rw[List.getElem?_map,hb];rfl
  have eH:=qK hb 0;rw[Nat.zero_add]at eH;have Jb:=EJ v;refine aJ (ai ?_);refine aS ?_;simp -dsimp only[simprocAttr,↓aa,zp,Oq];refine ah ?_;cases b with
  | true =>
   rw[if_pos rfl]at eH;have Cf:(cx 0 (s.take (v+1))).length=(cx 0 (s.take v)).length+1:=by rw[eH,List.length_append];rfl
   have Dy:dG ot nx (cx 0 (s.take (v+1)))=n5 (dG ot nx (cx 0 (s.take v))) (v:Int) (nx+(cx 0 (s.take v)).length):=by rw[eH,pv]
   have sP:=sF nx (cx 0 (s.take v)).length;generalize XW:(cx 0 (s.take v)).length=c at *;have Sk:cm (v:Int):=by unfold cm;omega
   have KJ:cm (nx+(c:Int)):=by unfold cm;omega
   have QR:=hE.put Sk KJ;have ER:=ny hE (v:Int) (nx+(c:Int)) Sk KJ;rw[<-Dy]at QR;have xJ:=dQ (nx+(c:Int)) (D.set (k*7) (.aC 1 ((dj nx c).map aI) (.tok 10))) [.map (.int .i64) es,.spare 0,.spare c] (by omega);have Bk:((dj nx c).map aI).length=c:=by rw[List.length_map,gn]
   have wq:(dj nx c).map aI++[aI (nx+(c:Int))]=(dj nx (c+1)).map aI:=by rw[sP,List.map_append];rfl
   refine aA (ah ?_);refine cH rfl ?_;refine aA ?_;refine .inr (.inl ⟨_,_,xJ,.inl (ao (zj ?_))⟩);refine ah ?_;refine kC ?_;simp -dsimp only[simprocAttr,↓aa,zp,Gs,ER,Bk,jB,wq,gK,Option.getD_some,Int.toNat_natCast,Nat.mul_one]
   repeat(refine⟨by omega,?_⟩)
   refine⟨ob (by kernel_rfl),?_⟩;refine ah ?_;refine cT ?_
   repeat(refine⟨by omega,?_⟩)
   refine fK ?_;refine⟨⟨⟨v+1,gP es (.int .i64 v) (.v (.int .i64 (nx+c)))⟩,Bj,QR⟩,by simp;omega,?_⟩;dsimp only;rw[Cf];have KW:nx+((c+1:Nat):Int)=nx+(c:Int)+1:=by omega
   rw[KW];refine zq rfl ?_ ?_;simp -dsimp only[simprocAttr,↓aa,zp,zc]
   ·exact Sub.int (by simp)
   rfl
  | false =>
   rw[if_neg (by decide),List.append_nil]at eH;refine aA (ah ?_);apply aP rfl<;>intro h
   ·cases h
   refine la ?_;refine cT ?_
   repeat(refine⟨by omega,?_⟩)
   refine fK ?_;refine⟨⟨⟨v+1,es⟩,Bj,by simp only;rw[eH];exact hE⟩,by simp;omega,?_⟩;dsimp only;rw[eH];refine zq rfl ?_ ?_;simp -dsimp only[simprocAttr,↓aa,zp,zc]
   ·exact Sub.int (by simp)
   rfl
 refine aM ?_;simp -dsimp only[bS,ne_eq,Nat.reduceEqDiff,reduceCtorEq];have OU:s.length<=v:=by simpa using h
 rw[List.take_of_length_le OU]at hE ⊢;have nU:=Xz (dj nx (cx 0 s).length);refine eN (cs:=D.set (k*7) (.aC 1 ((dj nx (cx 0 s).length).map aI) (.tok 10))) 5 (D.set (k*7) (aK (dj nx (cx 0 s).length))) rfl (by rw[List.length_set,List.length_set]) (ed XA trivial) (uX fun _=>Sub.sh rfl) ?_;simp -dsimp only[simprocAttr,↓aa,zp,nU];refine aA (ah ?_);refine aq ?_;simp -dsimp only[simprocAttr,↓aa,zp,zr,Tryz.results106];exact⟨Cn _ es _ _ hE,es,hE,rfl⟩
structure By where
 left:List (Value×ae)
 cur:Option (Value×Value)
 es:List (Value×ae)
 E:Env
theorem LQ{O:List aj}{C:List ae}{i:Nat}{x y:ae}(hx:C[i]?=some x)(h:Sub O x y):∀(j:Nat) (c d:ae),C[j]?=some c->(C.set i y)[j]?=some d->Sub O c d:=fun j c d hc hd=>by
 rw[List.getElem?_set]at hd;split at hd
 ·rename_i e;subst e;split at hd
  ·rw[hx,Option.some.injEq]at hc;rw[Option.some.injEq]at hd;rw[<-hc,<-hd];exact h
  cases hd
 rw[hc,Option.some.injEq]at hd;rw[<-hd];exact Sub.refl _
theorem Hh{g:Func}{ord:List Int}{inn:List (List Int)}{N:List (List Bool)}{nx:Int}{n k:Nat}{C A:List ae}{p:Int}{eP:List (Value×ae)}{EP:Env}(Kt:aw 0 C)(Ks:aw 0 A)
  (hC:C.length=n*7) (Od:∀d∈C,d.scalar) (Gr:C[k*7]?=some (.aC 1 [] .ex)) (lL:C[k*7+1]?=some (.aC 4 [] .ex)) (hk:k<n) (DB:k≠0) (hi:inn[k]?=some [p]) (hp:0<=p∧p<n) (hA:A[p.toNat]?=some (.im (.int .i64) eP)) (Oc:A.length=n) (hE:eo eP EP) (Q3:n<=128) :
  bd Tryz.prog 106 (nk g ord inn N nx n C A) [.mp 7 0,aI k] (fun r O'=>∃es,r=.mm 8∧eo es EP∧O'=nk g ord inn N nx n (CB C k [] []) A++[.map (.int .i64) es,.spare 0]):=by
 have vV:decide ((k:Int)=0)=false:=decide_eq_false (by omega);have Sm:(inn.map aK)[k]?=some (aK [p]):=by rw[List.getElem?_map,hi];rfl
 have Z0:∀q∈eP,iv q.1∧∃y,q.2=.v y:=fun q hq=>by
  obtain⟨v,x,rfl,hv,_⟩:=hE.fit q hq;exact⟨hv,_,rfl⟩
 have Cn:=fun(es:List (Value×ae)) (E:Env) (hE:eo es E)=>Gd (g:=g) (ord:=ord) (inn:=inn) (N:=N) (n:=n) (k:=k) Kt Ks nx es E [] [] hE;obtain⟨D,hD⟩:∃D,D=C.set (k*7+1) (.aC 4 [] (.tok 9)):=⟨_,rfl⟩
 have WY:k*7<C.length:=by omega
 have XA:∀d∈D,d.scalar:=by rw[hD];exact ed Od trivial
 have Xy:D[k*7]?=some (.aC 1 [] .ex):=by rw[hD,List.getElem?_set_ne (by omega),Gr]
 have Xz:D.set (k*7) (aK [])=CB C k [] []:=by
  rw[hD];unfold CB;rw[List.set_comm _ _ (by omega)];rfl
 unfold nk wC at Cn ⊢;have gl:8<=10:=by omega
 refine dy hT true (10) Tryz.func106 rfl (by kernel_rfl) (by simp[Tryz.ntmps106]) (by assumption) ?_;show cc Tryz.prog _ _ _ ⟨186,_,_⟩;dsimp only[Tmp,TypeId,slotsOf];refine aA (ah ?_);refine aA (ah ?_);refine aJ (ai ?_);refine aS ?_;simp -dsimp only[simprocAttr,↓aa,zp,vV];refine ah ?_;apply aP rfl<;>intro h
 ·cases h
 refine aS ?_;simp -dsimp only[simprocAttr,↓aa,zp,Sm,Int.toNat_natCast,Nat.mul_one]
 repeat(refine⟨by omega,?_⟩)
 refine ah ?_;refine cH rfl ?_;refine db 5 (k*7+1) rfl lL ?_;simp -dsimp only[simprocAttr,↓aa,zp,<-hD];refine aS ?_;simp -dsimp only[simprocAttr,↓aa,zp,Sm,hA,Int.toNat_natCast,Nat.mul_one]
 repeat(refine⟨by omega,?_⟩)
 refine⟨ob (by kernel_rfl),?_⟩;refine ah ?_;refine ai (aO (ι:={X:By // zy EP X.left X.E∧eo X.es X.E}) (fun X=>⟨186,[(0,.mp 7 0),(1,aI k),(5,.mm 8),(176,.mp 10 0)],[.gone,.cells [aI 0,.aC 7 [] .ex],.gone,.gone,.gone,.cells D,.cells A,.cells [aI g.name,ay g.blocks,aK ord,.aC 1 (inn.map aK) .sh,.aC 1 (N.map eG) .sh,aI nx,aI g.name,.ms 5 0 n n,.ms 6 0 n n],.map (.int .i64) X.1.es,.spare 0,.map (.iter X.1.cur) X.1.left]⟩) (fun X=>X.1.left.length) ⟨⟨eP,none,[],ot⟩,zy.start hE,sM⟩ ?_ ?_)
 ·refine zq rfl ?_ ?_;simp -dsimp only[simprocAttr,↓aa,zp,zc]
  all_goals rfl
 rintro⟨⟨left,cur,es,E⟩,hI,TE⟩;simp only at hI TE;refine aJ (kf ⟨false,false⟩ hT 0 rfl rfl rfl (by simp) ?_);simp -dsimp only[simprocAttr,↓aa,zp];refine⟨_,D2 rfl (by simp) rfl rfl,fun r O' hR=>?_⟩;rcases hR with⟨h1,h2,h3⟩|⟨l1,l2,kk,x,h1,h2,h3⟩
 ·subst h1;subst h2;subst h3;have hEP:=hI.done;subst hEP;simp -dsimp only[simprocAttr,↓aa,zp];refine ah ?_;refine Zg rfl ?_;refine aM ?_;simp -dsimp only[bS,ne_eq,Nat.reduceEqDiff,reduceCtorEq];refine eN (cs:=D) 5 (D.set (k*7) (aK [])) rfl (by rw[List.length_set]) (ed XA trivial) (LQ Xy (Sub.sh rfl)) ?_;simp -dsimp only[simprocAttr,↓aa,zp,Xz];refine aA (ah ?_);refine aq ?_;simp -dsimp only[simprocAttr,↓aa,zp,zr,Tryz.results106];exact⟨Cn _ _ TE,es,TE,rfl⟩
 subst h1;obtain⟨v,y,rfl,rfl,hv,hy,ZA⟩:=hI.step;have Dy:=TE.put hv hy;subst h2;subst h3;simp -dsimp only[simprocAttr,↓aa,zp];refine ah ?_;refine zw1 rfl ?_;refine cd ?_;refine ai ?_;refine aA (ah ?_);refine cT (Zf ?_);refine⟨⟨⟨l1++l2,some (kI v,kI y),gP es (kI v) (aI y),n5 E v y⟩,ZA,Dy⟩,by simp,?_⟩;refine zq rfl ?_ ?_;simp -dsimp only[simprocAttr,↓aa,zp,zc]
 all_goals rfl
def sI(x:Int):Ins:=⟨x,0,0,[]⟩
def sr(E:Env)(s:List Bool)(v:Nat):List Int:=(cx 0 (s.take v)).filter fun w=>(E w).isNone
theorem Gb:∀(l:List Int) (E:Env) (nx w:Int),w ∉ l->dG E nx l w=E w
 | [],_,_,_,_=>rfl
 | a::r,E,nx,w,h=>by
  rw[dG,Gb r _ _ _ (fun q=>h (List.mem_cons_of_mem _ q))];unfold n5;rw[if_neg (show ¬w=a from fun q=>h (by rw[q];exact List.mem_cons_self))]
theorem TA{E:Env}{s:List Bool}{v:Nat}:(v:Int) ∉ sr E s v:=fun h=>by
 have h1:=(List.mem_filter.1 h).1;obtain⟨j,hj,e⟩:=pM _ _ h1;have:=hj.lt;rw[List.length_take]at this;omega
theorem MX{E:Env}{s:List Bool}{v:Nat}{is:Bool}(h:s[v]?=some is):sr E s (v+1)=sr E s v++if(is&&(E (v:Int)).isNone)=true then [(v:Int)]else []:=by
 unfold sr;rw[qK h 0,List.filter_append,Nat.zero_add];congr 1;cases is with
 | true =>
  simp only[if_true,Bool.true_and];cases hE:(E (v:Int)).isNone<;>simp[hE]
 | false=>simp
theorem Be(E:Env)(s:List Bool)(v:Nat):(sr E s v).length<=s.length:=by
 have h1:=gU (s.take v) 0;have h2:=List.countP_le_length (p:=id) (l:=s.take v);have h3:=List.length_filter_le (fun w=>(E w).isNone) (cx 0 (s.take v));rw[List.length_take]at h2;unfold sr;omega
theorem DW{g:Func}{ord:List Int}{inn:List (List Int)}{N:List (List Bool)}{nx:Int}{n many:Nat}{C A:List ae}{s:List Bool}{b0:Block}(Kt:aw 0 C)(Ks:aw 0 A)
  (hn:0<=nx∧nx<=2 ^ 30) (hC:C.length=n*7) (Od:∀d∈C,d.scalar) (vX:0<n) (Gr:C[0]?=some (.aC 1 [] .ex)) (lL:C[1]?=some (.aC 4 [] .ex)) (hs:N[0]?=some s) (mW:s.length=many) (Nb:many<=4096) (XQ:g.blocks[0]?=some b0) (tH:b0.params.length<=4096) (xm:∀v∈b0.params,cm v) (Q3:n<=128) :
  bd Tryz.prog 106 (nk g ord inn N nx n C A) [.mp 7 0,aI 0] (fun r O'=>∃es,r=.mm 8∧eo es (dG (dG ot nx b0.params) (nx+b0.params.length) (sr (dG ot nx b0.params) s s.length)) ∧
   O'=nk g ord inn N (nx+b0.params.length+(sr (dG ot nx b0.params) s s.length).length) n (CB C 0 (dj nx b0.params.length) ((dj (nx+b0.params.length) (sr (dG ot nx b0.params) s s.length).length).map sI)) A++[.map (.int .i64) es,.spare (sr (dG ot nx b0.params) s s.length).length]):=by
 have VX:(N.map eG)[0]?=some (.aC 1 (s.map eB) .sh):=by rw[List.getElem?_map,hs];rfl
 have QY:0<C.length:=by omega
 have Cf:1<C.length:=by omega
 have OD:∀x y:ae,((C.set 0 x).set 1 y)[0]?=some x:=fun x y=>by rw[List.getElem?_set_ne (by decide),List.getElem?_set_self QY]
 have lH:∀x y:ae,((C.set 0 x).set 1 y)[1]?=some y:=fun x y=>List.getElem?_set_self (by simpa using Cf);have U1:∀x y:ae,(C.set 1 x).set 0 y=(C.set 0 y).set 1 x:=fun x y=>List.set_comm _ _ (by decide);have gK:∀x y:ae,((C.set 0 x).set 1 y).length=n*7:=fun x y=>by rw[List.length_set,List.length_set,hC]
 have HX:∀x y z:ae,bo ((C.set 0 x).set 1 y) 0 [z]=(C.set 0 z).set 1 y:=fun x y z=>by
  rw[cG _ (by simpa using QY),List.set_comm _ _ (by decide),List.set_set]
 have EV:∀x y z:ae,bo ((C.set 0 x).set 1 y) 1 [z]=(C.set 0 x).set 1 z:=fun x y z=>by
  rw[cG _ (by simpa using Cf),List.set_set]
 have dQ:∀(x:Int) (C':List ae) (X:List aj),0<=x∧x<=2 ^ 40->bd Tryz.prog 107 (nk g ord inn N x n C' A++X) [.mp 7 0] (fun r O'=>r=aI x∧O'=nk g ord inn N (x+1) n C' A++X):=fun x C' X hx=>po rfl hx;have Cn:=fun(x:Int) (es:List (Value×ae)) (E:Env) (y:List Int) (z:List Ins) (hE:eo es E)=>Gd (g:=g) (ord:=ord) (inn:=inn) (N:=N) (n:=n) (k:=0) Kt Ks x es E y z hE;obtain⟨E1,Zx⟩:∃E1,E1=dG ot nx b0.params:=⟨_,rfl⟩
 obtain⟨np,YA⟩:∃np,np=b0.params.length:=⟨_,rfl⟩
 obtain⟨n1,mH⟩:∃n1,n1=nx+(np:Int):=⟨_,rfl⟩
 rw[<-Zx,<-YA,<-mH];rw[<-YA]at tH;unfold nk wC at dQ Cn ⊢;have gl:8<=10:=by omega
 refine dy hT true (10) Tryz.func106 rfl (by kernel_rfl) (by simp[Tryz.ntmps106]) (by assumption) ?_;show cc Tryz.prog _ _ _ ⟨186,_,_⟩;dsimp only[Tmp,TypeId,slotsOf];refine aA (ah ?_);refine aA (ah ?_);refine aJ (ai ?_);refine aA (ah ?_);apply aP rfl<;>intro h
 ·refine db 5 1 rfl lL ?_;simp -dsimp only[simprocAttr,↓aa,zp];refine db 5 0 rfl (by rw[List.getElem?_set_ne (by decide)];exact Gr) ?_;simp -dsimp only[simprocAttr,↓aa,zp,U1];refine c9 ?_;simp -dsimp only[simprocAttr,↓aa,zp,XQ]
  repeat(refine⟨by omega,?_⟩)
  refine ah ?_;refine ai (aO (ι:={X:Bx // X.v<=np∧eo X.es (dG ot nx (b0.params.take X.v))}) (fun X=>⟨186,[(0,.mp 7 0),(1,aI 0),(5,.mm 8),(69,aK b0.params),(70,aI np),(71,aI X.1.v)],[.gone,.cells [aI 0,.aC 7 [] .ex],.gone,.gone,.gone,.cells ((C.set 0 (.aC 1 ((dj nx X.1.v).map aI) (.tok 10))).set 1 (.aC 4 ([]) (.tok 9))),.cells A,.cells [aI g.name,ay g.blocks,aK ord,.aC 1 (inn.map aK) .sh,.aC 1 (N.map eG) .sh,aI (nx+(X.1.v:Int)),aI g.name,.ms 5 0 n n,.ms 6 0 n n],.map (.int .i64) X.1.es,.spare 0,.spare (X.1.v)]⟩) (fun X=>np-X.1.v) ⟨⟨0,[]⟩,Nat.zero_le _,sM⟩ ?_ ?_)
  ·refine zq rfl ?_ ?_;simp -dsimp only[simprocAttr,↓aa,zp,zc]
   all_goals first|(simp[dj];done)|(rw[YA];exact Sub.refl _)
  rintro⟨⟨v,es⟩,hv,hE⟩;simp only at hv hE;refine aA (ah ?_);apply iz rfl<;>intro h
  ·refine cd ?_;have Bj:v<np:=by simpa using h
   obtain⟨p,hp⟩:∃p,b0.params[v]?=some p:=⟨b0.params[v]'(by omega),List.getElem?_eq_getElem _⟩
   have hpf:=xm p (List.mem_of_getElem? hp);have Dy:dG ot nx (b0.params.take (v+1))=n5 (dG ot nx (b0.params.take v)) p (nx+(v:Int)):=by
    rw[List.take_add_one,hp,Option.toList_some,pv,List.length_take,show min v b0.params.length=v by omega]
   have sP:=sF nx v;have KJ:cm (nx+(v:Int)):=by unfold cm;omega
   have QR:=hE.put hpf KJ;have ER:=ny hE p (nx+(v:Int)) hpf KJ;rw[<-Dy]at QR;have xJ:=dQ (nx+(v:Int)) ((C.set 0 (.aC 1 ((dj nx v).map aI) (.tok 10))).set 1 (.aC 4 [] (.tok 9))) [.map (.int .i64) es,.spare 0,.spare v] (by omega);have Bk:((dj nx v).map aI).length=v:=by rw[List.length_map,gn]
   have wq:(dj nx v).map aI++[aI (nx+(v:Int))]=(dj nx (v+1)).map aI:=by rw[sP,List.map_append];rfl
   refine aJ (ai ?_);refine aS ?_;simp -dsimp only[simprocAttr,↓aa,zp,hp];refine ah ?_;refine aA ?_;refine .inr (.inl ⟨_,_,xJ,.inl (ao (zj ?_))⟩);refine ah ?_;refine kC ?_;simp -dsimp only[simprocAttr,↓aa,zp,OD,ER,Bk,HX,wq,gK,Option.getD_some,Int.toNat_natCast,Nat.mul_one]
   repeat(refine⟨by omega,?_⟩)
   refine⟨ob (by kernel_rfl),?_⟩;refine ah ?_;refine cT ?_
   repeat(refine⟨by omega,?_⟩)
   refine fK ?_;refine⟨⟨⟨v+1,gP es (.int .i64 p) (.v (.int .i64 (nx+v)))⟩,Bj,QR⟩,by simp;omega,?_⟩;dsimp only;have KW:nx+((v+1:Nat):Int)=nx+(v:Int)+1:=by omega
   rw[KW];refine zq rfl ?_ ?_;simp -dsimp only[simprocAttr,↓aa,zp,zc]
   ·exact Sub.int (by simp)
   rfl
  refine aM ?_;simp -dsimp only[bS,ne_eq,Nat.reduceEqDiff,reduceCtorEq];have OU:v=np:=by have:=of_decide_eq_false h;omega
  subst OU;rw[List.take_of_length_le (by omega),<-Zx]at hE;have Al:=Be E1 s;rw[<-mH];refine aS ?_;simp -dsimp only[simprocAttr,↓aa,zp,VX]
  repeat(refine⟨by omega,?_⟩)
  refine ah ?_;refine ai (aO (ι:={X:Bx // X.v<=s.length∧eo X.es (dG E1 n1 (sr E1 s X.v))}) (fun X=>⟨186,[(0,.mp 7 0),(1,aI 0),(5,.mm 8),(105,.aC 1 (s.map eB) .sh),(106,aI s.length),(107,aI X.1.v)],[.gone,.cells [aI 0,.aC 7 [] .ex],.gone,.gone,.gone,.cells ((C.set 0 (.aC 1 ((dj nx v).map aI) (.tok 10))).set 1 (.aC 4 (((dj n1 (sr E1 s X.1.v).length).map sI).map Ins.enc) (.tok 9))),.cells A,.cells [aI g.name,ay g.blocks,aK ord,.aC 1 (inn.map aK) .sh,.aC 1 (N.map eG) .sh,aI (n1+((sr E1 s X.1.v).length:Int)),aI g.name,.ms 5 0 n n,.ms 6 0 n n],.map (.int .i64) X.1.es,.spare ((sr E1 s X.1.v).length),.spare v]⟩) (fun X=>s.length-X.1.v) ⟨⟨0,es⟩,Nat.zero_le _,hE⟩ ?_ ?_)
  ·refine zq rfl ?_ ?_;simp -dsimp only[simprocAttr,↓aa,zp,zc]
   all_goals (simp[dj,sr,cx];done)
  rintro⟨⟨w,es⟩,hw,hE⟩;simp only at hw hE;refine aA (ah ?_);apply iz rfl<;>intro h
  ·refine cd ?_;have KQ:w<s.length:=by simpa using h
   obtain⟨b,hb⟩:∃b,s[w]?=some b:=⟨s[w],by simp[KQ]⟩
   have Oq:(s.map eB)[w]?=some (.v (.bool b)):=by rw[List.getElem?_map,hb];rfl
   have eH:=MX (E:=E1) hb;have ES:=hE.look (w:Int);rw[Gb _ _ _ _ TA]at ES;have hzw:=Al w;refine aJ (ai ?_);refine aS ?_;simp -dsimp only[simprocAttr,↓aa,zp,Oq];refine ah ?_;cases Zy:E1 (w:Int)with
   | some y =>
    rw[Zy]at eH ES;have hf:(b&&(some y).isNone)=false:=by simp
    rw[hf,if_neg (by decide),List.append_nil]at eH;cases b with
    | true =>
     refine aS ?_;simp -dsimp only[simprocAttr,↓aa,zp,ES];refine ah ?_;refine aA (ah ?_);apply aP rfl<;>intro h
     ·cases h
     refine la ?_;refine cT ?_
     repeat(refine⟨by omega,?_⟩)
     refine fK ?_;refine⟨⟨⟨w+1,es⟩,KQ,by simp only;rw[eH];exact hE⟩,by simp;omega,?_⟩;dsimp only;rw[eH];refine zq rfl ?_ ?_;simp -dsimp only[simprocAttr,↓aa,zp,zc]
     ·exact Sub.int (by simp)
     rfl
    | false =>
     refine aS ?_;simp -dsimp only[simprocAttr,↓aa,zp,ES];refine ah ?_;refine aA (ah ?_);apply aP rfl<;>intro h
     ·cases h
     refine la ?_;refine cT ?_
     repeat(refine⟨by omega,?_⟩)
     refine fK ?_;refine⟨⟨⟨w+1,es⟩,KQ,by simp only;rw[eH];exact hE⟩,by simp;omega,?_⟩;dsimp only;rw[eH];refine zq rfl ?_ ?_;simp -dsimp only[simprocAttr,↓aa,zp,zc]
     ·exact Sub.int (by simp)
     rfl
   | none =>
    rw[Zy]at eH ES;cases b with
    | false =>
     rw[if_neg (by decide),List.append_nil]at eH;refine aS ?_;simp -dsimp only[simprocAttr,↓aa,zp,ES];refine ah ?_;refine aA (ah ?_);apply aP rfl<;>intro h
     ·cases h
     refine la ?_;refine cT ?_
     repeat(refine⟨by omega,?_⟩)
     refine fK ?_;refine⟨⟨⟨w+1,es⟩,KQ,by simp only;rw[eH];exact hE⟩,by simp;omega,?_⟩;dsimp only;rw[eH];refine zq rfl ?_ ?_;simp -dsimp only[simprocAttr,↓aa,zp,zc]
     ·exact Sub.int (by simp)
     rfl
    | true =>
     rw[if_pos (by rfl)]at eH;have Cf:(sr E1 s (w+1)).length=(sr E1 s w).length+1:=by rw[eH,List.length_append];rfl
     have Dy:dG E1 n1 (sr E1 s (w+1))=n5 (dG E1 n1 (sr E1 s w)) (w:Int) (n1+(sr E1 s w).length):=by rw[eH,pv]
     have sP:=sF n1 (sr E1 s w).length;generalize XW:(sr E1 s w).length=c at *;have Sk:cm (w:Int):=by unfold cm;omega
     have KJ:cm (n1+(c:Int)):=by unfold cm;omega
     have QR:=hE.put Sk KJ;have ER:=ny hE (w:Int) (n1+(c:Int)) Sk KJ;rw[<-Dy]at QR;have xJ:=dQ (n1+(c:Int)) ((C.set 0 (.aC 1 ((dj nx v).map aI) (.tok 10))).set 1 (.aC 4 (((dj n1 c).map sI).map Ins.enc) (.tok 9))) [.map (.int .i64) es,.spare c,.spare v] (by omega);have Bk:(((dj n1 c).map sI).map Ins.enc).length=c:=by rw[List.length_map,List.length_map,gn]
     have wq:((dj n1 c).map sI).map Ins.enc++[.agg [aI (n1+(c:Int)),aI 0,aI 0,.aC 1 [] .sh]]=((dj n1 (c+1)).map sI).map Ins.enc:=by rw[sP,List.map_append,List.map_append];rfl
     refine aS ?_;simp -dsimp only[simprocAttr,↓aa,zp,ES];refine ah ?_;refine aA (ah ?_);refine cH rfl ?_;refine aA ?_;refine .inr (.inl ⟨_,_,xJ,.inl (ao (zj ?_))⟩);refine ah ?_;refine kC ?_;simp -dsimp only[simprocAttr,↓aa,zp,OD,lH,ER,Bk,EV,wq,gK,Option.getD_some,Int.toNat_natCast,Nat.mul_one]
     repeat(refine⟨by omega,?_⟩)
     refine⟨ob (by kernel_rfl),?_⟩;refine ah ?_;refine cT ?_
     repeat(refine⟨by omega,?_⟩)
     refine fK ?_;refine⟨⟨⟨w+1,gP es (.int .i64 w) (.v (.int .i64 (n1+c)))⟩,KQ,QR⟩,by simp;omega,?_⟩;dsimp only;rw[Cf];have KW:n1+((c+1:Nat):Int)=n1+(c:Int)+1:=by omega
     rw[KW];refine zq rfl ?_ ?_;simp -dsimp only[simprocAttr,↓aa,zp,zc]
     ·exact Sub.int (by simp)
     rfl
  refine aM ?_;simp -dsimp only[bS,ne_eq,Nat.reduceEqDiff,reduceCtorEq];have Ri:w=s.length:=by have:=of_decide_eq_false h;omega
  subst Ri;obtain⟨c,R8⟩:∃c,c=(sr E1 s s.length).length:=⟨_,rfl⟩
  rw[<-R8];have Wg:((dj n1 c).map sI).length=c:=by rw[List.length_map,gn]
  refine eN (cs:=(C.set 0 (.aC 1 ((dj nx v).map aI) (.tok 10))).set 1 (.aC 4 (((dj n1 c).map sI).map Ins.enc) (.tok 9))) 5 ((C.set 0 (aK (dj nx v))).set 1 (.aC 4 (((dj n1 c).map sI).map Ins.enc) (.tok 9))) rfl (by simp only[List.length_set]) (ed (ed Od trivial) trivial) (by rw[List.set_comm _ _ (by decide),List.set_comm (aK _) _ (by decide)];exact uX fun _=>Sub.sh rfl) ?_;simp -dsimp only[simprocAttr,↓aa,zp];refine aA (ah ?_);refine aq ?_;simp -dsimp only[simprocAttr,↓aa,zp,zr,Tryz.results106];have bG:=Cn (n1+(c:Int)) es _ (dj nx v) ((dj n1 c).map sI) hE;rw[Wg]at bG;exact⟨bG,es,hE,rfl⟩
 cases h
theorem G'(l:List Int):(l.map aI).map ae.share=l.map aI:=by
 rw[List.map_map];rfl
theorem vD(l:List Int)(hl:l.length<=2 ^ 43):bD Tryz.prog 36 [aK l] (aK l):=by
 have hs:=G' l;refine zf true 0 Tryz.func36 Tryz.ntmps36 ?_;dsimp only[Tmp,TypeId,slotsOf];refine aA (ah ?_);refine Jz 0 rfl (fun hn=>?_) ?_
 ·simp -dsimp only[simprocAttr,↓aa,zp];refine bX (ah ?_);refine cH rfl ?_;refine aA (ah ?_);refine aq ?_;simp -dsimp only[simprocAttr,↓aa,zp,zr,Tryz.results36];exact⟨trivial,by show ae.aC 1 [] nR.sh=.aC 1 (l.map aI) .sh;rw[hn]⟩
 simp -dsimp only[simprocAttr,↓aa,zp];refine bX (ah ?_);refine cr rfl ?_;refine cd ?_;refine aS ?_;simp -dsimp only[simprocAttr,↓aa,zp,hs]
 repeat(refine⟨by omega,?_⟩)
 refine ah ?_;refine aq ?_;simp -dsimp only[simprocAttr,↓aa,zp,zr,Tryz.results36]
theorem sO{es:List (Value×ae)}{E:Env}(h:eo es E)(v:Int):(fH es (.int .i64 v)).getD ([ae.v (.int .i64 0)].getD 0 (.v (.bool false)))=aI (gE E v):=by
 have:=h.look v;rw[show fH es (.int .i64 v)=(E v).map aI from this];unfold gE;cases E v<;>rfl
theorem Kp{es:List (Value×ae)}{E:Env}(h:eo es E)(v:Int):cm (gE E v):=by
 unfold gE;cases hE:E v with
 | none=>unfold cm;simp
 | some x =>
  obtain⟨a,b,e,_,hf⟩:=h.fit _ (h.mem.1 hE);obtain⟨_,e⟩:=Prod.mk.inj e;injection e with e;injection e with _ e;simpa[e]using hf
def ua(E:Env)(t:Term):Int:=if dh t=true then gE E t.arg else 0
def BB(C:List ae)(k:Nat)(ps:List Int)(is:List Ins)(t:Term)(arg:Int):List ae :=
 bo ((C.set (k*7) (aK ps)).set (k*7+1) (bf is)) (k*7+2) [aI t.kind,aI arg,aI t.n,aK t.cases,.aC 2 [] .ex]
theorem Qx{C:List ae}{k:Nat}{ps:List Int}{is:List Ins}{t:Term}{arg:Int}(hC:aw 0 C):aw 0 (BB C k ps is t arg):=by
 have h:=iq (i:=k*7+1) (x:=bf is) (iq (i:=k*7) (x:=aK ps) hC (show ae.upto 0 (aK ps) from⟨az _ _,trivial⟩)) (show ae.upto 0 (bf is) from⟨Ins.ag _ _,trivial⟩);rw[aV]at h ⊢;intro x hx;unfold BB bo at hx;rcases List.mem_append.1 hx with q|q
 ·exact h x (List.mem_of_mem_take q)
 rcases List.mem_append.1 q with q|q
 ·simp only[List.mem_cons,List.not_mem_nil,or_false]at q;rcases q with rfl|rfl|rfl|rfl|rfl
  ·trivial
  ·trivial
  ·trivial
  ·exact⟨az _ _,trivial⟩
  exact⟨trivial,trivial⟩
 exact h x (List.mem_of_mem_drop q)
theorem G7{C:List ae}{k:Nat}{ps:List Int}{is:List Ins}{t:Term}{arg:Int}(hC:∀d∈C,d.scalar):∀d∈BB C k ps is t arg,d.scalar:=by
 have h:=ed (i:=k*7+1) (x:=bf is) (ed (i:=k*7) (x:=aK ps) hC trivial) trivial;intro x hx;unfold BB bo at hx;rcases List.mem_append.1 hx with q|q
 ·exact h x (List.mem_of_mem_take q)
 rcases List.mem_append.1 q with q|q
 ·simp only[List.mem_cons,List.not_mem_nil,or_false]at q;rcases q with rfl|rfl|rfl|rfl|rfl<;>trivial
 exact h x (List.mem_of_mem_drop q)
structure Bz where
 m:Nat
 es:List (Value×ae)
 E:Env
 nx:Int
 is:List Ins
theorem Dq{g:Func}{ord:List Int}{inn:List (List Int)}{N:List (List Bool)}{nx Iq:Int}{n k many:Nat}{C A:List ae}{b:Block}{ps:List Int}{Nn:List Ins}{E0:Env}(Kt:aw 0 C)(Ks:aw 0 A)
  (hw:T' g many) (hC:C.length=n*7) (hA:A.length=n) (Od:∀d∈C,d.scalar) (hk:k<n) (hn:n<=128) (hb:g.blocks[k]?=some b) (gK:b.term.cases.length<=4096)
  (Sa:∀i∈b.ins,i.op=100->i.args.length=1) (KV:0<=Iq∧Iq<=2 ^ 31) (xK:Nn.length<=4096)
  (Oq:bd Tryz.prog 106 (nk g ord inn N nx n C A) [.mp 7 0,aI k] (fun r O'=>∃es,r=.mm 8∧eo es E0∧O'=nk g ord inn N Iq n (CB C k ps Nn) A++[.map (.int .i64) es,.spare Nn.length])) :
  bd Tryz.prog 73 (nk g ord inn N nx n C A) [.mp 7 0,aI k] (fun r O'=>r=.cD []∧∃es,eo es (cC E0 Iq b.ins).1 ∧
   O'=nk g ord inn N (cC E0 Iq b.ins).2.1 n (BB C k ps (Nn++(cC E0 Iq b.ins).2.2) b.term (ua (cC E0 Iq b.ins).1 b.term)) (A.set k (.im (.int .i64) es))):=by
 obtain⟨Z6,Yh⟩:=hw.ins b (List.mem_of_getElem? hb);obtain⟨q,hq⟩:∃q,q=cC E0 Iq b.ins:=⟨_,rfl⟩
 obtain⟨E',nx',is'⟩:=q;rw[<-hq];have WY:k*7<C.length:=by omega
 have Gx:k*7+1<C.length:=by omega
 have lH:∀x y:ae,((C.set (k*7) x).set (k*7+1) y)[k*7+1]?=some y:=fun x y=>List.getElem?_set_self (by simpa using Gx);have EI:∀x y:ae,((C.set (k*7) x).set (k*7+1) y).length=n*7:=fun x y=>by rw[List.length_set,List.length_set,hC]
 have EV:∀x y z:ae,bo ((C.set (k*7) x).set (k*7+1) y) (k*7+1) [z]=(C.set (k*7) x).set (k*7+1) z:=fun x y z=>by
  rw[cG _ (by simpa using Gx),List.set_set]
 have dQ:∀(x:Int) (C':List ae) (X:List aj),0<=x∧x<=2 ^ 40->bd Tryz.prog 107 (nk g ord inn N x n C' A++X) [.mp 7 0] (fun r O'=>r=aI x∧O'=nk g ord inn N (x+1) n C' A++X):=fun x C' X hx=>po rfl hx;have HY:=fun(x:Int) (es:List (Value×ae)) (E:Env) (z:List Ins) (hE:eo es E)=>Gd (g:=g) (ord:=ord) (inn:=inn) (N:=N) (n:=n) (k:=k) Kt Ks x es E ps z hE;unfold nk wC at dQ HY Oq;unfold CB at HY Oq;unfold nk wC;have gl:8<=8:=by omega
 refine dy hT true (8) Tryz.func73 rfl (by kernel_rfl) (by simp[Tryz.ntmps73]) (by assumption) ?_;show cc Tryz.prog _ _ _ ⟨130,_,_⟩;dsimp only[Tmp,TypeId,slotsOf];refine aJ (kf ⟨false,false⟩ hT 2 rfl rfl rfl (by simp) ?_);simp -dsimp only[simprocAttr,↓aa,zp];refine⟨_,lT rfl (by simp) rfl rfl Oq,fun r O' hR=>?_⟩;obtain⟨es,hr,hE,hO⟩:=hR;subst hr;subst hO;simp -dsimp only[simprocAttr,↓aa,zp];refine ah ?_;refine aS ?_;simp -dsimp only[simprocAttr,↓aa,zp,hb]
 repeat(refine⟨by omega,?_⟩)
 refine ah ?_;refine aD 5 10 (.ip none [aK b.params,bf b.ins,aI b.term.kind,aI b.term.arg,aI b.term.n,aK b.term.cases,aH b.term.to]) rfl (by simp[aj.aF]) trivial rfl ?_ ?_;rotate_left;simp -dsimp only[simprocAttr,↓aa,zp];rotate_left
 ·exact bQ.mp rfl rfl
 refine bt 10 [(0,.mp 7 0),(1,aI k),(4,.mm 8),(5,.ip none [aK b.params,bf b.ins,aI b.term.kind,aI b.term.arg,aI b.term.n,aK b.term.cases,aH b.term.to])] (by simp) (by omega) [.gone,.cells [aI 0,.aC 7 [] .ex],.gone,.gone,.gone,.cells ((C.set (k*7) (aK ps)).set (k*7+1) (.aC 4 (Nn.map Ins.enc) (.tok 9))),.cells A,.cells [aI g.name,ay g.blocks,aK ord,.aC 1 (inn.map aK) .sh,.aC 1 (N.map eG) .sh,aI Iq,aI g.name,.ms 5 0 n n,.ms 6 0 n n],.map (.int .i64) es,.spare Nn.length] ?_ ?_ ?_ ?_ ?_
 ·rfl
 ·exact HY Iq es E0 Nn hE
 ·simp[fj,St.get,bF,bh,Go.Av.look,Sub.refl]
 ·simp[aj.upto,aw,ae.upto,az,Func.ag,Block.ag,Edge.ag,Ins.ag]
 refine bX (ah ?_);obtain⟨vF,EJ⟩:∃vF,vF=b.ins.length:=⟨_,rfl⟩
 refine ai (aO (ι:={X:Bz // X.m<=vF∧eo X.es X.E∧(∃rest,cC X.E X.nx (b.ins.drop X.m)=(E',nx',rest)∧X.is++rest=Nn++is')∧Iq<=X.nx∧X.nx<=Iq+X.m∧X.is.length<=Nn.length+X.m}) (fun X=>⟨130,[(0,.mp 7 0),(1,aI k),(4,.mm 8),(5,.ip none [aK b.params,bf b.ins,aI b.term.kind,aI b.term.arg,aI b.term.n,aK b.term.cases,aH b.term.to]),(25,bf b.ins),(26,aI vF),(27,aI X.1.m)],[.gone,.cells [aI 0,.aC 7 [] .ex],.gone,.gone,.gone,.cells ((C.set (k*7) (aK ps)).set (k*7+1) (.aC 4 (X.1.is.map Ins.enc) (.tok 9))),.cells A,.cells [aI g.name,ay g.blocks,aK ord,.aC 1 (inn.map aK) .sh,.aC 1 (N.map eG) .sh,aI X.1.nx,aI g.name,.ms 5 0 n n,.ms 6 0 n n],.map (.int .i64) X.1.es,.spare X.1.is.length]⟩) (fun X=>vF-X.1.m) ⟨⟨0,es,E0,Iq,Nn⟩,Nat.zero_le _,hE,⟨is',by rw[List.drop_zero];exact hq.symm,rfl⟩,Int.le_refl _,by simp,by simp⟩ ?_ ?_)
 ·refine zq rfl ?_ ?_;simp -dsimp only[simprocAttr,↓aa,zp,zc]
  all_goals first|rfl|(rw[EJ];exact Sub.refl _)
 clear hE;clear es;rintro⟨⟨m,es,E,x,is⟩,eF,hE,⟨rest,cO,KN⟩,TX,Nk,Vm⟩;simp only at eF hE cO KN TX Nk Vm;refine aA (ah ?_);apply iz rfl<;>intro h
 ·refine cd ?_;have W0:m<vF:=by simpa using h
  obtain⟨i,hi⟩:∃i,b.ins[m]?=some i:=⟨b.ins[m]'(by omega),List.getElem?_eq_getElem _⟩
  obtain⟨Gv,QW,hi3⟩:=Yh i (List.mem_of_getElem? hi);rw[bP hi]at cO;simp only[cC]at cO;obtain⟨ys,Ct⟩:∃ys,ys=i.args.map (gE E):=⟨_,rfl⟩
  have YY:ys.length=i.args.length:=by rw[Ct,List.length_map]
  rw[<-Ct]at cO;refine aJ (ai ?_);refine aS ?_;simp -dsimp only[simprocAttr,↓aa,zp,hi];refine ah ?_;refine aD 7 10 (.ip none [aI i.to,aI i.op,aI i.n,aK i.args]) rfl (by simp[aj.aF]) trivial rfl ?_ ?_;rotate_left;simp -dsimp only[simprocAttr,↓aa,zp];rotate_left
  ·exact bQ.mp rfl rfl
  refine bt 10 [(0,.mp 7 0),(1,aI k),(4,.mm 8),(5,.ip none [aK b.params,bf b.ins,aI b.term.kind,aI b.term.arg,aI b.term.n,aK b.term.cases,aH b.term.to]),(25,bf b.ins),(26,aI vF),(27,aI m),(7,.ip none [aI i.to,aI i.op,aI i.n,aK i.args])] (by simp) (by omega) [.gone,.cells [aI 0,.aC 7 [] .ex],.gone,.gone,.gone,.cells ((C.set (k*7) (aK ps)).set (k*7+1) (.aC 4 (is.map Ins.enc) (.tok 9))),.cells A,.cells [aI g.name,ay g.blocks,aK ord,.aC 1 (inn.map aK) .sh,.aC 1 (N.map eG) .sh,aI x,aI g.name,.ms 5 0 n n,.ms 6 0 n n],.map (.int .i64) es,.spare is.length] ?_ ?_ ?_ ?_ ?_
  ·rfl
  ·exact HY x es E is hE
  ·simp[fj,St.get,bF,bh,Go.Av.look,Sub.refl]
  ·simp[aj.upto,aw,ae.upto,az,Func.ag,Block.ag,Edge.ag,Ins.ag]
  refine aA (ah ?_);refine NH 8 rfl ?_;simp -dsimp only[simprocAttr,↓aa,zp];refine bX (ah ?_);refine ai (aO (ι:={z:Nat // z<=i.args.length}) (fun z=>⟨130,[(0,.mp 7 0),(1,aI k),(4,.mm 8),(5,.ip none [aK b.params,bf b.ins,aI b.term.kind,aI b.term.arg,aI b.term.n,aK b.term.cases,aH b.term.to]),(25,bf b.ins),(26,aI vF),(27,aI m),(7,.ip none [aI i.to,aI i.op,aI i.n,aK i.args]),(8,.aC 1 ((ys.take z.1).map aI) (.tok 10)),(32,aK i.args),(33,aI i.args.length),(34,aI z.1)],[.gone,.cells [aI 0,.aC 7 [] .ex],.gone,.gone,.gone,.cells ((C.set (k*7) (aK ps)).set (k*7+1) (.aC 4 (is.map Ins.enc) (.tok 9))),.cells A,.cells [aI g.name,ay g.blocks,aK ord,.aC 1 (inn.map aK) .sh,.aC 1 (N.map eG) .sh,aI x,aI g.name,.ms 5 0 n n,.ms 6 0 n n],.map (.int .i64) es,.spare is.length,.spare z.1]⟩) (fun z=>i.args.length-z.1) ⟨0,Nat.zero_le _⟩ ?_ ?_)
  ·refine zq rfl ?_ ?_;simp -dsimp only[simprocAttr,↓aa,zp,zc]
   all_goals rfl
  rintro⟨z,hz⟩;refine aA (ah ?_);apply iz rfl<;>intro h
  ·refine cd ?_;have xl:z<i.args.length:=by simpa using h
   obtain⟨v,hv⟩:∃v,i.args[z]?=some v:=⟨i.args[z],by simp[xl]⟩
   have hyt:(ys.take (z+1)).map aI=(ys.take z).map aI++[aI (gE E v)]:=by
    rw[List.take_add_one,Ct,List.getElem?_map,hv];simp
   have YX:((ys.take z).map aI).length=z:=by rw[List.length_map,List.length_take];omega
   have QV:=sO hE v;refine aJ (ai ?_);refine aS ?_;simp -dsimp only[simprocAttr,↓aa,zp,hv];refine ah ?_;refine kC ?_;simp -dsimp only[simprocAttr,↓aa,zp,QV,YX,<-hyt]
   repeat(refine⟨by omega,?_⟩)
   refine ah ?_;refine cT ?_
   repeat(refine⟨by omega,?_⟩)
   refine fK ?_;refine⟨⟨z+1,xl⟩,by simp;omega,?_⟩;dsimp only;refine zq rfl ?_ ?_;simp -dsimp only[simprocAttr,↓aa,zp,zc]
   ·exact Sub.int (by simp)
   rfl
  refine aM ?_;simp -dsimp only[bS,ne_eq,Nat.reduceEqDiff,reduceCtorEq];have H3:i.args.length<=z:=by simpa using h
  rw[List.take_of_length_le (by omega)];by_cases dH:i.op=100
  ·have d100:decide (i.op=100)=true:=decide_eq_true dH;rw[if_pos dH]at cO;have Cf:=Sa i (List.mem_of_getElem? hi) dH;have hy0:(ys.map aI)[0]?=some (aI (ys.headD 0)):=by
    match ys,YY with
    | [],q=>rw[Cf]at q;cases q
    | y::r,_=>rfl
   refine c9 ?_;simp -dsimp only[simprocAttr,↓aa,zp,d100];refine ah ?_;refine cH rfl ?_;refine aS ?_;simp -dsimp only[simprocAttr,↓aa,zp,hy0]
   repeat(refine⟨by omega,?_⟩)
   refine⟨ob (by kernel_rfl),?_⟩;refine ah ?_;refine aM ?_;simp -dsimp only[bS,ne_eq,Nat.reduceEqDiff,reduceCtorEq];have hfy:cm (ys.headD 0):=by
    cases ys with
    | nil=>unfold cm;simp
    | cons y r =>
     obtain⟨v,_,e⟩:=List.mem_map.1 (Ct ▸ List.mem_cons_self:y∈i.args.map (gE E));rw[<-e];exact Kp hE v
   have WT:cm i.to:=by
    have:=Gv;have:=hw.M3;unfold G9 at *;unfold cm;omega
   have Dy:=hE.put WT hfy;have fJ:=HY x _ _ is Dy;refine bt 10 [(0,.mp 7 0),(1,aI k),(4,.mm 8),(5,.ip none [aK b.params,bf b.ins,aI b.term.kind,aI b.term.arg,aI b.term.n,aK b.term.cases,aH b.term.to]),(25,bf b.ins),(26,aI vF),(27,aI m)] (by simp) (by omega) [.gone,.cells [aI 0,.aC 7 [] .ex],.gone,.gone,.gone,.cells ((C.set (k*7) (aK ps)).set (k*7+1) (.aC 4 (is.map Ins.enc) (.tok 9))),.cells A,.cells [aI g.name,ay g.blocks,aK ord,.aC 1 (inn.map aK) .sh,.aC 1 (N.map eG) .sh,aI x,aI g.name,.ms 5 0 n n,.ms 6 0 n n],.map (.int .i64) (gP es (.int .i64 i.to) (.v (.int .i64 (ys.headD 0)))),.spare is.length] ?_ ?_ ?_ ?_ ?_
   ·rfl
   ·exact fJ
   ·simp[fj,St.get,bF,bh,Go.Av.look,Sub.refl]
   ·simp[aj.upto,aw,ae.upto,az,Func.ag,Block.ag,Edge.ag,Ins.ag]
   refine cT ?_
   repeat(refine⟨by omega,?_⟩)
   refine fK ?_;refine⟨⟨⟨m+1,_,_,x,is⟩,W0,Dy,⟨rest,cO,KN⟩,TX,by simp only;omega,by simp only;omega⟩,by simp;omega,?_⟩;dsimp only;refine zq rfl ?_ ?_;simp -dsimp only[simprocAttr,↓aa,zp,zc]
   ·exact Sub.int (by simp)
   rfl
  have d100:decide (i.op=100)=false:=decide_eq_false dH;rw[if_neg dH]at cO;refine c9 ?_;simp -dsimp only[simprocAttr,↓aa,zp,d100];refine ah ?_;refine cr rfl ?_;refine cd ?_;have xJ:=dQ x ((C.set (k*7) (aK ps)).set (k*7+1) (.aC 4 (is.map Ins.enc) (.tok 9))) [.map (.int .i64) es,.spare is.length,.spare z] (by omega);refine aA ?_;refine .inr (.inl ⟨_,_,xJ,.inl (ao (zj ?_))⟩);refine⟨ob (by kernel_rfl),?_⟩;refine ah ?_;have KJ:cm x:=by unfold cm;omega
  have WT:cm i.to:=by
   have:=Gv;have:=hw.M3;unfold G9 at *;unfold cm;omega
  have Dy:=hE.put WT KJ;have ER:=ny hE i.to x WT KJ;have Bk:(is.map Ins.enc).length=is.length:=List.length_map _;have wq:is.map Ins.enc++[.agg [aI x,aI i.op,aI i.n,.aC 1 (ys.map aI) .sh]]=(is++[(⟨x,i.op,i.n,ys⟩:Ins)]).map Ins.enc:=by rw[List.map_append];rfl
  have fJ:=HY (x+1) _ _ (is++[(⟨x,i.op,i.n,ys⟩:Ins)]) Dy;rw[List.length_append]at fJ;refine kC ?_;simp -dsimp only[simprocAttr,↓aa,zp,lH,ER,Bk,EV,wq,EI,Option.getD_some,Int.toNat_natCast,Nat.mul_one]
  repeat(refine⟨by omega,?_⟩)
  refine⟨ob (by kernel_rfl),?_⟩;refine ah ?_;refine bt 10 [(0,.mp 7 0),(1,aI k),(4,.mm 8),(5,.ip none [aK b.params,bf b.ins,aI b.term.kind,aI b.term.arg,aI b.term.n,aK b.term.cases,aH b.term.to]),(25,bf b.ins),(26,aI vF),(27,aI m)] (by simp) (by omega) [.gone,.cells [aI 0,.aC 7 [] .ex],.gone,.gone,.gone,.cells ((C.set (k*7) (aK ps)).set (k*7+1) (.aC 4 ((is++[(⟨x,i.op,i.n,ys⟩:Ins)]).map Ins.enc) (.tok 9))),.cells A,.cells [aI g.name,ay g.blocks,aK ord,.aC 1 (inn.map aK) .sh,.aC 1 (N.map eG) .sh,aI (x+1),aI g.name,.ms 5 0 n n,.ms 6 0 n n],.map (.int .i64) (gP es (.int .i64 i.to) (.v (.int .i64 x))),.spare (is.length+1)] ?_ ?_ ?_ ?_ ?_
  ·rfl
  ·exact fJ
  ·simp[fj,St.get,bF,bh,Go.Av.look,Sub.refl]
  ·simp[aj.upto,aw,ae.upto,az,Func.ag,Block.ag,Edge.ag,Ins.ag]
  refine cT ?_
  repeat(refine⟨by omega,?_⟩)
  refine fK ?_;refine⟨⟨⟨m+1,_,_,x+1,is++[(⟨x,i.op,i.n,ys⟩:Ins)]⟩,W0,Dy,⟨(cC (n5 E i.to x) (x+1) (b.ins.drop (m+1))).2.2,?_,?_⟩,by simp only;omega,by simp only;omega,by simp;omega⟩,by simp;omega,?_⟩
  ·simp only[Prod.mk.injEq]at cO;obtain⟨h1,h2,_⟩:=cO;show cC (n5 E i.to x) (x+1) (b.ins.drop (m+1))=_;rw[<-h1,<-h2]
  ·simp only[Prod.mk.injEq]at cO;simp only[List.append_assoc,List.singleton_append,cO.2.2,KN]
  dsimp only;rw[List.length_append,List.length_singleton];refine zq rfl ?_ ?_;simp -dsimp only[simprocAttr,↓aa,zp,zc]
  ·exact Sub.int (by simp)
  rfl
 refine aM ?_;simp -dsimp only[bS,ne_eq,Nat.reduceEqDiff,reduceCtorEq];have Yw:m=vF:=by have:=of_decide_eq_false h;omega
 subst Yw;rw[List.drop_of_length_le (by omega)]at cO;simp only[cC,Prod.mk.injEq]at cO;obtain⟨e1,e2,e3⟩:=cO;subst e1;subst e2;subst e3;rw[List.append_nil]at KN;rw[<-KN];have X1:=vD b.term.cases (by omega);have QV:=sO hE b.term.arg;refine aA ?_;refine .inl ⟨_,X1,by simp only[aw,ae.upto,zt,zu,az,fi],ao ?_⟩;simp -dsimp only[simprocAttr,↓aa,zp];refine⟨ob (by kernel_rfl),?_⟩;refine ah ?_;refine gI (⟨130,[(0,.mp 7 0),(1,aI k),(4,.mm 8),(11,.mp 10 0)],[.gone,.cells [aI 0,.aC 7 [] .ex],.gone,.gone,.gone,.cells ((C.set (k*7) (aK ps)).set (k*7+1) (.aC 4 (is.map Ins.enc) (.tok 9))),.cells A,.cells [aI g.name,ay g.blocks,aK ord,.aC 1 (inn.map aK) .sh,.aC 1 (N.map eG) .sh,aI x,aI g.name,.ms 5 0 n n,.ms 6 0 n n],.map (.int .i64) es,.spare is.length,.cells [aI b.term.kind,aI (ua E b.term),aI b.term.n,aK b.term.cases,.aC 2 [] .ex]]⟩) ?_ ?_
 ·obtain⟨uk,OT⟩:∃uk,uk=dh b.term:=⟨_,rfl⟩
  unfold ua;rw[<-OT];by_cases k1:b.term.kind=1
  ·have d1:decide (b.term.kind=1)=true:=decide_eq_true k1;have hu:uk=false:=by rw[OT];simp[dh,k1]
   rw[hu,if_neg (by decide)];refine aS ?_;simp -dsimp only[simprocAttr,↓aa,zp,d1];refine ah ?_;refine cr rfl ?_;refine a6 ?_;show bc _ _;refine zq rfl ?_ ?_;simp -dsimp only[simprocAttr,↓aa,zp,zc]
   all_goals rfl
  have d1:decide (b.term.kind=1)=false:=decide_eq_false k1;by_cases k4:b.term.kind=4
  ·have d4:decide (b.term.kind=4)=true:=decide_eq_true k4;have hu:uk=false:=by rw[OT];simp[dh,k4]
   rw[hu,if_neg (by decide)];refine aS ?_;simp -dsimp only[simprocAttr,↓aa,zp,d1,d4];refine ah ?_;refine cr rfl ?_;refine a6 ?_;show bc _ _;refine zq rfl ?_ ?_;simp -dsimp only[simprocAttr,↓aa,zp,zc]
   all_goals rfl
  have d4:decide (b.term.kind=4)=false:=decide_eq_false k4;have hu:uk=true:=by rw[OT];simp[dh,k1,k4]
  rw[hu,if_pos rfl];refine aS ?_;simp -dsimp only[simprocAttr,↓aa,zp,d1,d4];refine ah ?_;refine cH rfl ?_;refine fb hT hm ?_;simp -dsimp only[simprocAttr,↓aa,zp,QV];refine ba ?_;show bc _ _;refine zq rfl ?_ ?_;simp -dsimp only[simprocAttr,↓aa,zp,zc]
  all_goals rfl
 refine eN (cs:=(C.set (k*7) (aK ps)).set (k*7+1) (.aC 4 (is.map Ins.enc) (.tok 9))) 5 ((C.set (k*7) (aK ps)).set (k*7+1) (bf is)) rfl (by simp only[List.length_set]) (ed (ed Od trivial) trivial) (uX fun _=>Sub.sh rfl) ?_;simp -dsimp only[simprocAttr,↓aa,zp];refine aS ?_;simp -dsimp only[simprocAttr,↓aa,zp,EI,Int.toNat_natCast,Nat.mul_one]
 repeat(refine⟨by omega,?_⟩)
 refine⟨ob (by kernel_rfl),?_⟩;refine ah ?_;refine aD 4 8 (.im (.int .i64) es) rfl (by simp[aj.aF]) trivial rfl (bQ.mm rfl) ?_;simp -dsimp only[simprocAttr,↓aa,zp];have hpA:∀y:ae,bo A k [y]=A.set k y:=fun y=>cG y (by omega);have K5:=zV (g:=g) (ord:=ord) (inn:=inn) (N:=N) (nx:=x) (n:=n) (m:=8) (dC (Nat.zero_le _) _ (Qx (k:=k) (ps:=ps) (is:=is) (t:=b.term) (arg:=ua E b.term) Kt)) (iq (i:=k) (x:=.im (.int .i64) es) Ks (hE.upto 0)) (Nat.le_refl _);unfold nk wC at K5;refine kC ?_;simp -dsimp only[simprocAttr,↓aa,zp,hA,hpA,Int.toNat_natCast,Nat.mul_one]
 repeat(refine⟨by omega,?_⟩)
 refine ba ?_;simp -dsimp only[simprocAttr,↓aa,zp,zr,Tryz.results73];exact⟨K5,trivial,es,hE,rfl⟩
def Gk(inn:List (List Int))(N:List (List Bool))(E:Env)(e:Edge):Edge :=
 ⟨e.block,if 1<(inn.getD e.block.toNat []).length then(cx 0 (N.getD e.block.toNat [])).map (gE E)else []⟩
theorem Dr{g:Func}{ord:List Int}{inn:List (List Int)}{N:List (List Bool)}{nx:Int}{n k many:Nat}{C A:List ae}{b:Block}{es:List (Value×ae)}{E:Env}(Kt:aw 0 C)(Ks:aw 0 A)
  (hw:T' g many) (hC:C.length=n*7) (hA:A.length=n) (Od:∀d∈C,d.scalar) (hk:k<n) (hn:n<=128) (Z5:g.blocks.length=n) (hb:g.blocks[k]?=some b)
  (xK:inn.length=n) (hNl:N.length=n) (hNr:∀s∈N,s.length<=4096) (hir:∀l∈inn,l.length<=2 ^ 30) (hak:A[k]?=some (.im (.int .i64) es)) (hE:eo es E) (XX:C[k*7+6]?=some (.aC 2 [] .ex)) :
  bd Tryz.prog 74 (nk g ord inn N nx n C A) [.mp 7 0,aI k] (fun r O'=>r=.cD []∧O'=nk g ord inn N nx n (C.set (k*7+6) (aH (b.term.to.map (Gk inn N E)))) A):=by
 obtain⟨jD,hte⟩:=hw.to b (List.mem_of_getElem? hb);obtain⟨T,WM⟩:∃T,T=b.term.to.map (Gk inn N E):=⟨_,rfl⟩
 have WN:T.length=b.term.to.length:=by rw[WM,List.length_map]
 have XK:∀(z:Nat) e,b.term.to[z]?=some e->T[z]?=some (Gk inn N E e):=fun z e he=>by
  rw[WM,List.getElem?_map,he];rfl
 rw[<-WM];clear WM;have Z8:k*7+6<C.length:=by omega
 have hg6:∀x:ae,(C.set (k*7+6) x)[k*7+6]?=some x:=fun x=>List.getElem?_set_self Z8;have EI:∀x:ae,(C.set (k*7+6) x).length=n*7:=fun x=>by rw[List.length_set,hC]
 have hp6:∀x z:ae,bo (C.set (k*7+6) x) (k*7+6) [z]=C.set (k*7+6) z:=fun x z=>by
  rw[cG _ (by simpa using Z8),List.set_set]
 have SM:∀(l:List Edge),∀o∈nk g ord inn N nx n (C.set (k*7+6) (.aC 2 (l.map Edge.enc) (.tok 8))) A++[.spare l.length],o.upto 9:=fun l o ho=>by
  rcases List.mem_append.1 ho with q|q
  ·exact zV (iq (dC (Nat.zero_le _) _ Kt) (show ae.upto 9 (.aC 2 (l.map Edge.enc) (.tok 8)) from⟨Edge.ag _ _,by decide⟩)) Ks (by omega) o q
  rw[List.mem_singleton.1 q];trivial
 have K5:=zV (g:=g) (ord:=ord) (inn:=inn) (N:=N) (nx:=nx) (n:=n) (m:=8) (dC (Nat.zero_le _) _ (iq (i:=k*7+6) (x:=aH T) Kt (show ae.upto 0 (aH T) from⟨Edge.ag _ _,trivial⟩))) Ks (Nat.le_refl _);unfold nk wC at SM K5 ⊢;have gl:8<=8:=by omega
 refine dy hT true (8) Tryz.func74 rfl (by kernel_rfl) (by simp[Tryz.ntmps74]) (by assumption) ?_;show cc Tryz.prog _ _ _ ⟨92,_,_⟩;dsimp only[Tmp,TypeId,slotsOf];refine db 5 (k*7+6) rfl XX ?_;simp -dsimp only[simprocAttr,↓aa,zp];refine aS ?_;simp -dsimp only[simprocAttr,↓aa,zp,hb]
 repeat(refine⟨by omega,?_⟩)
 refine ah ?_;obtain⟨vF,EJ⟩:∃vF,vF=b.term.to.length:=⟨_,rfl⟩
 refine ai (aO (ι:={z:Nat // z<=vF}) (fun z=>⟨92,[(0,.mp 7 0),(1,aI k),(19,aH b.term.to),(20,aI vF),(21,aI z.1)],[.gone,.cells [aI 0,.aC 7 [] .ex],.gone,.gone,.gone,.cells (C.set (k*7+6) (.aC 2 ((T.take z.1).map Edge.enc) (.tok 8))),.cells A,.cells [aI g.name,ay g.blocks,aK ord,.aC 1 (inn.map aK) .sh,.aC 1 (N.map eG) .sh,aI nx,aI g.name,.ms 5 0 n n,.ms 6 0 n n],.spare z.1]⟩) (fun z=>vF-z.1) ⟨0,Nat.zero_le _⟩ ?_ ?_)
 ·refine zq rfl ?_ ?_;simp -dsimp only[simprocAttr,↓aa,zp,zc]
  all_goals first|rfl|(rw[EJ];exact Sub.refl _)
 rintro⟨z,hz⟩;refine aA (ah ?_);apply iz rfl<;>intro h
 ·refine cd ?_;have xl:z<vF:=by simpa using h
  obtain⟨e,he⟩:∃e,b.term.to[z]?=some e:=⟨b.term.to[z]'(by omega),List.getElem?_eq_getElem _⟩
  obtain⟨rJ,KF,he3⟩:=hte e (List.mem_of_getElem? he);obtain⟨j,hj⟩:∃j:Nat,e.block=(j:Int):=⟨e.block.toNat,by omega⟩
  obtain⟨is,hi⟩:∃is,inn[j]?=some is:=⟨inn[j]'(by omega),List.getElem?_eq_getElem _⟩
  obtain⟨s,hs⟩:∃s,N[j]?=some s:=⟨N[j]'(by omega),List.getElem?_eq_getElem _⟩
  have mW:=hNr s (List.mem_of_getElem? hs);have Vm:=hir is (List.mem_of_getElem? hi);have Sm:(inn.map aK)[j]?=some (aK is):=by rw[List.getElem?_map,hi];rfl
  have VX:(N.map eG)[j]?=some (.aC 1 (s.map eB) .sh):=by rw[List.getElem?_map,hs];rfl
  obtain⟨ys,Ct⟩:∃ys,ys=if 1<is.length then(cx 0 s).map (gE E)else []:=⟨_,rfl⟩
  have hed:Gk inn N E e=⟨(j:Int),ys⟩:=by
   rw[Ct];unfold Gk;rw[hj,Int.toNat_natCast,List.getD_eq_getElem?_getD,List.getD_eq_getElem?_getD,hi,hs];rfl
  have eH:(T.take (z+1)).map Edge.enc=(T.take z).map Edge.enc++[.agg [aI (j:Int),.aC 1 (ys.map aI) .sh]]:=by
   rw[List.take_add_one,XK z e he,hed,List.map_append];rfl
  have YS:((T.take z).map Edge.enc).length=z:=by rw[List.length_map,List.length_take];omega
  have eI:=SM (T.take z);have fJ:=SM (T.take (z+1));rw[show(T.take z).length=z by rw[List.length_take];omega]at eI;rw[show(T.take (z+1)).length=z+1 by rw[List.length_take];omega]at fJ;generalize (T.take z).map Edge.enc=TZ at *;refine aJ (ai ?_);refine aS ?_;simp -dsimp only[simprocAttr,↓aa,zp,he];refine ah ?_;refine aD 5 9 (.ip none [aI e.block,aK e.args]) rfl (by simp[aj.aF]) trivial rfl ?_ ?_;rotate_left;simp -dsimp only[simprocAttr,↓aa,zp];rotate_left
  ·exact bQ.mp rfl rfl
  refine bt 9 [(0,.mp 7 0),(1,aI k),(19,aH b.term.to),(20,aI vF),(21,aI z),(5,.ip none [aI e.block,aK e.args])] (by simp) (by omega) [.gone,.cells [aI 0,.aC 7 [] .ex],.gone,.gone,.gone,.cells (C.set (k*7+6) (.aC 2 TZ (.tok 8))),.cells A,.cells [aI g.name,ay g.blocks,aK ord,.aC 1 (inn.map aK) .sh,.aC 1 (N.map eG) .sh,aI nx,aI g.name,.ms 5 0 n n,.ms 6 0 n n],.spare z] ?_ ?_ ?_ ?_ ?_
  ·rfl
  ·exact eI
  ·simp[fj,St.get,bF,bh,Go.Av.look,Sub.refl]
  ·simp[aj.upto,aw,ae.upto,az,Func.ag,Block.ag,Edge.ag,Ins.ag]
  refine aS ?_;simp -dsimp only[simprocAttr,↓aa,zp,hj];refine ah ?_;refine db 9 1 rfl rfl ?_;simp -dsimp only[simprocAttr,↓aa,zp];refine gI (⟨92,[(0,.mp 7 0),(1,aI k),(19,aH b.term.to),(20,aI vF),(21,aI z),(6,.mp 9 0)],[.gone,.cells [aI 0,.aC 7 [] .ex],.gone,.gone,.gone,.cells (C.set (k*7+6) (.aC 2 TZ (.tok 8))),.cells A,.cells [aI g.name,ay g.blocks,aK ord,.aC 1 (inn.map aK) .sh,.aC 1 (N.map eG) .sh,aI nx,aI g.name,.ms 5 0 n n,.ms 6 0 n n],.spare z,.cells [aI j,.aC 1 (ys.map aI) (.tok 10)],.spare ys.length]⟩) ?_ ?_
  ·by_cases hq:1<is.length
   ·have d:decide ((1:Int)<is.length)=true:=decide_eq_true (by omega);rw[if_pos hq]at Ct;refine aS ?_;simp -dsimp only[simprocAttr,↓aa,zp,hj,Sm,d,Int.toNat_natCast,Nat.mul_one]
    repeat(refine⟨by omega,?_⟩)
    refine⟨ob (by kernel_rfl),?_⟩;refine ah ?_;apply aP rfl<;>intro h
    ·refine aS ?_;simp -dsimp only[simprocAttr,↓aa,zp,hj,VX,Int.toNat_natCast,Nat.mul_one]
     repeat(refine⟨by omega,?_⟩)
     refine⟨ob (by kernel_rfl),?_⟩;refine ah ?_;refine ai (aO (ι:={v:Nat // v<=s.length}) (fun v=>⟨92,[(0,.mp 7 0),(1,aI k),(19,aH b.term.to),(20,aI vF),(21,aI z),(6,.mp 9 0),(46,.aC 1 (s.map eB) .sh),(47,aI s.length),(48,aI v.1)],[.gone,.cells [aI 0,.aC 7 [] .ex],.gone,.gone,.gone,.cells (C.set (k*7+6) (.aC 2 TZ (.tok 8))),.cells A,.cells [aI g.name,ay g.blocks,aK ord,.aC 1 (inn.map aK) .sh,.aC 1 (N.map eG) .sh,aI nx,aI g.name,.ms 5 0 n n,.ms 6 0 n n],.spare z,.cells [aI j,.aC 1 (((cx 0 (s.take v.1)).map (gE E)).map aI) (.tok 10)],.spare (cx 0 (s.take v.1)).length]⟩) (fun v=>s.length-v.1) ⟨0,Nat.zero_le _⟩ ?_ ?_)
     ·refine zq rfl ?_ ?_;simp -dsimp only[simprocAttr,↓aa,zp,zc]
      all_goals rfl
     rintro⟨v,hv⟩;refine aA (ah ?_);apply iz rfl<;>intro h
     ·refine cd ?_;have Bj:v<s.length:=by simpa using h
      obtain⟨c,hc⟩:∃c,s[v]?=some c:=⟨s[v],by simp[Bj]⟩
      have Oq:(s.map eB)[v]?=some (.v (.bool c)):=by rw[List.getElem?_map,hc];rfl
      have TU:=qK hc 0;rw[Nat.zero_add]at TU;have Jb:(cx 0 (s.take v)).length<=4096:=by
       have h1:=gU (s.take v) 0;have h2:=List.countP_le_length (p:=id) (l:=s.take v);rw[List.length_take]at h2;omega
      refine aJ (ai ?_);refine aS ?_;simp -dsimp only[simprocAttr,↓aa,zp,Oq];refine ah ?_;cases c with
      | true =>
       rw[if_pos rfl]at TU;have Cf:(cx 0 (s.take (v+1))).length=(cx 0 (s.take v)).length+1:=by rw[TU,List.length_append];rfl
       have wq:((cx 0 (s.take v)).map (gE E)).map aI++[aI (gE E (v:Int))]=((cx 0 (s.take (v+1))).map (gE E)).map aI:=by rw[TU];simp
       have Bk:(((cx 0 (s.take v)).map (gE E)).map aI).length=(cx 0 (s.take v)).length:=by simp
       have QV:=sO hE (v:Int);refine aA (ah ?_);refine cH rfl ?_;refine kC ?_;simp -dsimp only[simprocAttr,↓aa,zp,hak,QV,Bk,wq,hA,Int.toNat_natCast,Nat.mul_one]
       repeat(refine⟨by omega,?_⟩)
       refine⟨ob (by kernel_rfl),?_⟩;refine ah ?_;refine cT ?_
       repeat(refine⟨by omega,?_⟩)
       refine fK ?_;refine⟨⟨v+1,Bj⟩,by simp;omega,?_⟩;dsimp only;rw[Cf];refine zq rfl ?_ ?_;simp -dsimp only[simprocAttr,↓aa,zp,zc]
       ·exact Sub.int (by simp)
       rfl
      | false =>
       rw[if_neg (by decide),List.append_nil]at TU;refine aA (ah ?_);apply aP rfl<;>intro h
       ·cases h
       refine la ?_;refine cT ?_
       repeat(refine⟨by omega,?_⟩)
       refine fK ?_;refine⟨⟨v+1,Bj⟩,by simp;omega,?_⟩;dsimp only;rw[TU];refine zq rfl ?_ ?_;simp -dsimp only[simprocAttr,↓aa,zp,zc]
       ·exact Sub.int (by simp)
       rfl
     refine aM ?_;simp -dsimp only[bS,ne_eq,Nat.reduceEqDiff,reduceCtorEq];have OU:s.length<=v:=by simpa using h
     rw[List.take_of_length_le OU];rw[Ct];show bc _ _;refine zq rfl ?_ ?_;simp -dsimp only[simprocAttr,↓aa,zp,zc]
     all_goals (simp;done)
    cases h
   have d:decide ((1:Int)<is.length)=false:=decide_eq_false (by omega);rw[if_neg hq]at Ct;subst Ct;refine aS ?_;simp -dsimp only[simprocAttr,↓aa,zp,hj,Sm,d,Int.toNat_natCast,Nat.mul_one]
   repeat(refine⟨by omega,?_⟩)
   refine⟨ob (by kernel_rfl),?_⟩;refine ah ?_;refine cr rfl ?_;refine a6 ?_;show bc _ _;refine zq rfl ?_ ?_;simp -dsimp only[simprocAttr,↓aa,zp,zc]
   all_goals rfl
  refine kC ?_;simp -dsimp only[simprocAttr,↓aa,zp,hg6,YS,EI,hp6,<-eH,Int.toNat_natCast,Nat.mul_one]
  repeat(refine⟨by omega,?_⟩)
  refine⟨ob (by kernel_rfl),?_⟩;refine ah ?_;rw[eH]at fJ ⊢;refine bt 9 [(0,.mp 7 0),(1,aI k),(19,aH b.term.to),(20,aI vF),(21,aI z)] (by simp) (by omega) [.gone,.cells [aI 0,.aC 7 [] .ex],.gone,.gone,.gone,.cells (C.set (k*7+6) (.aC 2 (TZ++[.agg [aI (j:Int),.aC 1 (ys.map aI) .sh]]) (.tok 8))),.cells A,.cells [aI g.name,ay g.blocks,aK ord,.aC 1 (inn.map aK) .sh,.aC 1 (N.map eG) .sh,aI nx,aI g.name,.ms 5 0 n n,.ms 6 0 n n],.spare (z+1)] ?_ ?_ ?_ ?_ ?_
  ·rfl
  ·exact fJ
  ·simp[fj,St.get,bF,bh,Go.Av.look,Sub.refl]
  ·simp[aj.upto,aw,ae.upto,az,Func.ag,Block.ag,Edge.ag,Ins.ag]
  refine cT ?_
  repeat(refine⟨by omega,?_⟩)
  refine fK ?_;refine⟨⟨z+1,xl⟩,by simp;omega,?_⟩;dsimp only;rw[eH];refine zq rfl ?_ ?_;simp -dsimp only[simprocAttr,↓aa,zp,zc]
  ·exact Sub.int (by simp)
  rfl
 have H3:vF<=z:=by simpa using h
 rw[List.take_of_length_le (by omega)];refine eN (cs:=C.set (k*7+6) (.aC 2 (T.map Edge.enc) (.tok 8))) 5 (C.set (k*7+6) (aH T)) rfl (by simp only[List.length_set]) (ed Od trivial) (uX fun _=>Sub.sh rfl) ?_;simp -dsimp only[simprocAttr,↓aa,zp];refine aM ?_;simp -dsimp only[bS,ne_eq,Nat.reduceEqDiff,reduceCtorEq]
 skip
 simp -dsimp only[simprocAttr,↓aa,zp,zr,Tryz.results74];exact⟨K5,trivial⟩
end Go.Proofs.YtjdnhamngpafmaaGreat
namespace Go.Proofs.YtjdnhamngpafmaaGreat
open Go.Av
def fR(f:Func):Func:=⟨f.name,(ec (eC f)).map fun k=>n4 (ax f k) (ax (bj (eC f)) (eK (eC f) k)).term.to⟩
def nE(m v:Int):Int:=max m (v+1)
def lq(m:Int)(i:Ins):Int:=i.args.foldl nE (nE m i.to)
def jE(m:Int)(b:Block):Int:=b.ins.foldl lq (b.params.foldl nE (nE m b.term.arg))
def lr(f:Func):Int:=f.blocks.foldl jE 0
structure Ws where
 nx:Int
 B:Nat->Option Block
 EE:Nat->Env
structure Wb where
 E:Env
 nx:Int
 ps:List Int
 is:List Ins
section
variable (g:Func) (inn:List (List Int)) (N:List (List Bool))
def dn(k:Nat)(S:Ws):Wb :=
 if k=0 then
  ⟨dG (dG ot S.nx (ax g 0).params) (S.nx+(ax g 0).params.length) (sr (dG ot S.nx (ax g 0).params) (N.getD 0 []) (N.getD 0 []).length),
   S.nx+(ax g 0).params.length+(sr (dG ot S.nx (ax g 0).params) (N.getD 0 []) (N.getD 0 []).length).length,
   dj S.nx (ax g 0).params.length,
   (dj (S.nx+(ax g 0).params.length) (sr (dG ot S.nx (ax g 0).params) (N.getD 0 []) (N.getD 0 []).length).length).map sI⟩
 else if(inn.getD k []).length=1 then⟨S.EE ((inn.getD k []).headD 0).toNat,S.nx,[],[]⟩
 else⟨dG ot S.nx (cx 0 (N.getD k [])),S.nx+(cx 0 (N.getD k [])).length,dj S.nx (cx 0 (N.getD k [])).length,[]⟩
def ia(k:Nat)(S:Ws):Ws :=
 let w:=dn g inn N k S;let b:=ax g k;let q:=cC w.E w.nx b.ins
 ⟨q.2.1,fun j=>if j=k then some ⟨w.ps,w.is++q.2.2,⟨b.term.kind,ua q.1 b.term,b.term.n,b.term.cases,[]⟩⟩else S.B j,fun j=>if j=k then q.1 else S.EE j⟩
def fg(l:List Int):Ws:=l.foldl (fun S k=>ia g inn N k.toNat S) ⟨0,fun _=>none,fun _=>ot⟩
def rU(S:Ws)(j:Nat):Block:=n4 ((S.B j).getD ⟨[],[],⟨0,0,0,[],[]⟩⟩) ((ax g j).term.to.map (Gk inn N (S.EE j)))
end
def c4(f:Func):List (List Bool):=rS (fR f) (lr f).toNat (bH (bj (eC f)))
def me(f:Func):Ws:=fg (fR f) (cI (bj (eC f))) (c4 f) (bH (bj (eC f)))
def dR(f:Func):Func:=⟨f.name,(List.range (fR f).blocks.length).map (rU (fR f) (cI (bj (eC f))) (c4 f) (me f))⟩
def Xm:Option Block->List ae
 | none=>[.aC 1 [] .ex,.aC 4 [] .ex,aI 0,aI 0,aI 0,.aC 1 [] .ex,.aC 2 [] .ex]
 | some b=>[aK b.params,bf b.ins,aI b.term.kind,aI b.term.arg,aI b.term.n,aK b.term.cases,.aC 2 [] .ex]
theorem rQ:∀(l:List Ins) (E:Env) (nx:Int),nx<=(cC E nx l).2.1∧(cC E nx l).2.1<=nx+l.length
 | [],E,nx=>by simp[cC]
 | i::r,E,nx=>by
  rw[cC];split
  ·have:=rQ r (n5 E i.to ((i.args.map (gE E)).headD 0)) nx;rw[List.length_cons];omega
  have:=rQ r (n5 E i.to nx) (nx+1);rw[List.length_cons];simp only;omega
structure G8(g:Func)(ord:List Int)(inn:List (List Int))(N:List (List Bool))(many n:Nat):Prop where
 gw:T' g many
 len:g.blocks.length=n
 zh:∀k∈ord,0<=k∧k<n
 nd:∀(i j:Nat) k,ord[i]?=some k->ord[j]?=some k->i=j
 one:∀(i:Nat) k p,ord[i]?=some k->k≠0->inn[k.toNat]?=some [p]->p∈ord.take i
 few:ord.length<=128
 O8:inn.length=n
 Wh:∀l∈inn,l.length<=2 ^ 30
 Nl:N.length=n
 Ns:∀s∈N,s.length=many
 cases:∀b∈g.blocks,b.term.cases.length<=4096
 cp:∀b∈g.blocks,∀i∈b.ins,i.op=100->i.args.length=1
structure WI(ord:List Int)(n i:Nat)(S:Ws)(C A:List ae):Prop where
 uy:C.length=n*7
 ch:∀j<n,∀r<7,C[j*7+r]?=(Xm (S.B j))[r]?
 qJ:A.length=n
 en:∀k∈ord.take i,∃es,A[k.toNat]?=some (.im (.int .i64) es)∧eo es (S.EE k.toNat)
 no:∀j:Nat,(j:Int) ∉ ord.take i->S.B j=none
 ok:∀k∈ord.take i,∃b,S.B k.toNat=some b
 Qv:aw 0 C
 Pl:∀d∈C,d.scalar
 Qu:aw 0 A
 nx:0<=S.nx∧S.nx<=i*20000
theorem Ru{C:List ae}{n k:Nat}(hC:C.length=n*7)(hk:k<n){ps:List Int}{is:List Ins}{t:Term}{arg:Int}:(BB C k ps is t arg).length=n*7:=by
 unfold BB;rw[gz (by simp only[List.length_set,List.length_cons,List.length_nil];omega),List.length_set,List.length_set,hC]
theorem Rt{C:List ae}{n k:Nat}(hC:C.length=n*7)(hk:k<n){ps:List Int}{is:List Ins}{t:Term}{arg:Int}{j r:Nat}(hr:r<7) :
  (BB C k ps is t arg)[j*7+r]?=if j=k then(Xm (some ⟨ps,is,⟨t.kind,arg,t.n,t.cases,[]⟩⟩))[r]? else C[j*7+r]?:=by
 unfold BB;rw[nL (by simp only[List.length_set,List.length_cons,List.length_nil];omega)];simp only[List.length_cons,List.length_nil];by_cases e:j=k
 ·subst e;rw[if_pos rfl]
  match r,hr with
  | 0,_ =>
   rw[if_neg (by omega),List.getElem?_set_ne (by omega),Nat.add_zero,List.getElem?_set_self (by omega)];rfl
  | 1,_ =>
   rw[if_neg (by omega),List.getElem?_set_self (by rw[List.length_set];omega)];rfl
  | 2,_ | 3,_ | 4,_ | 5,_ | 6,_ =>
   rw[if_pos (by omega),show ∀a b,j*7+a-(j*7+b)=a-b from fun a b=>by omega];rfl
 rw[if_neg e,if_neg (by omega),List.getElem?_set_ne (by omega),List.getElem?_set_ne (by omega)]
section
variable {g:Func} {ord:List Int} {inn:List (List Int)} {N:List (List Bool)} {many n:Nat}
theorem G8.row(h:G8 g ord inn N many n){k:Nat}(hk:k<n):N[k]?=some (N.getD k [])∧(N.getD k []).length=many∧inn[k]?=some (inn.getD k [])∧(inn.getD k []).length<=2 ^ 30∧g.blocks[k]?=some (ax g k):=by
 have h1:N[k]?=some (N[k]'(by rw[h.Nl];exact hk)):=List.getElem?_eq_getElem _;have h2:inn[k]?=some (inn[k]'(by rw[h.O8];exact hk)):=List.getElem?_eq_getElem _;have h3:N.getD k []=N[k]'(by rw[h.Nl];exact hk):=by rw[List.getD_eq_getElem?_getD,h1];rfl
 have h4:inn.getD k []=inn[k]'(by rw[h.O8];exact hk):=by rw[List.getD_eq_getElem?_getD,h2];rfl
 rw[h3,h4];refine⟨h1,h.Ns _ (List.getElem_mem _),h2,h.Wh _ (List.getElem_mem _),?_⟩;have:=gS (f:=g) (k:=(k:Int)) (by omega) (by rw[h.len];omega)
 rwa [Int.toNat_natCast]at this
theorem lG(h:G8 g ord inn N many n){k:Nat}(hk:k<n)(S:Ws):S.nx<=(dn g inn N k S).nx∧(dn g inn N k S).nx<=S.nx+8192∧(dn g inn N k S).is.length<=4096:=by
 obtain⟨h1,h2,h3,h4,h5⟩:=h.row hk;have hm:=h.gw.M3;unfold dn;split
 ·rename_i e;subst e;have hz:=Be (dG ot S.nx (ax g 0).params) (N.getD 0 []) (N.getD 0 []).length;have hp:=(h.gw.Fu _ (List.mem_of_getElem? h5)).1;have Q7:(ax g 0).params.length<=4096:=hp;simp only[List.length_map,gn];omega
 split
 ·simp only[List.length_nil];omega
 have e1:=gU (N.getD k []) 0;have e2:=List.countP_le_length (p:=id) (l:=N.getD k []);simp only[List.length_nil];omega
theorem WI.step(h:G8 g ord inn N many n){i:Nat}{S:Ws}{C A:List ae}(hI:WI ord n i S C A){k:Nat}(hk:ord[i]?=some (k:Int)){es:List (Value×ae)}
  (hE:eo es (cC (dn g inn N k S).E (dn g inn N k S).nx (ax g k).ins).1) :
  WI ord n (i+1) (ia g inn N k S) (BB C k (dn g inn N k S).ps ((dn g inn N k S).is++(cC (dn g inn N k S).E (dn g inn N k S).nx (ax g k).ins).2.2) (ax g k).term (ua (cC (dn g inn N k S).E (dn g inn N k S).nx (ax g k).ins).1 (ax g k).term))
   (A.set k (.im (.int .i64) es)):=by
 have lU:k<n:=by have:=h.zh _ (List.mem_of_getElem? hk);omega
 obtain⟨h1,h2,h3⟩:=lG h lU S;have hr:=(h.row lU).2.2.2.2;have Z6:=(h.gw.ins _ (List.mem_of_getElem? hr)).1;have tD:=rQ (ax g k).ins (dn g inn N k S).E (dn g inn N k S).nx;have KV:=hI.nx;have eH:ord.take (i+1)=ord.take i++[(k:Int)]:=by rw[List.take_add_one,hk];rfl
 refine⟨Ru hI.uy lU,fun j hj r hr=>?_,by rw[List.length_set,hI.qJ],fun j hj=>?_,fun j hj=>?_,fun j hj=>?_,Qx hI.Qv,G7 hI.Pl,iq hI.Qu (hE.upto 0),?_⟩
 ·rw[Rt hI.uy lU hr];unfold ia;simp only;by_cases e:j=k
  ·subst e;rw[if_pos rfl,if_pos rfl]
  rw[if_neg e,if_neg e];exact hI.ch j hj r hr
 ·rw[eH]at hj;by_cases e:j.toNat=k
  ·refine⟨es,?_,?_⟩
   ·rw[e,List.getElem?_set_self (by rw[hI.qJ];exact lU)]
   unfold ia;simp only;rw[if_pos e];exact hE
  rcases List.mem_append.1 hj with q|q
  ·obtain⟨es',q1,q2⟩:=hI.en j q;refine⟨es',?_,?_⟩
   ·rw[List.getElem?_set_ne (fun x=>e x.symm),q1]
   unfold ia;simp only;rw[if_neg e];exact q2
  rw[List.mem_singleton]at q;subst q;exact absurd (Int.toNat_natCast k) e
 ·rw[eH]at hj;unfold ia;simp only;rw[if_neg (fun e=>hj (by rw[e];simp))];exact hI.no j fun q=>hj (List.mem_append_left _ q)
 ·rw[eH]at hj;unfold ia;simp only;by_cases e:j.toNat=k
  ·rw[if_pos e];exact⟨_,rfl⟩
  rw[if_neg e];rcases List.mem_append.1 hj with q|q
  ·exact hI.ok j q
  rw[List.mem_singleton]at q;subst q;exact absurd (Int.toNat_natCast k) e
 show 0<=(cC _ _ _).2.1∧(cC _ _ _).2.1<=_;omega
structure WE(g:Func)(inn:List (List Int))(N:List (List Bool))(n j:Nat)(S:Ws)(C A:List ae):Prop where
 uy:C.length=n*7
 ch:∀i<n,∀r<7,C[i*7+r]?=(if i<j then(rU g inn N S i).enc.cells else Xm (S.B i))[r]?
 ok:∀i<n,∃b,S.B i=some b
 qJ:A.length=n
 en:∀i<n,∃es,A[i]?=some (.im (.int .i64) es)∧eo es (S.EE i)
 Qv:aw 0 C
 Pl:∀d∈C,d.scalar
 Qu:aw 0 A
theorem WI.done{i:Nat}{S:Ws}{C A:List ae}(hI:WI ord n i S C A)(cz:∀j<n,(j:Int)∈ord.take i):WE g inn N n 0 S C A:=by
 refine⟨hI.uy,fun j hj r hr=>?_,fun j hj=>?_,hI.qJ,fun j hj=>?_,hI.Qv,hI.Pl,hI.Qu⟩
 ·rw[if_neg (by omega)];exact hI.ch j hj r hr
 ·have:=hI.ok _ (cz j hj)
  rwa [Int.toNat_natCast]at this
 have:=hI.en _ (cz j hj)
 rwa [Int.toNat_natCast]at this
theorem WE.step{j:Nat}{S:Ws}{C A:List ae}(hI:WE g inn N n j S C A)(hj:j<n):WE g inn N n (j+1) S (C.set (j*7+6) (aH ((ax g j).term.to.map (Gk inn N (S.EE j))))) A:=by
 refine⟨by rw[List.length_set,hI.uy],fun i hi r hr=>?_,hI.ok,hI.qJ,hI.en,iq hI.Qv ⟨Edge.ag _ _,trivial⟩,ed hI.Pl trivial,hI.Qu⟩;have h0:=hI.ch i hi r hr;rw[List.getElem?_set];by_cases e:i=j
 ·subst e;rw[if_neg (Nat.lt_irrefl i)]at h0;rw[if_pos (Nat.lt_succ_self i)];obtain⟨b,hb⟩:=hI.ok i hi;rw[hb]at h0;unfold rU;rw[hb]
  match r,hr with
  | 0,_ | 1,_ | 2,_ | 3,_ | 4,_ | 5,_ =>
   rw[if_neg (by omega),h0];rfl
  | 6,_ =>
   rw[if_pos rfl,if_pos (by rw[hI.uy];omega)];rfl
 rw[if_neg (by omega),h0];by_cases e2:i<j
 ·rw[if_pos e2,if_pos (by omega)]
 rw[if_neg e2,if_neg (by omega)]
theorem WE.cells{S:Ws}{C A:List ae}(hI:WE g inn N n n S C A):C=au (((List.range n).map (rU g inn N S)).map Block.enc):=by
 have cP:∀x∈((List.range n).map (rU g inn N S)).map Block.enc,x.cells.length=7:=fun x hx=>by
  obtain⟨b,_,rfl⟩:=List.mem_map.1 hx;rfl
 have hl:=bE cP;rw[List.length_map,List.length_map,List.length_range]at hl;refine List.ext_getElem? fun p=>?_;by_cases hp:p<n*7
 ·obtain⟨i,r,hi,hr,e⟩:∃i r,i<n∧r<7∧p=i*7+r:=⟨p / 7,p % 7,by omega,by omega,by omega⟩
  subst e;rw[hI.ch i hi r hr,if_pos hi];have hx:(((List.range n).map (rU g inn N S)).map Block.enc)[i]?=some (rU g inn N S i).enc:=by
   rw[List.getElem?_map,List.getElem?_map,List.getElem?_range hi];rfl
  have hc:(rU g inn N S i).enc.cells[r]?=some ((rU g inn N S i).enc.cells[r]'hr):=List.getElem?_eq_getElem _;rw[jh cP hx hc,hc]
 rw[List.getElem?_eq_none (by rw[hI.uy];omega),List.getElem?_eq_none (by omega)]
end
end Go.Proofs.YtjdnhamngpafmaaGreat
namespace Go.Proofs.YtjdnhamngpafmaaGreat
open Go.Av
def VE(E:Env)(es es':List (Int×SV)):Prop:=∀w x,E w=some x->fk es' x=fk es w
def xi(xs:List Int)(es:List (Int×SV)):List (Int×SV):=xs.foldl (fun es x=>cJ es x (.word 0)) es
section
variable (u v:bY) (L:Int->Int->Prop) (β:Int->Int->Int) (En:Int->Int->Nat->Env) (Ps:Int->Int->Nat->Nat) (c:Int)
structure Qy(fn b:Int):Prop where
 Xo:∀(m:Nat) i,(ax (aL u fn) b).ins[m]?=some i->i.op=100->∃a y,i.args=[a]∧En fn b m a=some y∧En fn b (m+1)=n5 (En fn b m) i.to y∧Ps fn b (m+1)=Ps fn b m
 ins:∀(m:Nat) i,(ax (aL u fn) b).ins[m]?=some i->i.op≠100->∃x,(ax (aL v fn) (β fn b)).ins[Ps fn b m]?=some ⟨x,i.op,i.n,i.args.map (gE (En fn b m))⟩ ∧
  (∀a∈i.args,∃y,En fn b m a=some y)∧En fn b (m+1)=n5 (En fn b m) i.to x∧(∀w y,En fn b m w=some y->y≠x)∧Ps fn b (m+1)=Ps fn b m+1
 fin:(ax (aL v fn) (β fn b)).ins[Ps fn b (ax (aL u fn) b).ins.length]?=none
 term:(ax (aL v fn) (β fn b)).term.kind=(ax (aL u fn) b).term.kind∧(ax (aL v fn) (β fn b)).term.n=(ax (aL u fn) b).term.n∧(ax (aL v fn) (β fn b)).term.cases=(ax (aL u fn) b).term.cases
 arg:dh (ax (aL u fn) b).term=true->En fn b (ax (aL u fn) b).ins.length (ax (aL u fn) b).term.arg=some (ax (aL v fn) (β fn b)).term.arg
 Us:∀(q:Nat) e,(ax (aL u fn) b).term.to[q]?=some e->∃e',(ax (aL v fn) (β fn b)).term.to[q]?=some e'∧L fn e.block∧e'.block=β fn e.block∧Ps fn e.block 0=0∧(ax (aL u fn) e.block).params=[] ∧
  ∀es es',VE (En fn b (ax (aL u fn) b).ins.length) es es'->VE (En fn e.block 0) es (cN es' (ax (aL v fn) (β fn e.block)).params (cB es' e'.args))
structure yd:Prop where
 len:v.fns.length=u.fns.length
 main:v.main=u.main
 zero:∀fn:Int,0<=fn->fn<u.fns.length->L fn 0∧β fn 0=0∧(ax (aL v fn) 0).params.length=(ax (aL u fn) 0).params.length∧(Ps fn 0 0:Int)+1<=c ∧
  ∃(xs:List Int) (B:List Ins),xs.length=Ps fn 0 0∧(ax (aL v fn) 0).ins=xs.map sI++B∧∀args:List SV,args.length=(ax (aL u fn) 0).params.length->VE (En fn 0 0) (cN [] (ax (aL u fn) 0).params args) (xi xs (cN [] (ax (aL v fn) 0).params args))
 Xk:∀fn b:Int,0<=fn->fn<u.fns.length->L fn b->Qy u v L β En Ps fn b
structure Zj(f f':Fr):Prop where
 ids:f'.bW=f.bW∧f'.dx=f.dx∧f'.fn=f.fn
 at_:L f.fn f.blk
 blk:f'.blk=β f.fn f.blk
 pos:f'.pos=Ps f.fn f.blk f.pos
 vals:VE (En f.fn f.blk f.pos) f.vals f'.vals
def Jo(t t':Int):List Fr->List Fr->Prop
 | [],[]=>True
 | f::r,f'::r'=>(∀x,Zj L β En Ps { f with vals:=cJ f.vals t x } { f' with vals:=cJ f'.vals t' x })∧Jo f.to f'.to r r'
 | _,_=>False
def QF:List Fr->List Fr->Prop
 | f::r,f'::r'=>Zj L β En Ps f f'∧Jo L β En Ps f.to f'.to r r'
 | _,_=>False
def q9(m m':Mach):Prop:=∃fs l,m'=m.put fs l∧(m.over=false->QF L β En Ps m.frames fs)∧c*m.left<=l
end
theorem VE.take{E:Env}{es es':List (Int×SV)}(h:VE E es es'){l:List Int}(hl:∀a∈l,∃y,E a=some y):cB es' (l.map (gE E))=cB es l:=by
 unfold cB;rw[List.map_map];refine List.map_congr_left fun a ha=>?_;obtain⟨y,hy⟩:=hl a ha;show fk es' (gE E a)=_;unfold gE;rw[hy];exact h a y hy
theorem VE.put{E:Env}{es es':List (Int×SV)}(h:VE E es es'){t x:Int}(hx:∀w y,E w=some y->y≠x)(s:SV):VE (n5 E t x) (cJ es t s) (cJ es' x s):=fun w y hw=>by
 rw[mF,mF];unfold n5 at hw;split at hw
 ·rename_i e;rw[Option.some.injEq]at hw;rw[if_pos hw,if_pos e.symm]
 rename_i e;rw[if_neg (fun q=>hx w y hw q.symm),if_neg (fun q=>e q.symm)];exact h w y hw
theorem VE.Xo{E:Env}{es es':List (Int×SV)}(h:VE E es es'){t a y:Int}(ha:E a=some y):VE (n5 E t y) (cJ es t (fk es a)) es':=fun w z hw=>by
 rw[mF];unfold n5 at hw;split at hw
 ·rename_i e;rw[Option.some.injEq]at hw;rw[if_pos e.symm,<-hw];exact h a y ha
 rename_i e;rw[if_neg (fun q=>e q.symm)];exact h w z hw
theorem HC{i j:Ins}(h1:j.op=i.op)(h2:j.n=i.n)(X:Mach)(args:List SV):X.exec j args=X.exec i args:=by
 obtain⟨a1,a2,a3,a4⟩:=i;obtain⟨b1,b2,b3,b4⟩:=j;simp only at h1 h2;subst h1;subst h2;rfl
theorem zm{v:bY}{fn b:Int}{m:Mach}(ho:m.over=false)(hs:m.short=false){f':Fr}{r':List Fr}(h1:f'.fn=fn)(h2:f'.blk=b) :
  ∀(xs:List Int) (A B:List Ins) (tY:List (Int×SV)) (l:Int),(ax (aL v fn) b).ins=A++(xs.map sI++B)->(xs.length:Int)<=l ->
   Mach.Steps v xs.length (m.put ({ f' with pos:=A.length,vals:=tY }::r') l) (m.put ({ f' with pos:=A.length+xs.length,vals:=xi xs tY }::r') (l-xs.length))
 | [],A,B,tY,l,hi,hl=>by
   have:l-(([]:List Int).length:Int)=l:=by simp
   rw[this];exact .refl _
 | x::M,A,B,tY,l,hi,hl=>by
  rw[List.length_cons]at hl;have QW:(ax (aL v fn) b).ins=(A++[sI x])++(M.map sI++B):=by rw[hi];simp
  have q2:=zm ho hs h1 h2 (r':=r') M (A++[sI x]) B (cJ tY x (.word 0)) (l-1) QW (by omega);rw[List.length_append,List.length_singleton]at q2;have fq:Mach.step v { m.put ({ f' with pos:=A.length,vals:=tY }::r') l with left:=l-1 }=m.put ({ f' with pos:=A.length+1,vals:=cJ tY x (.word 0) }::r') (l-1):=by
   unfold Mach.step Mach.put;simp only;rw[h1,h2,hi,List.getElem?_append_right (Nat.le_refl _),Nat.sub_self];simp only[List.map_cons,List.cons_append,List.getElem?_cons_zero];rfl
  rw[show l-((x::M).length:Int)=l-1-M.length by rw[List.length_cons];omega,show A.length+(x::M).length=A.length+1+M.length by rw[List.length_cons];omega];refine .cons ho hs (by show 1<=l;omega) ?_;show Mach.Steps v M.length (Mach.step v { m.put ({ f' with pos:=A.length,vals:=tY }::r') l with left:=l-1 }) _;rw[fq];exact q2
section
variable {u v:bY} {L:Int->Int->Prop} {β:Int->Int->Int} {En:Int->Int->Nat->Env} {Ps:Int->Int->Nat->Nat} {c:Int}
theorem vM(T:yd u v L β En Ps c){m:Mach}(ho:m.over=false)(kG:m.short=false){fs':List Fr}{y:Int}{fn:Int}(mV:0<=fn∧fn<u.fns.length)(args:List SV)(hlen:args.length=(ax (aL u fn) 0).params.length){to to':Int}
  (hR:Jo L β En Ps to to' m.frames fs') (l0:0<=m.left) (l1:c*m.left+(c-1)<=y) :
  ∃n p8,Mach.Steps v n ((m.put fs' y).enter v fn args to') p8∧q9 L β En Ps c (m.enter u fn args to) p8:=by
 obtain⟨z1,z2,z3,z4,xs,B,z5,z6,z7⟩:=T.zero fn mV.1 mV.2;obtain⟨M,hM⟩:∃M,M=m.enter u fn args to:=⟨_,rfl⟩
 obtain⟨f',fC⟩:∃f':Fr,f'=⟨m.next+1,m.next,fn,0,0,to',cN [] (ax (aL v fn) 0).params args⟩:=⟨_,rfl⟩
 have hE:(m.put fs' y).enter v fn args to'=M.put ({ f' with pos:=([]:List Ins).length,vals:=cN [] (ax (aL v fn) 0).params args }::fs') y:=by
  rw[hM,fC];rfl
 have gK:0<=c*m.left:=Int.mul_nonneg (by omega) l0;have XD:M.over=false:=by rw[hM];exact ho
 have XE:M.short=false:=by rw[hM];exact kG
 have bJ:=zm (v:=v) (m:=M) XD XE (f':=f') (r':=fs') (fn:=fn) (b:=0) (by rw[fC]) (by rw[fC]) xs [] B (cN [] (ax (aL v fn) 0).params args) y (by rw[z6];rfl) (by omega);rw[hE];subst hM;refine⟨_,_,bJ,_,_,rfl,fun _=>?_,?_⟩
 ·show QF L β En Ps (⟨m.next+1,m.next,fn,0,0,to,cN [] (ax (aL u fn) 0).params args⟩::m.frames) _;rw[fC];exact⟨⟨⟨rfl,rfl,rfl⟩,z1,z2.symm,by show([]:List Ins).length+xs.length=_;rw[z5];simp,z7 args hlen⟩,hR⟩
 show c*m.left<=y-xs.length;omega
theorem Fb{m:Mach}{f f':Fr}{r r':List Fr}{y:Int}(hm:m.frames=f::r)(hR:Jo L β En Ps f.to f'.to r r')(l1:c*m.left<=y)(x:SV):q9 L β En Ps c (m.leave f x) ((m.put (f'::r') y).leave f' x):=by
 unfold Mach.leave;rw[hm];simp only[List.tail_cons,Mach.put];cases r with
 | nil =>
  cases r' with
  | nil=>exact⟨[],y,rfl,fun q=>(by simp[Mach.stop]at q),l1⟩
  | cons g' r'=>exact False.elim hR
 | cons g r =>
  cases r' with
  | nil=>exact False.elim hR
  | cons g' r' =>
   simp only;exact⟨{ g' with vals:=cJ g'.vals f'.to x }::r',y,rfl,fun _=>⟨hR.1 x,hR.2⟩,l1⟩
theorem IU(T:yd u v L β En Ps c)(hu:gd u)(hc:1<=c){m m':Mach}(hm:bR u m)(ho:m.over=false)(h1:1<=m.left)(hs:(Mach.step u { m with left:=m.left-1 }).short=false)
  (h5:¬((Mach.step u { m with left:=m.left-1 }).over=true∧(Mach.step u { m with left:=m.left-1 }).fin=5)) (hr:q9 L β En Ps c m m') :
  ∃n p8,Mach.Steps v n m' p8∧q9 L β En Ps c (Mach.step u { m with left:=m.left-1 }) p8:=by
 obtain⟨fs,l,rfl,OC,l1⟩:=hr;have OC:=OC ho;obtain⟨ct,kG⟩:=hm.over ho;have gK:1*m.left<=c*m.left:=Int.mul_le_mul_of_nonneg_right hc (by omega);have fS:c*(m.left-1)=c*m.left-c:=by rw[Int.mul_sub,Int.mul_one]
 have R8:c*1<=c*m.left:=Int.mul_le_mul_of_nonneg_left h1 (by omega);obtain⟨M,Oe⟩:∃M:Mach,M = { m with left:=m.left-1 }:=⟨_,rfl⟩
 have QT:M.left=m.left-1:=by rw[Oe]
 have QS:M.frames=m.frames:=by rw[Oe]
 have XD:M.over=false:=by rw[Oe];exact ho
 have XE:M.short=false:=by rw[Oe];exact kG
 have jB:∀fs' y,M.put fs' y=m.put fs' y:=fun fs' y=>by rw[Oe];rfl
 have Ux:∀{p8:Mach},(∃k m3,Mach.Steps v k p8 m3∧q9 L β En Ps c (Mach.step u M) m3)->Mach.step v (M.put fs (l-1))=p8->∃n p8,Mach.Steps v n (m.put fs l) p8∧q9 L β En Ps c (Mach.step u M) p8:=fun {p8} hR e=>by
  obtain⟨k,m3,s1,s2⟩:=hR;refine⟨k+1,m3,.cons ho kG (by show 1<=l;omega) ?_,s2⟩;have:Mach.step v { m.put fs l with left:=(m.put fs l).left-1 }=p8:=by rw[<-e,Oe];rfl
  rw[this];exact s1
 have one:∀{p8:Mach},q9 L β En Ps c (Mach.step u M) p8->Mach.step v (M.put fs (l-1))=p8->∃n p8,Mach.Steps v n (m.put fs l) p8∧q9 L β En Ps c (Mach.step u M) p8:=fun hR e=>Ux ⟨0,_,.refl _,hR⟩ e;have oL:bR u M:=by
  have:=(AD hm ho (by omega)).1
  rwa [Mach.uV h1,<-Oe]at this
 rw[<-Oe]at hs h5 ⊢;obtain⟨f,r,dQ⟩:∃f r,m.frames=f::r:=by
  cases hq:m.frames with
  | nil=>exact absurd hq ct
  | cons f r=>exact⟨f,r,rfl⟩
 rw[dQ]at OC QS;obtain⟨f',r',rfl⟩:∃f' r',fs=f'::r':=by
  cases fs with
  | nil=>exact False.elim OC
  | cons f' r'=>exact⟨f',r',rfl⟩
 obtain⟨hF,hR⟩:=OC;have M8:=oL.frames f (by rw[QS];simp);have hb:=hu.blocks _ (ko M8.fn.1 M8.fn.2) _ (gx M8.blk.1 M8.blk.2);have hB:=T.Xk f.fn f.blk M8.fn.1 M8.fn.2 hF.at_;have bL:=Py u QS;have iV:Mach.step v (M.put (f'::r') (l-1))=match (ax (aL v f.fn) (β f.fn f.blk)).ins[Ps f.fn f.blk f.pos]? with
   | none=>(M.put (f'::r') (l-1)).finish v f' (ax (aL v f.fn) (β f.fn f.blk)).term
   | some i=>((M.put (f'::r') (l-1)).bu { f' with pos:=f'.pos+1 }).act v { f' with pos:=f'.pos+1 } i (cB f'.vals i.args):=by
  have key:∀(bl:Block) (p:Nat),ax (aL v f'.fn) f'.blk=bl->f'.pos=p->Mach.step v (M.put (f'::r') (l-1))=match bl.ins[p]? with
    | none=>(M.put (f'::r') (l-1)).finish v f' bl.term
    | some i=>((M.put (f'::r') (l-1)).bu { f' with pos:=f'.pos+1 }).act v { f' with pos:=f'.pos+1 } i (cB f'.vals i.args):=by
   rintro _ _ rfl rfl;rfl
  exact key _ _ (by rw[hF.ids.2.2,hF.blk]) hF.pos
 cases hi:(ax (aL u f.fn) f.blk).ins[f.pos]? with
 | none =>
  rw[hi]at bL;simp only at bL;have oN:f.pos=(ax (aL u f.fn) f.blk).ins.length:=by
   have h2:=List.getElem?_eq_none_iff.1 hi;have h3:=M8.pos;omega
  have hV:=hF.vals;rw[oN]at hV iV;rw[hB.fin]at iV;simp only at iV;obtain⟨t1,t2,t3⟩:=hB.term;have along:∀(q:Nat) e,(ax (aL u f.fn) f.blk).term.to[q]?=some e->Mach.step u M=M.follow u f e->(∀e',(ax (aL v f.fn) (β f.fn f.blk)).term.to[q]?=some e'->Mach.step v (M.put (f'::r') (l-1))=(M.put (f'::r') (l-1)).follow v f' e')->∃n p8,Mach.Steps v n (m.put (f'::r') l) p8∧q9 L β En Ps c (Mach.step u M) p8:=fun q e he OR YJ=>by
   obtain⟨e',e1,e2,e3,e4,e5,e6⟩:=hB.Us q e he;refine one ?_ (YJ e' e1);rw[OR];refine⟨{ f' with blk:=e'.block,pos:=0,vals:=cN f'.vals (ax (aL v f'.fn) e'.block).params (cB f'.vals e'.args) }::r',l-1,rfl,fun _=>?_,by show c*M.left<=_;rw[QT];omega⟩;have eh:(M.follow u f e).frames = { f with blk:=e.block,pos:=0,vals:=cN f.vals (ax (aL u f.fn) e.block).params (cB f.vals e.args) }::r:=by
    show _::M.frames.tail=_;rw[QS];rfl
   rw[eh];refine⟨⟨hF.ids,e2,e3,e4.symm,?_⟩,hR⟩;show VE (En f.fn e.block 0) (cN f.vals (ax (aL u f.fn) e.block).params _) (cN f'.vals (ax (aL v f'.fn) e'.block).params _);rw[e5,e3,hF.ids.2.2];have:cN f.vals [] (cB f.vals e.args)=f.vals:=by cases cB f.vals e.args<;>rfl
   rw[this];exact e6 f.vals f'.vals hV
  unfold Mach.finish at bL;by_cases q4:(ax (aL u f.fn) f.blk).term.kind=4
  ·rw[if_pos q4]at bL;unfold Mach.finish at iV;rw[if_pos (by rw[t1];exact q4),t2]at iV;refine one ?_ iV;rw[bL];exact⟨f'::r',l-1,rfl,fun q=>(by cases q),by show c*M.left<=_;rw[QT];omega⟩
  rw[if_neg q4]at bL;by_cases q1:(ax (aL u f.fn) f.blk).term.kind=1
  ·rw[if_pos q1]at bL;have hl:=hb.term.jump q1;obtain⟨e,he⟩:∃e,(ax (aL u f.fn) f.blk).term.to[0]?=some e:=⟨(ax (aL u f.fn) f.blk).term.to[0]'(by omega),List.getElem?_eq_getElem _⟩
   rw[he]at bL;refine along 0 e he bL fun e' DA=>?_;rw[iV];unfold Mach.finish;rw[if_neg (by rw[t1];exact q4),if_pos (by rw[t1];exact q1),DA];rfl
  rw[if_neg q1]at bL;have On:=hB.arg (by unfold dh;simp[q1,q4]);have R4:=hV _ _ On;by_cases q0:(ax (aL u f.fn) f.blk).term.kind=0
  ·rw[if_pos q0]at bL;unfold Mach.finish at iV;rw[if_neg (by omega),if_neg (by omega),if_pos (by omega),R4]at iV;refine one ?_ iV;rw[bL];exact Fb QS hR (by rw[QT];omega) _
  rw[if_neg q0]at bL;by_cases qk:(fk f.vals (ax (aL u f.fn) f.blk).term.arg).kind≠0
  ·rw[if_pos qk]at bL;exact absurd ⟨by rw[bL];rfl,by rw[bL];rfl⟩ h5
  rw[if_neg qk]at bL;obtain⟨e,he⟩:=sE hb.term q0 q1 q4 (fk f.vals (ax (aL u f.fn) f.blk).term.arg).n;rw[he]at bL;refine along _ e he bL fun e' DA=>?_;rw[iV];unfold Mach.finish;have pD:gJ (ax (aL v f.fn) (β f.fn f.blk)).term=gJ (ax (aL u f.fn) f.blk).term:=by
   funext n
   unfold gJ;rw[t1,t3]
  rw[if_neg (by omega),if_neg (by omega),if_neg (by omega),R4,if_neg qk,pD,DA];rfl
 | some i =>
  rw[hi]at bL;simp only at bL;have Jc:=List.mem_of_getElem? hi;have Bg:=hb.ins i Jc;have bg:=I hi;by_cases dH:i.op=100
  ·obtain⟨a,y,a1,a2,a3,a4⟩:=hB.Xo f.pos i hi dH;have OR:Mach.step u M=M.bu { f with pos:=f.pos+1,vals:=cJ f.vals i.to (fk f.vals a) }:=by
    rw[bL];unfold Mach.act;rw[if_neg (by omega),if_neg (by omega)];have hex:(M.bu { f with pos:=f.pos+1 }).exec i (cB f.vals i.args)=(M.bu { f with pos:=f.pos+1 },fk f.vals a,0):=by
     unfold Mach.exec;rw[if_neg (by omega),if_neg (by omega),if_neg (by omega),if_neg (by omega),if_neg (by omega),if_neg (by omega),if_pos dH,a1];rfl
    rw[hex];rfl
   refine⟨0,_,.refl _,?_⟩;rw[OR];refine⟨f'::r',l,by rw[Oe];rfl,fun _=>?_,by show c*M.left<=_;rw[QT];omega⟩;have eh:(M.bu { f with pos:=f.pos+1,vals:=cJ f.vals i.to (fk f.vals a) }).frames = { f with pos:=f.pos+1,vals:=cJ f.vals i.to (fk f.vals a) }::r:=by
    show _::M.frames.tail=_;rw[QS];rfl
   rw[eh];refine⟨⟨hF.ids,hF.at_,hF.blk,by show f'.pos=Ps f.fn f.blk (f.pos+1);rw[a4,hF.pos],?_⟩,hR⟩;show VE (En f.fn f.blk (f.pos+1)) _ _;rw[a3];exact hF.vals.Xo a2
  obtain⟨x,x1,x2,x3,x4,x5⟩:=hB.ins f.pos i hi dH;rw[x1]at iV;simp only at iV;rw[hF.vals.take x2]at iV;have K6:Jo L β En Ps i.to x ({ f with pos:=f.pos+1 }::r) ({ f' with pos:=f'.pos+1 }::r') :=
   ⟨fun s=>⟨hF.ids,hF.at_,hF.blk,by show f'.pos+1=Ps f.fn f.blk (f.pos+1);rw[x5,hF.pos],by show VE (En f.fn f.blk (f.pos+1)) (cJ f.vals i.to s) (cJ f'.vals x s);rw[x3];exact hF.vals.put x4 s⟩,hR⟩
  suffices h:∃k m3,Mach.Steps v k (Mach.step v (M.put (f'::r') (l-1))) m3∧q9 L β En Ps c (Mach.step u M) m3 from Ux h rfl;have k1:c*M.left+(c-1)<=l-1:=by rw[QT];omega
  have k0:0<=M.left:=by rw[QT];omega
  rw[bL]at hs ⊢;rw[iV];have OM:M.frames≠[]:=by rw[QS];simp
  have nq:mX u M { f with pos:=f.pos+1 }:=⟨M8.fn,M8.blk,bg,M8.vals⟩
  have HN:mX u (M.bu { f with pos:=f.pos+1 }) { f with pos:=f.pos+1 }:=nq.of_heap (by rfl);have hM2:=oL.bu OM nq;have ha:=pf HN.vals i.args;have lK:=pT f.vals i.args;have HO:(M.bu { f with pos:=f.pos+1 }).frames = { f with pos:=f.pos+1 }::r:=by
   show _::M.frames.tail=_;rw[QS];rfl
  have e2:(M.put (f'::r') (l-1)).bu { f' with pos:=f'.pos+1 }=(M.bu { f with pos:=f.pos+1 }).put ({ f' with pos:=f'.pos+1 }::r') (l-1):=rfl;rw[e2];generalize l-1=y at *;have hvk:(({ f with pos:=f.pos+1 }:Fr)).vals=f.vals:=rfl;rw[hvk]at ha;unfold Mach.act at hs ⊢;have enter:∀fn:Int,0<=fn∧fn<u.fns.length->(cB f.vals i.args).length=(ax (aL u fn) 0).params.length->∃k m3,Mach.Steps v k (((M.bu { f with pos:=f.pos+1 }).put ({ f' with pos:=f'.pos+1 }::r') y).enter v fn (cB f.vals i.args) x) m3∧q9 L β En Ps c ((M.bu { f with pos:=f.pos+1 }).enter u fn (cB f.vals i.args) i.to) m3:=fun fn mV W1 =>
   vM T (m:=M.bu { f with pos:=f.pos+1 }) XD XE mV _ W1 (by rw[HO];exact K6) k0 k1
  have stop:∀e n:Int,∃k m3,Mach.Steps v k (((M.bu { f with pos:=f.pos+1 }).put ({ f' with pos:=f'.pos+1 }::r') y).stop e n) m3∧q9 L β En Ps c ((M.bu { f with pos:=f.pos+1 }).stop e n) m3:=fun e n =>
   ⟨0,_,.refl _,_,y,rfl,fun q=>(by cases q),by show c*M.left<=y;omega⟩
  by_cases vP:i.op=13
  ·rw[if_pos vP,if_pos vP];obtain⟨c1,c2,c3⟩:=Bg.call vP;exact enter _ ⟨c1,c2⟩ (by rw[lK];exact c3.symm)
  rw[if_neg vP]at hs;rw[if_neg vP,if_neg vP];by_cases xG:i.op=14
  ·rw[if_pos xG,if_pos xG];by_cases Gy:(b8 (cB f.vals i.args) 0).kind=2
   ·have mV:=SV.Wf.fn (jf ha 0) Gy;have z3:=(T.zero _ mV.1 mV.2).2.2.1;rw[z3];by_cases EI:(b8 (cB f.vals i.args) 0).kind=2∧(ax (aL u (b8 (cB f.vals i.args) 0).n) 0).params.length=(cB f.vals i.args).length
    ·rw[if_pos EI,if_pos EI];exact enter _ mV EI.2.symm
    rw[if_neg EI,if_neg EI];exact stop _ _
   rw[if_neg (fun q=>Gy q.1),if_neg (fun q=>Gy q.1)];exact stop _ _
  rw[if_neg xG]at hs;rw[if_neg xG,if_neg xG];have hx:=uG hM2 Bg lK ha;have Nf:=(Mach.se { f with pos:=f.pos+1 } i.to ((M.bu { f with pos:=f.pos+1 }).exec i (cB f.vals i.args))).1;rw[Nf]at hs;have Na:(M.bu { f with pos:=f.pos+1 }).left<=y:=by
   have:1*M.left<=c*M.left:=Int.mul_le_mul_of_nonneg_right hc k0;show M.left<=y;omega
  have X8:∀X:Mach,X.exec ⟨x,i.op,i.n,i.args.map (gE (En f.fn f.blk f.pos))⟩ (cB f.vals i.args)=X.exec i (cB f.vals i.args):=fun X=>HC rfl rfl X _;rw[X8,Mach.LJ _ _ _ _ _ hs hx.left.1 Na];generalize (M.bu { f with pos:=f.pos+1 }).exec i (cB f.vals i.args)=X at *;obtain⟨E,E2⟩:=X;have hxf:E.frames = { f with pos:=f.pos+1 }::r:=by
   rw[<-HO];exact hx.frames
  have Bk:E.left<=M.left:=hx.left.2;obtain⟨w1,w2⟩:=x6 E E2 { f with pos:=f.pos+1 } i.to;refine⟨0,_,.refl _,_,_,FJ E E2 { f with pos:=f.pos+1 } _ _ i.to _ _,fun _=>?_,?_⟩
  ·rw[w1,hxf];exact⟨K6.1 _,K6.2⟩
  rw[w2];have k2:c*M.left<=y:=by omega
  have:=Lm hc k2 (a:=M.left-E.left) (by omega);rw[show M.left-(M.left-E.left)=E.left by omega]at this;exact this
end
end Go.Proofs.YtjdnhamngpafmaaGreat
namespace Go.Proofs.YtjdnhamngpafmaaGreat
open Go.Av
section
variable {u v:bY} {L:Int->Int->Prop} {β:Int->Int->Int} {En:Int->Int->Nat->Env} {Ps:Int->Int->Nat->Nat} {c:Int}
theorem C6(T:yd u v L β En Ps c)(hu:gd u)(hc:1<=c):∀(k:Nat) (m m':Mach),bR u m->q9 L β En Ps c m m'->(Mach.run u k m).short=false->(Mach.run u k m).fin≠5->∃n p8,Mach.Steps v n m' p8∧q9 L β En Ps c (Mach.run u k m) p8
 | 0,m,m',hm,hr,hs,h5=>⟨0,m',.refl _,hr⟩
 | k+1,m,m',hm,hr,hs,h5=>by
  cases ho:m.over with
  | true =>
   rw[jX ho]at hs ⊢;exact⟨0,m',.refl _,hr⟩
  | false =>
   have bJ:Mach.run u (k+1) m=if(m.cU 1).short then m.cU 1 else Mach.run u k (Mach.step u (m.cU 1)):=by simp[Mach.run,ho]
   rw[bJ]at hs h5 ⊢;by_cases hp:m.left<1
   ·rw[s9 hp]at hs;simp at hs
   obtain⟨q1,q2,q3,q4,q5⟩:=AD hm ho hp;rw[if_neg (by simp[q3])]at hs h5 ⊢;have sQ:(m.cU 1).frames.length+(m.cU 1).left+1<=2 ^ 40:=by
    have:=hm.depth;rw[q4,q5];omega
   have fq:=bR.step hu q1 q2 sQ;have Nf:(Mach.step u (m.cU 1)).short=false:=by
    cases hx:(Mach.step u (m.cU 1)).short with
    | false=>rfl
    | true =>
     have ho:(Mach.step u (m.cU 1)).over=true:=by
      cases hy:(Mach.step u (m.cU 1)).over with
      | true=>rfl
      | false=>rw[(fq.over hy).2]at hx;cases hx
     rw[jX ho,hx]at hs;cases hs
   have hs5:¬((Mach.step u (m.cU 1)).over=true∧(Mach.step u (m.cU 1)).fin=5):=fun q=>by
    rw[jX q.1]at h5;exact h5 q.2
   rw[Mach.uV (by omega)]at fq Nf hs hs5 h5 ⊢;obtain⟨n,m1,s1,s2⟩:=IU T hu hc hm ho (by omega) Nf hs5 hr;obtain⟨n2,m2,s3,s4⟩:=C6 T hu hc k _ m1 fq s2 hs h5;exact⟨n+n2,m2,s1.trans s3,s4⟩
theorem AE(T:yd u v L β En Ps c)(hu:gd u)(hv:gd v)(hc:1<=c){F G:Int}(hF:0<=F∧F<=1000000)(hG:G<=2 ^ 39)(iK:c*F+(c-1)<=G)(he:(bI u F).e=0)(h5:(bI u F).fin≠5) :
  (bI v G).e=0∧(bI v G).out=(bI u F).out∧(bI v G).fin=(bI u F).fin∧(bI v G).val=(bI u F).val:=by
 have hcF:1*F<=c*F:=Int.mul_le_mul_of_nonneg_right hc hF.1;have hsu:=w7 hu (fuel:=F) hF.1 hF.2;have Nh:=IQ hv (fuel:=G) (by omega) hG;have lL:=(T.zero u.main hu.main.1 hu.main.2).2.2.2.1;obtain⟨n0,m0,S0,SL⟩:=vM T (m:=Mach.start F) rfl rfl (fs':=[]) (y:=G) hu.main [] (by rw[hu.none];rfl) (to:=0) (to':=0) trivial hF.1 iK;have Oh:((Mach.start F).put [] G).enter v u.main [] 0=(Mach.start G).enter v v.main [] 0:=by rw[T.main];rfl
 rw[Oh]at S0;unfold bI at he h5 ⊢;simp only at he h5 ⊢;have TQ:=wT hu (F.toNat+2) _ hsu (by simp[Mach.enter,Mach.start]);have rM:=wT hv (G.toNat+2) _ Nh (by simp[Mach.enter,Mach.start]);have YN:=fun h h5=>C6 T hu hc (F.toNat+2) _ m0 hsu SL h h5;generalize Mach.run u (F.toNat+2) ((Mach.start F).enter u u.main [] 0)=E at *;cases hs:E.short with
 | true =>
  rw[hs]at he;simp at he
 | false =>
  rw[hs]at h5;simp only[Bool.false_eq_true,if_false]at h5;obtain⟨n1,m1,S1,fs,l,oL,_,_⟩:=YN hs h5;have S:=S0.trans S1;generalize n0+n1=n1 at *;have hle:n1<=G.toNat+2:=Classical.byContradiction fun q=>by
   have:=S.before (G.toNat+2) (by omega);rw[rM.1]at this;cases this
  have kU:Mach.run v (G.toNat+2) ((Mach.start G).enter v v.main [] 0)=m1:=by
   have:=S.run (G.toNat+2-n1);rw[show n1+(G.toNat+2-n1)=G.toNat+2 by omega]at this;rw[this];exact jX (by rw[oL];exact TQ.1) _
  have b2:m1.short=false:=by rw[oL];exact hs
  rw[kU,b2];simp only[Bool.false_eq_true,if_false];rw[oL];exact⟨trivial,rfl,rfl,rfl⟩
theorem wK(T:yd u v L β En Ps c)(hu:gd u)(hv:gd v)(hc:1<=c){F G:Int}(hF:0<=F∧F<=1000000)(hG:0<=G∧G<=1000000)(hcF:c*F+c<=2 ^ 38)(he:(bI u F).e=0)(h5:(bI u F).fin≠5) :
  (bI v G).e=13∨((bI v G).e=0∧(bI v G).out=(bI u F).out∧(bI v G).fin=(bI u F).fin∧(bI v G).val=(bI u F).val):=by
 have aae:0<=c*F:=Int.mul_nonneg (by omega) hF.1;obtain⟨H,hH⟩:∃H,H=c*F+c+G:=⟨_,rfl⟩
 have hR:=AE T hu hv hc (G:=H) hF (by omega) (by omega) he h5;generalize bI u F=A at *;have Nh:=w7 hv (fuel:=G) hG.1 hG.2;have rM:=wT hv (G.toNat+2) _ Nh (by simp[Mach.enter,Mach.start]);cases hs:(Mach.run v (G.toNat+2) ((Mach.start G).enter v v.main [] 0)).short with
 | true =>
  refine .inl ?_;unfold bI;simp only;rw[hs];rfl
 | false =>
  refine .inr ?_;have hl:0<=(Mach.run v (G.toNat+2) ((Mach.start G).enter v v.main [] 0)).left:=(rM.2.2.2 hs).left;have kG:=zl hv (H-G) (G.toNat+2) _ Nh (Nat.le_refl _) hs (by omega) (H.toNat+2) (.inl (by omega));have e0:((Mach.start G).enter v v.main [] 0).shift (H-G)=(Mach.start H).enter v v.main [] 0:=by
   unfold Mach.shift Mach.enter Mach.start;simp only[Mach.mk.injEq,true_and,and_true];omega
  rw[e0]at kG;unfold bI at hR ⊢;simp only at hR ⊢;rw[kG]at hR;have Nf:((Mach.run v (G.toNat+2) ((Mach.start G).enter v v.main [] 0)).shift (H-G)).short=false:=hs;rw[Nf]at hR;rw[hs];simp only[Bool.false_eq_true,if_false]at hR ⊢;exact hR
end
end Go.Proofs.YtjdnhamngpafmaaGreat
