/-
  Texts bound together by a program of mine: YtjdnhamngpafmaaGreatPc, YtjdnhamngpafmaaGreatPun, YtjdnhamngpafmaaGreatPuo, YtjdnhamngpafmaaGreatPuq, YtjdnhamngpafmaaGreatPur, YtjdnhamngpafmaaGreatPux, YtjdnhamngpafmaaGreatPxa, YtjdnhamngpafmaaGreatPxb, YtjdnhamngpafmaaGreatPza, YtjdnhamngpafmaaGreatPui, YtjdnhamngpafmaaGreatPzb, YtjdnhamngpafmaaGreatPus, YtjdnhamngpafmaaGreatPut, YtjdnhamngpafmaaGreatPva, YtjdnhamngpafmaaGreatPvb, YtjdnhamngpafmaaGreatPzc, YtjdnhamngpafmaaGreatPzd, YtjdnhamngpafmaaGreatPze, YtjdnhamngpafmaaGreatPuu, YtjdnhamngpafmaaGreatPvc, YtjdnhamngpafmaaGreatPzf, YtjdnhamngpafmaaGreatPvd, YtjdnhamngpafmaaGreatPi, YtjdnhamngpafmaaGreatPda, YtjdnhamngpafmaaGreatPzg, YtjdnhamngpafmaaGreatPzh, YtjdnhamngpafmaaGreatPzi, YtjdnhamngpafmaaGreatPzj, YtjdnhamngpafmaaGreatPue, YtjdnhamngpafmaaGreatPuf, YtjdnhamngpafmaaGreatPud, YtjdnhamngpafmaaGreatT49, YtjdnhamngpafmaaGreatT50, YtjdnhamngpafmaaGreatPh, YtjdnhamngpafmaaGreatT51, YtjdnhamngpafmaaGreatPde, YtjdnhamngpafmaaGreatT59, YtjdnhamngpafmaaGreatT52, YtjdnhamngpafmaaGreatT38, YtjdnhamngpafmaaGreatT53, YtjdnhamngpafmaaGreatPdf, YtjdnhamngpafmaaGreatPdg, YtjdnhamngpafmaaGreatPdh, YtjdnhamngpafmaaGreatT101, YtjdnhamngpafmaaGreatT102, YtjdnhamngpafmaaGreatT103, YtjdnhamngpafmaaGreatT107, YtjdnhamngpafmaaGreatT55, YtakdmelemfnmdaaAvv, YtjdnhamngpafmaaGreatT56, YtjdnhamngpafmaaGreatT63, YtjdnhamngpafmaaGreatT57, YtjdnhamngpafmaaGreatT111, YtjdnhamngpafmaaGreatT112, YtjdnhamngpafmaaGreatT113, YtjdnhamngpafmaaGreatT117, YtjdnhamngpafmaaGreatPzk, YtjdnhamngpafmaaGreatPzl, YtjdnhamngpafmaaGreatPzm, YtjdnhamngpafmaaGreatPzn, YtjdnhamngpafmaaGreatPzo, YtjdnhamngpafmaaGreatPzs, YtjdnhamngpafmaaGreatT173, YtjdnhamngpafmaaGreatT174, YtjdnhamngpafmaaGreatT175, YtjdnhamngpafmaaGreatPdi.
-/
import Derived.Test.YtjdnhamngpafmaaGreatB4
import Derived.Test.YtjdnhamngpafmaaGreatChecked
import Derived.KernelRfl
import Derived.Shelf.Slices.SearchI
import Derived.Shelf.Slices.In.SortNone
import Derived.Shelf.Sort.Plain
import Derived.Laws.StructEq
set_option linter.all false
set_option maxRecDepth 100000
set_option maxHeartbeats 4000000

namespace Go.Proofs.YtjdnhamngpafmaaGreat
open Go.Av
def iO(k:Int)(l:List Int):Defs:=l.map fun p=>(p,(k,0))
def jy(k:Int):Int->List Ins->Defs
 | _,[]=>[]
 | n,i::r=>(i.to,(k,n+1))::jy k (n+1) r
def kn(k:Int)(b:Block):Defs:=iO k b.params++jy k 0 b.ins
def jr:Int->List Block->Defs
 | _,[]=>[]
 | k,b::r=>kn k b++jr (k+1) r
theorem mK{ds:Defs}{v:Int}{p:Int×Int}(h:(df ds v p).1=0):(df ds v p).2=ds++[(v,p)]:=by
 unfold df at h ⊢;split at h
 ·simp at h
 rename_i h1;rw[if_neg h1];split at h
 ·simp at h
 rename_i h2;rw[if_neg h2]
theorem qe(k:Int):∀(l:List Int) (ds:Defs),(dy k ds l).1=0->(dy k ds l).2=ds++iO k l
 | [],ds,_=>by simp[dy,iO]
 | p::r,ds,h=>by
  simp only[dy]at h ⊢;split at h
  ·rename_i bD;exact absurd h bD
  rename_i he;rw[if_neg he,qe k r _ h,mK (by simpa using he)];simp[iO]
theorem E5(k:Int):∀(l:List Ins) (n:Int) (ds:Defs),(mP k n ds l).1=0->(mP k n ds l).2=ds++jy k n l
 | [],n,ds,_=>by simp[mP,jy]
 | i::r,n,ds,h=>by
  simp only[mP]at h ⊢;split at h
  ·rename_i bD;exact absurd h bD
  rename_i he;split at h
  ·rename_i hf;exact absurd h hf
  rename_i hf;rw[if_neg he,if_neg hf,E5 k r _ _ h,mK (by simpa using he)];simp[jy]
theorem xd{f:Func}{ds:Defs}{k:Int}(h:(fF f ds k).1=0):(fF f ds k).2=ds++kn k (aY f k):=by
 unfold fF at h ⊢;split at h
 ·rename_i bD;exact absurd h bD
 rename_i hp;split at h
 ·rename_i bD;exact absurd h bD
 rename_i hi;rw[if_neg hp,if_neg hi];simp only;rw[E5 k _ _ _ (by simpa using hi),qe k _ _ (by simpa using hp),kn,List.append_assoc]
theorem pL{f:Func}:∀(n k:Nat) (ds:Defs),k+n=f.blocks.length->(cV f n k ds).1=0->(cV f n k ds).2=ds++jr k (f.blocks.drop k)
 | 0,k,ds,hk,_=>by
  rw[List.drop_of_length_le (by omega)];simp[cV,jr]
 | n+1,k,ds,hk,h=>by
  simp only[cV]at h ⊢;split at h
  ·rename_i bD;exact absurd h bD
  rename_i he;rw[if_neg he];have hb:f.blocks[k]?=some f.blocks[k]:=List.getElem?_eq_getElem (by omega);have ih:=pL n (k+1) (fF f ds k).2 (by omega) h;have e:((k+1:Nat):Int)=(k:Int)+1:=by omega
  rw[e]at ih;rw[ih,xd (by simpa using he),bA hb,jr,List.append_assoc];congr 3;simp[aY,hb]
def B3(f:Func):Defs:=jr 0 f.blocks
theorem Oq.ds{f:Func}(bJ:f.fit)(h:aN f=0):(cV f f.blocks.length 0 []).2=B3 f∧kB f.blocks.length (B3 f):=by
 have he:(cV f f.blocks.length 0 []).1=0:=by
  unfold aN at h;split at h
  ·simp at h
  split at h
  ·simp at h
  split at h
  ·simp at h
  split at h
  ·rename_i h4;exact absurd h h4
  rename_i h4;simpa using h4
 have e:=pL f.blocks.length 0 [] (by omega) he;rw[List.drop_zero,List.nil_append]at e;have hw:=(mG f.blocks.length 0 [] (.nil _) (by omega) (by simp) he).1;have e':(cV f f.blocks.length 0 []).2=B3 f:=e;rw[e']at hw;exact⟨e',hw⟩
theorem GN{ds:Defs}(hn:(ds.map (·.1)).Nodup){v:Int}{p:Int×Int}:fB ds v=some p↔(v,p)∈ds:=by
 induction ds with
 | nil=>simp[fB]
 | cons e r ih =>
  obtain⟨a,q⟩:=e;simp only[List.map_cons,List.nodup_cons,List.mem_map,not_exists,not_and]at hn;have ih:=ih hn.2;simp only[fB,List.mem_cons,Prod.mk.injEq];by_cases h:a=v
  ·subst h;rw[if_pos rfl];constructor
   ·intro h;simp only[Option.some.injEq]at h;exact .inl ⟨rfl,h.symm⟩
   rintro(⟨_,h⟩|h)
   ·rw[h]
   exact absurd rfl (hn.1 _ h)
  rw[if_neg h,ih];constructor
  ·exact .inr
  rintro(⟨h1,_⟩|h1)
  ·exact absurd h1.symm h
  exact h1
theorem od{k:Int}{v:Int}{p:Int×Int}:∀(l:List Ins) (n:Int),(v,p)∈jy k n l↔∃(j:Nat) (i:Ins),l[j]?=some i∧i.to=v∧p=(k,n+j+1)
 | [],n=>by simp[jy]
 | i::r,n=>by
  simp only[jy,List.mem_cons,Prod.mk.injEq];rw[od r (n+1)];constructor
  ·rintro(⟨h1,h2⟩|⟨j,x,h1,h2,h3⟩)
   ·exact⟨0,i,rfl,h1.symm,by simpa using h2⟩
   exact⟨j+1,x,h1,h2,by rw[h3];congr 1;omega⟩
  rintro⟨j,x,h1,h2,h3⟩;cases j with
  | zero =>
   simp only[List.getElem?_cons_zero,Option.some.injEq]at h1;subst h1;exact .inl ⟨h2.symm,by simpa using h3⟩
  | succ j=>exact .inr ⟨j,x,h1,h2,by rw[h3];congr 1;omega⟩
theorem sV{v:Int}{p:Int×Int}:∀(l:List Block) (k:Int),(v,p)∈jr k l↔∃(j:Nat) (b:Block),l[j]?=some b∧(v,p)∈kn (k+j) b
 | [],k=>by simp[jr]
 | b::r,k=>by
  rw[jr,List.mem_append,sV r (k+1)];constructor
  ·rintro(h|⟨j,x,h1,h2⟩)
   ·exact⟨0,b,rfl,by simpa using h⟩
   exact⟨j+1,x,h1,by rw[show k+((j+1:Nat):Int)=k+1+j by omega];exact h2⟩
  rintro⟨j,x,h1,h2⟩;cases j with
  | zero =>
   simp only[List.getElem?_cons_zero,Option.some.injEq]at h1;subst h1;exact .inl (by simpa using h2)
  | succ j=>exact .inr ⟨j,x,h1,by rw[show k+((j+1:Nat):Int)=k+1+j by omega]at h2;exact h2⟩
def w6(f:Func)(v:Int)(p:Int×Int):Prop:=∃(k:Nat) (b:Block),f.blocks[k]?=some b∧p.1=k∧((p.2=0∧v∈b.params)∨∃(j:Nat) (i:Ins),b.ins[j]?=some i∧i.to=v∧p.2=j+1)
theorem Fb{f:Func}{v:Int}{p:Int×Int}:(v,p)∈B3 f↔w6 f v p:=by
 obtain⟨p1,p2⟩:=p;rw[B3,sV];constructor
 ·rintro⟨k,b,h1,h2⟩;rw[kn,List.mem_append]at h2;rcases h2 with h2|h2
  ·simp only[iO,List.mem_map,Prod.mk.injEq]at h2;obtain⟨x,h3,h4,h5,h6⟩:=h2;subst h4;exact⟨k,b,h1,by simp only;omega,.inl ⟨h6.symm,h3⟩⟩
  obtain⟨j,i,h3,h4,h5⟩:=(od _ _).1 h2;simp only[Prod.mk.injEq]at h5;exact⟨k,b,h1,by simp only;omega,.inr ⟨j,i,h3,h4,by simp only;omega⟩⟩
 rintro⟨k,b,h1,h2,h3⟩;simp only at h2 h3;subst h2;refine⟨k,b,h1,?_⟩;rw[kn,List.mem_append];rcases h3 with⟨h3,h4⟩|⟨j,i,h3,h4,h5⟩
 ·subst h3;exact .inl (by simpa[iO]using h4)
 exact .inr ((od _ _).2 ⟨j,i,h3,h4,by subst h5;simp⟩)
theorem nY(k:Int):∀(l:List Ins) (n:Int),(jy k n l).map (·.1)=l.map Ins.to
 | [],_=>rfl
 | i::r,n=>by rw[jy,List.map_cons,nY k r,List.map_cons]
theorem sB:∀(l:List Block) (k:Int),(jr k l).map (·.1)=l.flatMap dL
 | [],_=>rfl
 | b::r,k=>by
  rw[jr,List.map_append,sB r,List.flatMap_cons,kn,List.map_append,nY,dL,iO,List.map_map];congr 2;exact List.map_id' _
theorem yC(f:Func):(B3 f).map (·.1)=iu f:=sB _ _
theorem CT{k:Nat}{S:Ds}{e:Edge}(h:(hU k S e).again=false):hU k S e=S∧((S.at_ e.block.toNat).meet (S.at_ k)).add e.block.toNat=S.at_ e.block.toNat∧S.seen.has e.block.toNat=true:=by
 unfold hU at h ⊢;simp only at h ⊢;split at h
 ·cases h
 rename_i hc;rw[if_neg hc];simp only[ne_eq,not_or,Decidable.not_not,Bool.not_eq_false]at hc;exact⟨rfl,hc⟩
theorem uL{k:Nat}:∀(l:List Edge) {S:Ds},(l.foldl (hU k) S).again=false->l.foldl (hU k) S=S∧∀e∈l,((S.at_ e.block.toNat).meet (S.at_ k)).add e.block.toNat=S.at_ e.block.toNat∧S.seen.has e.block.toNat=true
 | [],S,_=>⟨rfl,by simp⟩
 | e::r,S,h=>by
  rw[List.foldl_cons]at h;have ih:=uL r h;rw[ih.1]at h;have h1:=CT h;rw[List.foldl_cons,ih.1,h1.1];rw[h1.1]at ih;refine⟨rfl,fun x hx=>?_⟩;rcases List.mem_cons.1 hx with q|q
  ·subst q;exact h1.2
  exact ih.2 x q
theorem uM:∀(l:List Block) (k:Nat) {S:Ds},(lI k S l).again=false->lI k S l=S∧∀(j:Nat) b,l[j]?=some b->S.seen.has (k+j)=true->∀e∈b.term.to,((S.at_ e.block.toNat).meet (S.at_ (k+j))).add e.block.toNat=S.at_ e.block.toNat∧S.seen.has e.block.toNat=true
 | [],k,S,_=>⟨rfl,fun j b h=>by simp at h⟩
 | b::r,k,S,h=>by
  rw[lI]at h;have ih:=uM r (k+1) h;rw[ih.1]at h;have h1:qP k S b=S∧(S.seen.has k=true->∀e∈b.term.to,((S.at_ e.block.toNat).meet (S.at_ k)).add e.block.toNat=S.at_ e.block.toNat∧S.seen.has e.block.toNat=true):=by
   unfold qP at h ⊢;split
   ·rename_i hs;exact⟨rfl,fun q=>by rw[hs]at q;cases q⟩
   rename_i hs;rw[if_neg hs]at h;have:=uL _ h;exact⟨this.1,fun _=>this.2⟩
  rw[lI,ih.1,h1.1];rw[h1.1]at ih;refine⟨rfl,fun j x hj hs=>?_⟩;cases j with
  | zero =>
   simp only[List.getElem?_cons_zero,Option.some.injEq]at hj;subst hj;exact h1.2 hs
  | succ j =>
   rw[show k+(j+1)=k+1+j by omega]at hs ⊢;exact ih.2 j x hj hs
theorem xl{f:Func}(he:∀b∈f.blocks,∀e∈b.term.to,0<=e.block∧e.block.toNat<f.blocks.length):∀(n:Nat) {S:Ds},kY f.blocks.length S->(S.again=true->S.weight<n)->(iU f n S).again=false
 | 0,S,_,h=>by
  cases hs:S.again with
  | false=>exact hs
  | true=>exact absurd (h hs) (by omega)
 | n+1,S,hS,h=>by
  simp only[iU];split
  ·rename_i ha;have hw:=h ha;have hr:=qQ f.blocks (k:=0) (S:=⟨S.over,S.seen,false⟩) ⟨hS.few,hS.len,hS.fit,hS.seen,hS.self⟩ he;have Sa:(⟨S.over,S.seen,false⟩:Ds).weight=S.weight:=rfl;refine xl he n hr.1 fun q=>?_;rcases hr.2.2 q with q|q
   ·cases q
   omega
  rename_i ha;simpa using ha
structure Dz(S:Ds):Prop where
 zero:S.at_ 0=Bs.none.add 0
 seen:S.seen.has 0=true
theorem PL{n k:Nat}{S:Ds}(h:Dz S){e:Edge}(h1:1<=e.block)(h2:e.block.toNat<n)(h3:n<=128):Dz (hU k S e):=by
 unfold hU;simp only;split
 ·refine⟨?_,?_⟩
  ·have:=h.zero;unfold Ds.at_ at this ⊢;simp only;rw[List.getElem?_set_ne (by omega)];exact this
  simp only;rw[Bs.has_add _ _ _ (by omega) (by omega),h.seen];rfl
 exact h
theorem It{n k:Nat}(h3:n<=128):∀(l:List Edge) {S:Ds},Dz S->(∀e∈l,1<=e.block∧e.block.toNat<n)->Dz (l.foldl (hU k) S)
 | [],_,h,_=>h
 | e::r,S,h,he=>It h3 r (PL h (he e (by simp)).1 (he e (by simp)).2 h3) fun x hx=>he x (by simp[hx])
theorem Iv{n:Nat}(h3:n<=128):∀(l:List Block) {k:Nat} {S:Ds},Dz S->(∀b∈l,∀e∈b.term.to,1<=e.block∧e.block.toNat<n)->Dz (lI k S l)
 | [],_,_,h,_=>h
 | b::r,k,S,h,he=>by
  refine Iv h3 r (k:=k+1) ?_ fun x hx=>he x (by simp[hx]);unfold qP;split
  ·exact h
  exact It h3 _ h (he b (by simp))
theorem Iu{f:Func}(h3:f.blocks.length<=128)(he:∀b∈f.blocks,∀e∈b.term.to,1<=e.block∧e.block.toNat<f.blocks.length):∀(n:Nat) {S:Ds},Dz S->Dz (iU f n S)
 | 0,_,h=>h
 | n+1,S,h=>by
  simp only[iU];split
  ·exact Iu h3 he n (Iv h3 _ (S:=⟨S.over,S.seen,false⟩) ⟨h.zero,h.seen⟩ he)
  exact h
theorem xm{f:Func}:∀(n:Nat) {S:Ds},S.again=true->(iU f n S).again=false->∃T:Ds,iU f n S=lI 0 T f.blocks
 | 0,S,h1,h2=>by
  rw[iU,h1]at h2;cases h2
 | n+1,S,h1,h2=>by
  simp only[iU,h1,if_true]at h2 ⊢;cases hr:(lI 0 ⟨S.over,S.seen,false⟩ f.blocks).again with
  | false=>exact⟨_,xk hr n⟩
  | true=>exact xm n hr h2
def pC(f:Func)(k:Nat):Bs:=(kZ f).1[k]?.getD .none
def mv(f:Func)(k:Nat):Bool:=(kZ f).2.has k
structure LA(f:Func):Prop where
 seen:mv f 0=true
 zero:∀j,j<128->((pC f 0).has j=true↔j=0)
 self:∀k,k<f.blocks.length->(pC f k).has k=true
 step:∀(k:Nat) b,f.blocks[k]?=some b->mv f k=true->∀e∈b.term.to,mv f e.block.toNat=true∧∀j,j<128->((pC f e.block.toNat).has j=true->j=e.block.toNat∨(pC f k).has j=true)
theorem PM{f:Func}(h0:f.blocks≠[])(h1:f.blocks.length<=128)(he:∀b∈f.blocks,∀e∈b.term.to,1<=e.block∧e.block<f.blocks.length):LA f:=by
 have Gf:∀b∈f.blocks,∀e∈b.term.to,0<=e.block∧e.block.toNat<f.blocks.length:=fun b hb e hx=>by have:=he b hb e hx;omega
 have tz:∀b∈f.blocks,∀e∈b.term.to,1<=e.block∧e.block.toNat<f.blocks.length:=fun b hb e hx=>by have:=he b hb e hx;omega
 have hl:=List.length_pos_iff.2 h0;have hS:=yB h0 h1;have hw0:=yf hS;have hz0:Dz (k8 f):=⟨by unfold Ds.at_ k8;simp only;rw[List.getElem?_set_self (by simpa using hl)];rfl,by show(Bs.none.add 0).has 0=true;decide⟩
 have lO:=xl Gf 20000 hS (fun _=>by omega);have hz:=Iu h1 tz 20000 hz0;obtain⟨T,hT⟩:=xm 20000 rfl lO;have ka:kY f.blocks.length (iU f 20000 (k8 f)):=by
  have key:∀(n:Nat) (S:Ds),kY f.blocks.length S->kY f.blocks.length (iU f n S):=fun n=>by
   induction n with
   | zero=>exact fun S h=>h
   | succ n ih =>
    intro S h;simp only[iU];split
    ·exact ih _ (qQ f.blocks (k:=0) (S:=⟨S.over,S.seen,false⟩) ⟨h.few,h.len,h.fit,h.seen,h.self⟩ Gf).1
    exact h
  exact key _ _ hS
 have XS:=uM f.blocks 0 (S:=T) (by rw[<-hT];exact lO);have I8:=XS.2;rw[show T=iU f 20000 (k8 f) from XS.1.symm.trans hT.symm]at I8;have jx:∀k,pC f k=(iU f 20000 (k8 f)).at_ k:=fun k=>rfl;have r8:∀k,mv f k=(iU f 20000 (k8 f)).seen.has k:=fun k=>rfl;generalize iU f 20000 (k8 f)=S at *;refine⟨by rw[r8,hz.seen],fun j hj=>?_,fun k hk=>by rw[jx];exact ka.self k hk,fun k b hb hs e hx=>?_⟩
 ·rw[jx,hz.zero,Bs.has_add _ _ _ (by omega) hj];have:Bs.none.has j=false:=by unfold Bs.has Bs.none;simp
  simp[this]
 have UR:=tz b (List.mem_of_getElem? hb) e hx;obtain⟨q1,q2⟩:=I8 k b hb (by rw[Nat.zero_add,<-r8];exact hs) e hx;rw[Nat.zero_add]at q1;refine⟨by rw[r8];exact q2,fun j hj q=>?_⟩;rw[jx,<-q1,Bs.has_add _ _ _ (by omega) hj,Bs.uU]at q;rw[jx];simp only[Bool.or_eq_true,Bool.and_eq_true,decide_eq_true_eq]at q;rcases q with q|q
 ·exact .inr q.2
 exact .inl q
theorem u6{ds:Defs}{v:Int}{p:Int×Int}(h:fB ds v=some p):(v,p)∈ds:=by
 induction ds with
 | nil=>cases h
 | cons e r ih =>
  obtain⟨a,q⟩:=e;simp only[fB]at h;split at h
  ·rename_i e;simp only[Option.some.injEq]at h;rw[e,h];simp
  exact List.mem_cons.2 (.inr (ih h))
def Cf(f:Func)(k:Nat)(n:Int)(v:Int):Prop:=∃p,w6 f v p∧(mv f k=true->(p.1=k∧p.2<=n)∨(p.1≠k∧(pC f k).has p.1.toNat=true))
theorem yI{f:Func}{k:Nat}{n v:Int}(h:iX (B3 f) (kZ f).1 (kZ f).2 k n v=true):Cf f k n v:=by
 unfold iX at h;cases hl:fB (B3 f) v with
 | none=>rw[hl]at h;cases h
 | some p =>
  rw[hl]at h;refine⟨p,Fb.1 (u6 hl),fun hs=>?_⟩;have Pa:(kZ f).2.has k=true:=hs;simp only[Pa,Bool.not_true,Bool.or_false,Bool.or_eq_true,Bool.and_eq_true,decide_eq_true_eq,Bool.not_eq_true',decide_eq_false_iff_not]at h;exact h
structure Es(f:Func):Prop where
 ins:∀(k:Nat) b,f.blocks[k]?=some b->∀(n:Nat) i,b.ins[n]?=some i->∀a∈i.args,Cf f k n a
 arg:∀(k:Nat) b,f.blocks[k]?=some b->b.term.kind≠1->b.term.kind≠4->Cf f k b.ins.length b.term.arg
 args:∀(k:Nat) b,f.blocks[k]?=some b->∀e∈b.term.to,∀a∈e.args,Cf f k b.ins.length a
theorem sR{ds:Defs}{over:List Bs}{seen:Bs}{k:Nat}:∀(l:List Ins) (n:Nat),jz ds over seen k n l=true->∀(j:Nat) i,l[j]?=some i->∀a∈i.args,iX ds over seen k ((n+j:Nat):Int) a=true
 | [],_,_=>fun j i h=>by simp at h
 | x::r,n,h=>fun j i hj a ha=>by
  simp only[jz,Bool.and_eq_true,List.all_eq_true]at h;cases j with
  | zero =>
   simp only[List.getElem?_cons_zero,Option.some.injEq]at hj;subst hj;exact h.1 a ha
  | succ j =>
   rw[show n+(j+1)=n+1+j by omega];exact sR r (n+1) h.2 j i hj a ha
theorem sC{ds:Defs}{over:List Bs}{seen:Bs}:∀(l:List Block) (k:Nat),gU ds over seen k l=true->∀(j:Nat) b,l[j]?=some b->lh ds over seen (k+j) b=true
 | [],_,_=>fun j i h=>by simp at h
 | x::r,k,h=>fun j b hj=>by
  simp only[gU,Bool.and_eq_true]at h;cases j with
  | zero =>
   simp only[List.getElem?_cons_zero,Option.some.injEq]at hj;subst hj;exact h.1
  | succ j =>
   rw[show k+(j+1)=k+1+j by omega];exact sC r (k+1) h.2 j b hj
theorem Rz{f:Func}(h:rH f (B3 f)=0):Es f:=by
 have ha:gU (B3 f) (kZ f).1 (kZ f).2 0 f.blocks=true:=by
  unfold rH at h;split at h
  ·assumption
  simp at h
 have hb:∀(k:Nat) b,f.blocks[k]?=some b->lh (B3 f) (kZ f).1 (kZ f).2 k b=true:=fun k b hk=>by
  have:=sC f.blocks 0 ha k b hk
  rwa [Nat.zero_add]at this
 have hu:∀(k:Nat) b,f.blocks[k]?=some b->oz b.term (iX (B3 f) (kZ f).1 (kZ f).2 k b.ins.length)=true:=fun k b hk=>by
  have:=hb k b hk;simp only[lh,Bool.and_eq_true]at this;exact this.2
 refine⟨fun k b hk n i hn a ha=>?_,fun k b hk h1 h4=>?_,fun k b hk e he a ha=>?_⟩
 ·have:=hb k b hk;simp only[lh,Bool.and_eq_true]at this;have:=sR b.ins 0 this.1 n i hn a ha;rw[Nat.zero_add]at this;exact yI this
 ·have:=hu k b hk;simp only[oz,Bool.and_eq_true,Bool.or_eq_true,decide_eq_true_eq,h1,h4,false_or]at this;exact yI this.1
 have:=hu k b hk;simp only[oz,Bool.and_eq_true,List.all_eq_true]at this;exact yI (this.2 e he a ha)
structure Ld(f:Func):Prop where
 fn:Oq f
 PK:LA f
 K2:Es f
 vals:HN f
 nodup:(iu f).Nodup
 ee:∀b∈f.blocks,∀e∈b.term.to,1<=e.block∧e.block<f.blocks.length
theorem ig{f:Func}(bJ:f.fit)(h:aN f=0):Ld f:=by
 have hw:=cA bJ h;obtain⟨hd,Td⟩:=Oq.ds bJ h;have he:∀b∈f.blocks,∀e∈b.term.to,1<=e.block∧e.block<f.blocks.length:=fun b hb e hx=>by
  have:=((pT (hw.blk b hb).fin).ee e hx).1;omega
 refine⟨hw,PM hw.ne hw.few he,Rz (by rw[<-hd];exact hw.K2),fun v hv=>?_,?_,he⟩
 ·rw[<-yC]at hv;obtain⟨e,h1,rfl⟩:=List.mem_map.1 hv;exact Td.range e h1
 rw[<-yC];exact Td.nodup
structure Xx(f:Func):Prop where
 few:f.blocks.length<=128
 params:∀b∈f.blocks,b.params.length<=4096
 ins:∀b∈f.blocks,b.ins.length<=1024
 Pn:∀b∈f.blocks,∀i∈b.ins,i.args.length<=16
 cases:∀b∈f.blocks,b.term.cases.length<=256
 to:∀b∈f.blocks,b.term.to.length<=257
 OA:∀b∈f.blocks,∀e∈b.term.to,e.args.length<=4096
def j7(es:List Edge):List ae:=es.flatMap fun e=>[aI e.block,a7 e.args]
def Bv(id:Nat)(es:List Edge):ae:=if es=[]then .aB 2 [] .ex else .os id es.length 2
def rj(id:Nat)(es:List Edge):ae:=if es=[]then .aB 2 [] .sh else .os id es.length 2
def we(id:Nat)(b:Block):List ae:=[a7 b.params,bW b.ins,aI b.term.kind,aI b.term.arg,aI b.term.n,a7 b.term.cases,rj id b.term.to]
def eF(ids:List Nat)(bs:List Block):List ae:=(List.zipWith we ids bs).flatten
def vj(id:Nat)(bs:List Block):ae:=if bs=[]then .aB 7 [] .ex else .os id bs.length 7
theorem vm(id:Nat)(es:List Edge):(Bv id es).bf=rj id es:=by
 unfold Bv rj;split<;>rfl
theorem vl(id:Nat)(es:List Edge):(rj id es).bf=rj id es:=by
 unfold rj;split<;>rfl
theorem IA(es:List Edge)(e:Edge):j7 (es++[e])=j7 es++[aI e.block,a7 e.args]:=by simp[j7]
theorem lq(es:List Edge):(j7 es).length=es.length*2:=by
 induction es with
 | nil=>rfl
 | cons e r ih =>
  have:j7 (e::r)=[aI e.block,a7 e.args]++j7 r:=rfl;rw[this,List.length_append,ih];simp only[List.length_cons,List.length_nil];omega
theorem AG(n:Nat)(es:List Edge):av n (j7 es):=by
 rw[aQ];intro c hc;simp only[j7,List.mem_flatMap]at hc;obtain⟨e,_,hc⟩:=hc;simp only[List.mem_cons,List.not_mem_nil,or_false]at hc;rcases hc with rfl|rfl
 ·trivial
 exact⟨ax _ _,trivial⟩
theorem F2(es:List Edge):(j7 es).map ae.bf=al (es.map Edge.enc):=by
 induction es with
 | nil=>rfl
 | cons e r ih =>
  have h1:j7 (e::r)=[aI e.block,a7 e.args]++j7 r:=rfl;have h2:al ((e::r).map Edge.enc)=[aI e.block,a7 e.args]++al (r.map Edge.enc):=rfl;rw[h1,h2,List.map_append,ih];rfl
theorem xe{ids:List Nat}{bs:List Block}(h:ids.length=bs.length)(id:Nat)(b:Block):eF (ids++[id]) (bs++[b])=eF ids bs++we id b:=by
 unfold eF;rw[List.zipWith_append h];simp
theorem nJ:∀{ids:List Nat} {bs:List Block},ids.length=bs.length->(eF ids bs).length=bs.length*7
 | [],[],_=>rfl
 | i::ids,b::bs,h=>by
  have e:eF (i::ids) (b::bs)=we i b++eF ids bs:=rfl;rw[e,List.length_append,nJ (by simpa using h)];simp only[we,List.length_cons,List.length_nil];omega
 | [],b::bs,h=>by simp at h
 | i::ids,[],h=>by simp at h
theorem HW{n id:Nat}(b:Block)(h:b.term.to≠[]->id<n):av n (we id b):=by
 refine⟨⟨ax _ _,trivial⟩,⟨Ins.ak _ _,trivial⟩,trivial,trivial,trivial,⟨ax _ _,trivial⟩,?_,trivial⟩;unfold rj;split
 ·exact⟨trivial,trivial⟩
 rename_i q;exact h q
structure Vf(b0:Nat)(ids:List Nat)(bs:List Block)(O:List ai):Prop where
 li:ids.length=bs.length
 own:∀(j id:Nat) (b:Block),ids[j]?=some id->bs[j]?=some b->b.term.to≠[]->b0<=id∧O[id]?=some (.cells (j7 b.term.to))
 inj:∀(i j id:Nat) (b c:Block),ids[i]?=some id->ids[j]?=some id->bs[i]?=some b->bs[j]?=some c->b.term.to≠[]->c.term.to≠[]->i=j
structure Lz(f:Func)(done:List Block)(dF:Nat)(ids:List Nat)(O:List ai):Prop where
 up:∀o∈O,o.upto O.length
 r0:O[0]?=some .gone
 r1:O[1]?=some (.cells [aI 0,.aB 7 [] .ex])
 r3:O[3]?=some (.cells [aI 0,.aB 7 [] .ex])
 out:O[4]?=some (.cells [aI f.name,vj dF done])
 blk:done≠[]->5<=dF∧O[dF]?=some (.cells (eF ids done))
 cp:Vf 5 ids done O
 ne:∀(j id:Nat) (b:Block),ids[j]?=some id->done[j]?=some b->b.term.to≠[]->id≠dF
theorem FM{n:Nat}:∀{ids:List Nat} {bs:List Block},(∀(j id:Nat) (b:Block),ids[j]?=some id->bs[j]?=some b->b.term.to≠[]->id<n)->av n (eF ids bs):=by
 intro ids bs h;rw[aQ];intro c hc;unfold eF at hc;obtain⟨l,hl,hc⟩:=List.mem_flatten.1 hc;obtain⟨j,hj⟩:=List.mem_iff_getElem?.1 hl;rw[List.getElem?_zipWith]at hj;cases h1:ids[j]? with
 | none=>rw[h1]at hj;cases hj
 | some id =>
  cases h2:bs[j]? with
  | none=>rw[h1,h2]at hj;cases hj
  | some b =>
   rw[h1,h2]at hj;simp only[Option.some.injEq]at hj;subst hj;exact aQ.1 (HW b (h j id b h1 h2)) c hc
theorem Lz.snoc{f:Func}{done:List Block}{dF:Nat}{ids:List Nat}{O O1:List ai}(h:Lz f done dF ids O){b:Block}{tid:Nat}(hlen:O.length<=O1.length)(br:∀o∈O1,o.upto O1.length)
  (eE:∀k,k<O.length->(done≠[]->k≠dF)->O1[k]?=O[k]?) (ht:b.term.to≠[]->O.length<=tid∧O1[tid]?=some (.cells (j7 b.term.to))) {cs ar:List ae} (fw:cs=eF (ids++[tid]) (done++[b])) (SW:ar=[aI f.name,.os O1.length (done.length+1) 7]) :
  Lz f (done++[b]) O1.length (ids++[tid]) ((O1++[ai.cells cs]).set 4 (.cells ar)):=by
 have h4:=I h.out;have Yj:=h.cp.li;have sO:∀k,k<O.length->k≠4->(done≠[]->k≠dF)->((O1++[ai.cells cs]).set 4 (.cells ar))[k]?=O[k]?:=fun k hk Wi Gm=>by
  rw[List.getElem?_set_ne (Ne.symm Wi),List.getElem?_append_left (by omega),eE k hk Gm]
 have P2:done≠[]->5<=dF:=fun q=>(h.blk q).1;have Mz:∀(j id:Nat) (c:Block),(ids++[tid])[j]?=some id->(done++[b])[j]?=some c->(ids[j]?=some id∧done[j]?=some c)∨(j=ids.length∧id=tid∧c=b):=fun j id c h1 h2=>by
  by_cases hj:j<ids.length
  ·rw[List.getElem?_append_left hj]at h1;rw[List.getElem?_append_left (by omega)]at h2;exact .inl ⟨h1,h2⟩
  have Z1:=I h1;rw[List.length_append,List.length_singleton]at Z1;have jw:j=ids.length:=by omega
  subst jw;rw[List.getElem?_append_right (Nat.le_refl _),Nat.sub_self]at h1;rw[List.getElem?_append_right (by omega),<-Yj,Nat.sub_self]at h2;simp only[List.getElem?_cons_zero,Option.some.injEq]at h1 h2;exact .inr ⟨rfl,h1.symm,h2.symm⟩
 have vU:∀(j id:Nat) (c:Block),ids[j]?=some id->done[j]?=some c->c.term.to≠[]->5<=id∧id<O.length∧O1[id]?=some (.cells (j7 c.term.to)):=fun j id c h1 h2 h3=>by
  obtain⟨o1,o2⟩:=h.cp.own j id c h1 h2 h3;have hl:=I o2;refine⟨o1,hl,?_⟩;rw[eE id hl (fun _=>h.ne j id c h1 h2 h3)];exact o2
 have nS:∀(j id:Nat) (c:Block),(ids++[tid])[j]?=some id->(done++[b])[j]?=some c->c.term.to≠[]->5<=id∧id<O1.length∧O1[id]?=some (.cells (j7 c.term.to)):=fun j id c h1 h2 h3=>by
  rcases Mz j id c h1 h2 with⟨q1,q2⟩|⟨_,q2,q3⟩
  ·obtain⟨p1,p2,p3⟩:=vU j id c q1 q2 h3;exact⟨p1,by omega,p3⟩
  rw[q3]at h3 ⊢;rw[q2];obtain⟨t1,t2⟩:=ht h3;exact⟨by omega,I t2,t2⟩
 subst fw;subst SW;exact {
  up:=by
   intro o ho;rw[List.length_set,List.length_append,List.length_singleton];rcases List.mem_or_eq_of_mem_set ho with q|q
   ·rcases List.mem_append.1 q with q|q
    ·exact ai.bK (by omega) (br o q)
    rw[List.mem_singleton]at q;subst q;exact FM fun j id c h1 h2 h3=>by
     have:=(nS j id c h1 h2 h3).2.1;omega
   subst q;exact⟨trivial,show _<_ by omega,trivial⟩
  r0:=by rw[sO 0 (I h.r0) (by omega) (fun q=>by have:=P2 q;omega)];exact h.r0
  r1:=by rw[sO 1 (I h.r1) (by omega) (fun q=>by have:=P2 q;omega)];exact h.r1
  r3:=by rw[sO 3 (I h.r3) (by omega) (fun q=>by have:=P2 q;omega)];exact h.r3
  out:=by
   rw[List.getElem?_set_self (by rw[List.length_append];omega)];have:vj O1.length (done++[b])=.os O1.length (done.length+1) 7:=by
    unfold vj;rw[if_neg (by simp),List.length_append];rfl
   rw[this]
  blk:=fun _=>by
   refine⟨by omega,?_⟩;rw[List.getElem?_set_ne (by omega),List.getElem?_append_right (Nat.le_refl _),Nat.sub_self];rfl
  cp:={
   li:=by rw[List.length_append,List.length_append,Yj];rfl
   own:=fun j id c h1 h2 h3=>by
    obtain⟨p1,p2,p3⟩:=nS j id c h1 h2 h3;refine⟨p1,?_⟩;rw[List.getElem?_set_ne (by omega),List.getElem?_append_left p2];exact p3
   inj:=fun i j id c d h1 h2 h3 h4 h5 h6=>by
    rcases Mz i id c h1 h3 with⟨p1,p2⟩|⟨p1,p2,p3⟩
    ·rcases Mz j id d h2 h4 with⟨q1,q2⟩|⟨q1,q2,q3⟩
     ·exact h.cp.inj i j id c d p1 q1 p2 q2 h5 h6
     have:=(vU i id c p1 p2 h5).2.1;rw[q3]at h6;have:=(ht h6).1;omega
    rcases Mz j id d h2 h4 with⟨q1,q2⟩|⟨q1,q2,q3⟩
    ·have:=(vU j id d q1 q2 h6).2.1;rw[p3]at h5;have:=(ht h5).1;omega
    omega }
  ne:=fun j id c h1 h2 h3=>by
   have:=(nS j id c h1 h2 h3).2.1;omega }
structure Hw(O:List ai)(cs:List ae)(n:Nat)(O2:List ai):Prop where
 len:O2.length=O.length+2
 up:∀o∈O2,o.upto O2.length
 lQ:∀k,k<O.length->O2[k]?=O[k]?
 cell:O2[O.length]?=some (.cells cs)
 sp:O2[O.length+1]?=some (.spare n)
theorem Hw.start{O:List ai}(br:∀o∈O,o.upto O.length){cs:List ae}(fw:av (O.length+2) cs):Hw O cs 0 (O++[.cells cs,.spare 0]) where
 len:=by simp
 up:=fun o ho=>by
  rw[List.length_append];rcases List.mem_append.1 ho with q|q
  ·exact ai.bK (by omega) (br o q)
  simp only[List.mem_cons,List.not_mem_nil,or_false]at q;rcases q with rfl|rfl
  ·exact fw
  trivial
 lQ:=fun k hk=>by rw[List.getElem?_append_left hk]
 cell:=by
  rw[List.getElem?_append_right (Nat.le_refl _),Nat.sub_self];rfl
 sp:=by
  rw[List.getElem?_append_right (by omega),show O.length+1-O.length=1 by omega];rfl
theorem Hw.one{O:List ai}{cs:List ae}{n:Nat}{O2:List ai}(h:Hw O cs n O2){cs':List ae}(fw:av (O.length+2) cs'):Hw O cs' n (O2.set O.length (.cells cs')) where
 len:=by rw[List.length_set,h.len]
 up:=by
  rw[List.length_set];exact bg h.up (by rw[h.len];exact fw)
 lQ:=fun k hk=>by rw[List.getElem?_set_ne (by omega),h.lQ k hk]
 cell:=by rw[List.getElem?_set_self (by rw[h.len];omega)]
 sp:=by rw[List.getElem?_set_ne (by omega),h.sp]
theorem Hw.room{O:List ai}{cs:List ae}{n:Nat}{O2:List ai}(h:Hw O cs n O2)(m:Nat):Hw O cs m (O2.set (O.length+1) (.spare m)) where
 len:=by rw[List.length_set,h.len]
 up:=by
  rw[List.length_set];exact bg h.up trivial
 lQ:=fun k hk=>by rw[List.getElem?_set_ne (by omega),h.lQ k hk]
 cell:=by rw[List.getElem?_set_ne (by omega),h.cell]
 sp:=by rw[List.getElem?_set_self (by rw[h.len];omega)]
structure Ly(O:List ai)(cs:ae->List ae)(tid:Nat)(es:List Edge)(O3:List ai):Prop where
 len:O.length+2<=O3.length
 up:∀o∈O3,o.upto O3.length
 lQ:∀k,k<O.length->O3[k]?=O[k]?
 cell:O3[O.length]?=some (.cells (cs (Bv tid es)))
 own:es≠[]->O.length+2<=tid∧O3[tid]?=some (.cells (j7 es))
theorem Ly.start{O:List ai}{cs:ae->List ae}{n:Nat}{O2:List ai}(h:Hw O (cs (.aB 2 [] .ex)) n O2):Ly O cs 0 [] O2 where
 len:=by rw[h.len];omega
 up:=h.up
 lQ:=h.lQ
 cell:=h.cell
 own:=fun q=>absurd rfl q
theorem Ly.push{O:List ai}{cs:ae->List ae}{tid:Nat}{es:List Edge}{O3 O4:List ai}(h:Ly O cs tid es O3)(e:Edge)(fw:∀v n,v.upto n->O.length+2<=n->av n (cs v))(hlen:O4.length=O3.length)(br:∀o∈O4,o.upto O3.length)
  (eE:∀k,(es≠[]->k≠tid)->O4[k]?=O3[k]?) {c a:List ae} (hc:c=j7 (es++[e])) (ha:a=cs (.os O3.length (es.length+1) 2)):Ly O cs O3.length (es++[e]) ((O4++[ai.cells c]).set O.length (.cells a)):=by
 have hl:=h.len;have hx:Bv O3.length (es++[e])=.os O3.length (es.length+1) 2:=by
  unfold Bv;rw[if_neg (by simp),List.length_append];rfl
 subst hc;subst ha;exact {
  len:=by rw[List.length_set,List.length_append,hlen];omega
  up:=by
   intro o ho;rw[List.length_set,List.length_append,List.length_singleton,hlen];rcases List.mem_or_eq_of_mem_set ho with q|q
   ·rcases List.mem_append.1 q with q|q
    ·exact ai.bK (by omega) (br o q)
    rw[List.mem_singleton]at q;subst q;exact AG _ _
   subst q;exact fw _ _ (show O3.length<O3.length+1 by omega) (by omega)
  lQ:=fun k hk=>by
   rw[List.getElem?_set_ne (by omega),List.getElem?_append_left (by omega),eE k (fun q=>by have:=(h.own q).1;omega),h.lQ k hk]
  cell:=by
   rw[List.getElem?_set_self (by rw[List.length_append];omega),hx]
  own:=fun _=>by
   refine⟨by omega,?_⟩;rw[List.getElem?_set_ne (by omega),List.getElem?_append_right (by omega),hlen,Nat.sub_self];rfl }
def Vg(f:Func)(r:ae)(O:List ai):Prop:=∃(ids:List Nat) (dF:Nat),r=.agg [aI f.name,.os dF f.blocks.length 7]∧(∀o∈O,o.upto O.length)∧O[0]?=some .gone∧O[1]?=some (.cells [aI 0,.aB 7 [] .ex]) ∧
 (5<=dF∧O[dF]?=some (.cells (eF ids f.blocks)))∧Vf 5 ids f.blocks O∧∀(j id:Nat) (b:Block),ids[j]?=some id->f.blocks[j]?=some b->b.term.to≠[]->id≠dF
theorem CK(f:Func):Lz f [] 0 [] [.gone,.cells [aI 0,.aB 7 [] .ex],.gone,.cells [aI 0,.aB 7 [] .ex],.cells [aI f.name,.aB 7 [] .ex]] where
 up:=fun o ho=>by
  simp only[List.mem_cons,List.not_mem_nil,or_false]at ho;rcases ho with rfl|rfl|rfl|rfl|rfl
  ·trivial
  ·exact⟨trivial,⟨trivial,trivial⟩,trivial⟩
  ·trivial
  ·exact⟨trivial,⟨trivial,trivial⟩,trivial⟩
  exact⟨trivial,⟨trivial,trivial⟩,trivial⟩
 r0:=rfl
 r1:=rfl
 r3:=rfl
 out:=rfl
 blk:=fun q=>absurd rfl q
 cp:=⟨rfl,fun j id b h=>by simp at h,fun i j id b c h=>by simp at h⟩
 ne:=fun j id b h=>by simp at h
theorem Lz.done{f:Func}{dF:Nat}{ids:List Nat}{O:List ai}(h:Lz f f.blocks dF ids O)(bD:f.blocks≠[]){cs:List ae}(fw:av O.length cs):Vg f (.agg [aI f.name,.os dF f.blocks.length 7]) (O.set 3 (.cells cs)):=by
 obtain⟨b1,b2⟩:=h.blk bD;refine⟨ids,dF,rfl,?_,?_,?_,⟨b1,?_⟩,⟨h.cp.li,fun j id b q1 q2 q3=>?_,h.cp.inj⟩,h.ne⟩
 ·rw[List.length_set];exact bg h.up fw
 ·rw[List.getElem?_set_ne (by omega)];exact h.r0
 ·rw[List.getElem?_set_ne (by omega)];exact h.r1
 ·rw[List.getElem?_set_ne (by omega)];exact b2
 obtain⟨o1,o2⟩:=h.cp.own j id b q1 q2 q3;exact⟨o1,by rw[List.getElem?_set_ne (by omega)];exact o2⟩
end Go.Proofs.YtjdnhamngpafmaaGreat
namespace Go.Av
theorem ue{P:Program}{kb:Nat}{c:Code}{Q:dR->St->Prop}{n:Nat}{bn:List (Nat×ae)}{A:Nat}{C:Nat->List ae}{N M:Nat}(pos:Nat->Nat)
  (dk:∀i,∀d∈C i,d.scalar) (hl:∀i,(C i).length=M) (F:Nat->List ai->Prop)
  (hF:∀i O,i<N->O[A]?=some (.cells (C i))->F i O->(C (i+1)=C i∧F (i+1) O) ∨
   ∃id o x y,id≠A∧O[id]?=some o∧¬o.aD∧o.live∧(C i)[pos i]?=some x∧(C (i+1))=(C i).set (pos i) y∧bY O id x y∧F (i+1) ((O.set id .gone).set A (.cells (C (i+1))))) :
  ∀(m i:Nat) (O:List ai),i+m=N->O[A]?=some (.cells (C i))->F i O->(∀O',O'.length=O.length->O'[A]?=some (.cells (C N))->F N O'->cn P kb c Q ⟨n,bn,O'⟩)->cn P kb c Q ⟨n,bn,O⟩
 | 0,i,O,hi,hA,hf,h=>by
  have:i=N:=by omega
  subst this;exact h O rfl hA hf
 | m+1,i,O,hi,hA,hf,h=>by
  rcases hF i O (by omega) hA hf with⟨e,fi⟩|⟨id,o,x,y,h1,h2,h3,h4,h5,h6,h7,fi⟩
  ·exact ue pos dk hl F hF m (i+1) O (by omega) (by rw[e];exact hA) fi h
  have C9:=I hA;refine lG id h2 h3 h4 bn (fun s z hz=>⟨z,hz,.refl z⟩) A (Ne.symm h1) (C i) (C (i+1)) hA (by rw[hl,hl]) (dk (i+1)) (fun j a b ha hb=>?_) (ue pos dk hl F hF m (i+1) _ (by omega) (by rw[List.getElem?_set_self (by rw[List.length_set];exact C9)]) fi fun O' IV=>h O' (by rw[IV,List.length_set,List.length_set]));rw[h6,List.getElem?_set]at hb;split at hb
  ·rename_i e;rw[<-e,h5]at ha;rw[if_pos (I h5)]at hb;simp only[Option.some.injEq]at ha hb;subst ha;subst hb;exact h7
  rw[ha]at hb;simp only[Option.some.injEq]at hb;subst hb;exact .refl _
end Go.Av
namespace Go.Proofs.YtjdnhamngpafmaaGreat
open Go.Av
theorem DY{f:Func}(hw:gg f):(dw f).Nodup:=by
 refine(fJ _).nodup_iff.2 ?_;unfold List.Nodup;rw[List.pairwise_iff_getElem];intro i j hi hj tP e;have h1:=hw.at_ i _ (List.getElem?_eq_getElem hi);have h2:=hw.at_ j _ (List.getElem?_eq_getElem hj);rw[e,h2]at h1;omega
theorem pS(a b:List Edge):j7 (a++b)=j7 a++j7 b:=by simp[j7]
theorem PS{es:List Edge}{n:Nat}{e:Edge}(h:es[n]?=some e):(j7 es)[n*2]?=some (aI e.block)∧(j7 es)[n*2+1]?=some (a7 e.args):=by
 have hl:=I h;have e1:es=es.take n++e::es.drop (n+1):=by
  rw[<-bA h,List.take_append_drop]
 have hlen:(j7 (es.take n)).length=n*2:=by rw[lq,List.length_take];omega
 have e2:j7 es=j7 (es.take n)++(aI e.block::a7 e.args::j7 (es.drop (n+1))):=by
  conv=>lhs;rw[e1]
  rw[pS];rfl
 rw[e2];refine⟨?_,?_⟩
 ·rw[List.getElem?_append_right (by omega),hlen,Nat.sub_self];rfl
 rw[List.getElem?_append_right (by omega),hlen,show n*2+1-n*2=1 by omega];rfl
theorem Ex:∀{ids:List Nat} {bs:List Block} {k id:Nat} {b:Block},ids[k]?=some id->bs[k]?=some b->((eF ids bs).drop (k*7)).take 7=we id b
 | i::ids,c::bs,0,id,b,h1,h2=>by
  simp only[List.getElem?_cons_zero,Option.some.injEq]at h1 h2;subst h1;subst h2;rfl
 | i::ids,c::bs,k+1,id,b,h1,h2=>by
  have ih:=Ex (ids:=ids) (bs:=bs) (k:=k) (by simpa using h1) (by simpa using h2);have e:eF (i::ids) (c::bs)=we i c++eF ids bs:=rfl;have hl:(we i c).length=7:=rfl;rw[e,List.drop_append,List.drop_of_length_le (by rw[hl];omega),hl,List.nil_append,show(k+1)*7-7=k*7 by omega];exact ih
 | [],_,k,id,b,h1,_=>by simp at h1
 | i::ids,[],k,id,b,_,h2=>by simp at h2
def lS:Nat->List Nat->List Block->List ae
 | 0,ids,bs=>eF ids bs
 | i+1,_::ids,b::bs=>b.enc.cells++lS i ids bs
 | _+1,_,_=>[]
theorem Bl:∀(i:Nat) {ids:List Nat} {bs:List Block},ids.length=bs.length->(lS i ids bs).length=bs.length*7
 | 0,ids,bs,h=>nJ h
 | i+1,_::ids,b::bs,h=>by
  have hb:b.enc.cells.length=7:=rfl;rw[lS,List.length_append,Bl i (by simpa using h),hb,List.length_cons];omega
 | i+1,[],[],_=>rfl
 | i+1,[],b::bs,h=>by simp at h
 | i+1,x::ids,[],h=>by simp at h
theorem Cv(id:Nat)(b:Block):∀d∈we id b,d.scalar:=fun d hd=>by
 simp only[we,List.mem_cons,List.not_mem_nil,or_false]at hd;rcases hd with rfl|rfl|rfl|rfl|rfl|rfl|rfl
 ·trivial
 ·trivial
 ·trivial
 ·trivial
 ·trivial
 ·trivial
 unfold rj;split<;>trivial
theorem sW:∀(i:Nat) (ids:List Nat) (bs:List Block),∀d∈lS i ids bs,d.scalar
 | 0,ids,bs=>fun d hd=>by
  unfold lS eF at hd;obtain⟨l,hl,hd⟩:=List.mem_flatten.1 hd;obtain⟨j,hj⟩:=List.mem_iff_getElem?.1 hl;rw[List.getElem?_zipWith]at hj;cases h1:ids[j]? with
  | none=>rw[h1]at hj;cases hj
  | some id =>
   cases h2:bs[j]? with
   | none=>rw[h1,h2]at hj;cases hj
   | some b =>
    rw[h1,h2]at hj;simp only[Option.some.injEq]at hj;subst hj;exact Cv id b d hd
 | i+1,x::ids,b::bs=>fun d hd=>by
  rw[lS]at hd;rcases List.mem_append.1 hd with q|q
  ·simp only[Block.enc,ae.cells,List.mem_cons,List.not_mem_nil,or_false]at q;rcases q with rfl|rfl|rfl|rfl|rfl|rfl|rfl<;>trivial
  exact sW i ids bs d q
 | i+1,[],[]=>fun d hd=>by cases hd
 | i+1,[],b::bs=>fun d hd=>by cases hd
 | i+1,x::ids,[]=>fun d hd=>by cases hd
theorem Fe:∀(i:Nat) {ids:List Nat} {bs:List Block} {id:Nat} {b:Block},ids[i]?=some id->bs[i]?=some b ->
  (lS i ids bs)[i*7+6]?=some (rj id b.term.to)∧lS (i+1) ids bs=(lS i ids bs).set (i*7+6) (aH b.term.to)
 | 0,x::ids,c::bs,id,b,h1,h2=>by
  simp only[List.getElem?_cons_zero,Option.some.injEq]at h1 h2;subst h1;subst h2;exact⟨rfl,rfl⟩
 | i+1,x::ids,c::bs,id,b,h1,h2=>by
  obtain⟨i1,i2⟩:=Fe i (ids:=ids) (bs:=bs) (id:=id) (b:=b) (by simpa using h1) (by simpa using h2);have hb:c.enc.cells.length=7:=rfl;have e:lS (i+1) (x::ids) (c::bs)=c.enc.cells++lS i ids bs:=rfl;have e2:lS (i+1+1) (x::ids) (c::bs)=c.enc.cells++lS (i+1) ids bs:=rfl;rw[e,e2,i2];refine⟨?_,?_⟩
  ·rw[List.getElem?_append_right (by omega),hb,show(i+1)*7+6-7=i*7+6 by omega];exact i1
  rw[List.set_append_right _ _ (by omega),hb,show(i+1)*7+6-7=i*7+6 by omega]
 | 0,[],_,id,b,h1,_=>by simp at h1
 | 0,_::_,[],id,b,_,h2=>by simp at h2
 | i+1,[],_,id,b,h1,_=>by simp at h1
 | i+1,_::_,[],id,b,_,h2=>by simp at h2
theorem Bk:∀{ids:List Nat} {bs:List Block},ids.length=bs.length->lS bs.length ids bs=al (bs.map Block.enc)
 | [],[],_=>rfl
 | x::ids,b::bs,h=>by
  have e:al ((b::bs).map Block.enc)=b.enc.cells++al (bs.map Block.enc):=rfl;rw[e,<-Bk (ids:=ids) (by simpa using h)];rfl
 | [],b::bs,h=>by simp at h
 | x::ids,[],h=>by simp at h
theorem yp(bs:List Block):(al (bs.map Block.enc)).map ae.bf=al (bs.map Block.enc):=by
 induction bs with
 | nil=>rfl
 | cons b r ih =>
  have e:al ((b::r).map Block.enc)=b.enc.cells++al (r.map Block.enc):=rfl;rw[e,List.map_append,ih];rfl
def Uq(x:Edge):Block:=⟨[],[],⟨1,0,0,[],[x]⟩⟩
def fS(b:Block)(es:List Edge):Block:=⟨b.params,b.ins,⟨b.term.kind,b.term.arg,b.term.n,b.term.cases,es⟩⟩
structure Sp where
 fj:List (List Edge)
 news:List Block
def SB(f:Func)(k:Nat)(x:Edge):Bool:=decide (2<=(aY f (k:Int)).term.to.length)&&decide (2<=(bB f x.block).length)
def Q4(f:Func)(k n:Nat)(S:Sp):Sp :=
 match (eA f (k:Int))[n]? with
 | none=>S
 | some x=>if SB f k x then⟨S.fj.set k ((S.fj[k]?.getD []).set n ⟨((f.blocks.length+S.news.length:Nat):Int),[]⟩),S.news++[Uq x]⟩else S
def YM(f:Func)(k:Nat):Nat->Nat->Sp->Sp
 | 0,_,S=>S
 | m+1,n,S=>YM f k m (n+1) (Q4 f k n S)
def YN(f:Func):Nat->Nat->Sp->Sp
 | 0,_,S=>S
 | m+1,k,S=>YN f m (k+1) (YM f k (eA f (k:Int)).length 0 S)
def Hl(f:Func):Sp:=⟨f.blocks.map fun b=>b.term.to,[]⟩
def spM(f:Func):Sp:=YN f f.blocks.length 0 (Hl f)
structure Xy(f:Func)(S:Sp):Prop where
 len:S.fj.length=f.blocks.length
 each:∀(k:Nat) b l,f.blocks[k]?=some b->S.fj[k]?=some l->l.length=b.term.to.length
theorem Uz(f:Func):Xy f (Hl f):=⟨by simp[Hl],fun k b l h1 h2=>by
 unfold Hl at h2;simp only[List.getElem?_map,h1,Option.map_some,Option.some.injEq]at h2;rw[<-h2]⟩
structure Hy(f:Func)(ids:List Nat)(X:Nat)(S:Sp)(dF:Nat)(O:List ai):Prop where
 up:∀o∈O,o.upto O.length
 r1:O[1]?=some (.cells [aI 0,.aB 7 [] .ex])
 x5:5<=X
 xb:dF≠X
 out:O[X]?=some (.cells [aI f.name,.os dF (f.blocks.length+S.news.length) 7])
 bl:5<=dF∧O[dF]?=some (.cells (eF ids f.blocks++al (S.news.map Block.enc)))
 li:ids.length=f.blocks.length
 w:Xy f S
 own:∀(j id:Nat) (b:Block) (l:List Edge),ids[j]?=some id->f.blocks[j]?=some b->S.fj[j]?=some l->b.term.to≠[]->5<=id∧id≠dF∧id≠X∧O[id]?=some (.cells (j7 l))
 inj:∀(i j id:Nat) (b c:Block),ids[i]?=some id->ids[j]?=some id->f.blocks[i]?=some b->f.blocks[j]?=some c->b.term.to≠[]->c.term.to≠[]->i=j
theorem Hy.start{f:Func}{ids:List Nat}{dF:Nat}{O:List ai}(br:∀o∈O,o.upto O.length)(h1:O[1]?=some (.cells [aI 0,.aB 7 [] .ex]))(hb:5<=dF∧O[dF]?=some (.cells (eF ids f.blocks)))(hc:Vf 5 ids f.blocks O)
  (bD:∀(j id:Nat) (b:Block),ids[j]?=some id->f.blocks[j]?=some b->b.term.to≠[]->id≠dF):Hy f ids O.length (Hl f) dF (O++[ai.cells [aI f.name,.os dF f.blocks.length 7]]) where
 up:=fun o ho=>by
  have q8:=I hb.2;rw[List.length_append,List.length_singleton];rcases List.mem_append.1 ho with q|q
  ·exact ai.bK (by omega) (br o q)
  rw[List.mem_singleton]at q;subst q;exact⟨trivial,show _<_ by omega,trivial⟩
 r1:=bS h1
 x5:=by
  have:=I hb.2;omega
 xb:=by
  have:=I hb.2;omega
 out:=dI _ _
 bl:=⟨hb.1,by
  have h2:=bS (X:=[ai.cells [aI f.name,.os dF f.blocks.length 7]]) hb.2;have e:eF ids f.blocks++al ((Hl f).news.map Block.enc)=eF ids f.blocks:=List.append_nil _;rw[e];exact h2⟩
 li:=hc.li
 w:=Uz f
 own:=fun j id b l q1 q2 q3 q4=>by
  obtain⟨o1,o2⟩:=hc.own j id b q1 q2 q4;have:=I o2;unfold Hl at q3;simp only[List.getElem?_map,q2,Option.map_some,Option.some.injEq]at q3;rw[<-q3];exact⟨o1,bD j id b q1 q2 q4,by omega,bS o2⟩
 inj:=hc.inj
theorem Hy.Vm{f:Func}{ids:List Nat}{X:Nat}{S:Sp}{dF:Nat}{O:List ai}(h:Hy f ids X S dF O){k id:Nat}{b:Block}{l m:List Edge}(gC:ids[k]?=some id)(hb:f.blocks[k]?=some b)(hl:S.fj[k]?=some l)(bD:b.term.to≠[])(hm:m.length=l.length) :
  Hy f ids X ⟨S.fj.set k m,S.news⟩ dF (O.set id (.cells (j7 m))):=by
 obtain⟨o1,o2,o3,o4⟩:=h.own k id b l gC hb hl bD;have Gl:=I o4;have HF:=h.x5;have P2:=h.bl.1;exact {
  up:=by
   rw[List.length_set];exact bg h.up (show ai.upto O.length (.cells (j7 m)) from AG _ _)
  r1:=by rw[List.getElem?_set_ne (by omega)];exact h.r1
  x5:=h.x5
  xb:=h.xb
  out:=by rw[List.getElem?_set_ne o3];exact h.out
  bl:=⟨h.bl.1,by rw[List.getElem?_set_ne o2];exact h.bl.2⟩
  li:=h.li
  w:=⟨by rw[List.length_set];exact h.w.len,fun j c x h1 h2=>by
   simp only at h2;rw[List.getElem?_set]at h2;split at h2
   ·rename_i e;subst e;split at h2
    ·simp only[Option.some.injEq]at h2;rw[hb]at h1;simp only[Option.some.injEq]at h1;rw[<-h2,<-h1,hm];exact h.w.each k b l hb hl
    cases h2
   exact h.w.each j c x h1 h2⟩
  own:=fun j z c x h1 h2 h3 h4=>by
   simp only at h3;rw[List.getElem?_set]at h3;by_cases e:k=j
   ·subst e;rw[gC]at h1;simp only[Option.some.injEq]at h1;subst h1;rw[if_pos rfl]at h3;split at h3
    ·simp only[Option.some.injEq]at h3;subst h3;exact⟨o1,o2,o3,List.getElem?_set_self Gl⟩
    cases h3
   rw[if_neg e]at h3;obtain⟨p1,p2,p3,p4⟩:=h.own j z c x h1 h2 h3 h4;refine⟨p1,p2,p3,?_⟩;rw[List.getElem?_set_ne (fun q=>?_)]
   ·exact p4
   subst q;exact e (h.inj k j id b c gC h1 hb h2 bD h4)
  inj:=h.inj }
theorem Hy.block{f:Func}{ids:List Nat}{X:Nat}{S:Sp}{dF:Nat}{O:List ai}(h:Hy f ids X S dF O)(c:Block){cs ar:List ae}(fw:cs=(eF ids f.blocks++al (S.news.map Block.enc))++c.enc.cells)(SW:ar=[aI f.name,.os O.length (f.blocks.length+S.news.length+1) 7]) :
  Hy f ids X ⟨S.fj,S.news++[c]⟩ O.length ((O.set dF .gone++[ai.cells cs]).set X (.cells ar)):=by
 have VK:=I h.out;have q8:=I h.bl.2;have HF:=h.x5;have P2:=h.bl.1;have Ca:=h.xb;have sO:∀j,j<O.length->j≠X->j≠dF->((O.set dF .gone++[ai.cells cs]).set X (.cells ar))[j]?=O[j]?:=fun j hj h1 h2=>by
  rw[List.getElem?_set_ne (Ne.symm h1),List.getElem?_append_left (by rw[List.length_set];omega),List.getElem?_set_ne (Ne.symm h2)]
 have IZ:al ((S.news++[c]).map Block.enc)=al (S.news.map Block.enc)++c.enc.cells:=by
  rw[List.map_append];simp[al]
 subst SW;exact {
  up:=by
   intro o ho;rw[List.length_set,List.length_append,List.length_set,List.length_singleton];rcases List.mem_or_eq_of_mem_set ho with q|q
   ·rcases List.mem_append.1 q with q|q
    ·rcases List.mem_or_eq_of_mem_set q with q|q
     ·exact ai.bK (by omega) (h.up o q)
     subst q;trivial
    rw[List.mem_singleton]at q;subst q;subst fw;show av _ _;have h1:=h.up _ (List.mem_of_getElem? h.bl.2);have h2:av O.length (eF ids f.blocks++al (S.news.map Block.enc)):=h1;rw[aQ]at h2 ⊢;intro x hx;rcases List.mem_append.1 hx with q|q
    ·exact ae.bK (by omega) x (h2 x q)
    have h3:=Block.aL (O.length+1) c;have h4:av (O.length+1) c.enc.cells:=h3;exact aQ.1 h4 x q
   subst q;exact⟨trivial,show _<_ by omega,trivial⟩
  r1:=by rw[sO 1 (I h.r1) (by omega) (by omega)];exact h.r1
  x5:=h.x5
  xb:=by omega
  out:=by
   rw[List.getElem?_set_self (by rw[List.length_append,List.length_set];omega),List.length_append];rfl
  bl:=⟨by omega,by
   rw[List.getElem?_set_ne (by omega),List.getElem?_append_right (by rw[List.length_set];omega),List.length_set,Nat.sub_self,IZ,<-List.append_assoc,<-fw];rfl⟩
  li:=h.li
  w:=⟨h.w.len,h.w.each⟩
  own:=fun j z b l h1 h2 h3 h4=>by
   obtain⟨p1,p2,p3,p4⟩:=h.own j z b l h1 h2 h3 h4;have:=I p4;exact⟨p1,by omega,p3,by rw[sO z this p3 p2];exact p4⟩
  inj:=h.inj }
end Go.Proofs.YtjdnhamngpafmaaGreat
namespace Go.Av

end Go.Av
namespace Go.Proofs.YtjdnhamngpafmaaGreat
open Go.Av
abbrev Mv:=Int×Int
abbrev eM(p:Mv):ae:=.agg [aI p.1,aI p.2]
theorem oM(n:Nat)(l:List Mv):av n (l.map eM):=by
 rw[aQ];intro c hc;obtain⟨x,_,rfl⟩:=List.mem_map.1 hc;exact⟨trivial,trivial,trivial⟩
def HH(h:Int)(inb:Bool)(k:Int):Nat->List Edge->List Mv
 | _,[]=>[]
 | n,e::r=>if e.block=h∧inb=false then(k,(n:Int))::HH h inb k (n+1) r else HH h inb k (n+1) r
def JS(x:bd):Nat->List Block->List Mv
 | _,[]=>[]
 | k,b::r=>HH x.head (gj x.blocks (k:Int)) (k:Int) 0 b.term.to++JS x (k+1) r
def gI(f:Func)(x:bd):List Mv:=JS x 0 f.blocks
theorem Fh(h:Int)(inb:Bool)(k:Int):∀(n:Nat) (l:List Edge),(HH h inb k n l).length<=l.length
 | _,[]=>Nat.le_refl _
 | n,e::r=>by
  have:=Fh h inb k (n+1) r;unfold HH;split<;>simp only[List.length_cons]<;>omega
theorem Fk{h:Int}{inb:Bool}{k:Int}:∀{n:Nat} {l:List Edge} {p:Mv},p∈HH h inb k n l↔p.1=k∧inb=false∧∃(j:Nat) (e:Edge),l[j]?=some e∧p.2=((n+j:Nat):Int)∧e.block=h
 | n,[],p=>by simp[HH]
 | n,e::r,p=>by
  have ih:=Fk (h:=h) (inb:=inb) (k:=k) (n:=n+1) (l:=r) (p:=p);have k9:(∃(j:Nat) (e':Edge),(e::r)[j]?=some e'∧p.2=((n+j:Nat):Int)∧e'.block=h)↔((p.2=(n:Int)∧e.block=h)∨∃(j:Nat) (e':Edge),r[j]?=some e'∧p.2=((n+1+j:Nat):Int)∧e'.block=h):=by
   constructor
   ·rintro⟨j,e',h1,h2,h3⟩;cases j with
    | zero =>
     simp only[List.getElem?_cons_zero,Option.some.injEq]at h1;subst h1;exact .inl ⟨by simpa using h2,h3⟩
    | succ j=>exact .inr ⟨j,e',by simpa using h1,by rw[h2];congr 1;omega,h3⟩
   rintro(⟨h1,h2⟩|⟨j,e',h1,h2,h3⟩)
   ·exact⟨0,e,rfl,by simpa using h1,h2⟩
   exact⟨j+1,e',by simpa using h1,by rw[h2];congr 1;omega,h3⟩
  rw[k9];unfold HH;split
  ·rename_i hc;rw[List.mem_cons,ih];obtain⟨a,b⟩:=p;simp only[Prod.mk.injEq];constructor
   ·rintro(⟨h1,h2⟩|⟨h1,h2,h3⟩)
    ·exact⟨h1,hc.2,.inl ⟨h2,hc.1⟩⟩
    exact⟨h1,h2,.inr h3⟩
   rintro⟨h1,h2,⟨h3,h4⟩|h3⟩
   ·exact .inl ⟨h1,h3⟩
   exact .inr ⟨h1,h2,h3⟩
  rename_i hc;rw[ih];constructor
  ·rintro⟨h1,h2,h3⟩;exact⟨h1,h2,.inr h3⟩
  rintro⟨h1,h2,⟨h3,h4⟩|h3⟩
  ·exact absurd ⟨h4,h2⟩ hc
  exact⟨h1,h2,h3⟩
theorem Fg{x:bd}:∀{k:Nat} {l:List Block} {p:Mv},p∈JS x k l↔∃(i j:Nat) (b:Block) (e:Edge),l[i]?=some b∧b.term.to[j]?=some e∧p=(((k+i:Nat):Int),(j:Int))∧gj x.blocks ((k+i:Nat):Int)=false∧e.block=x.head
 | k,[],p=>by simp[JS]
 | k,b::r,p=>by
  have ih:=Fg (x:=x) (k:=k+1) (l:=r) (p:=p);unfold JS;rw[List.mem_append,ih,Fk];constructor
  ·rintro(⟨h1,h2,j,e,h3,h4,h5⟩|⟨i,j,b',e,h1,h2,h3,h4,h5⟩)
   ·obtain⟨a,c⟩:=p;simp only at h1 h4;refine⟨0,j,b,e,rfl,h3,?_,by simpa using h2,h5⟩;rw[h1,h4];simp
   refine⟨i+1,j,b',e,by simpa using h1,h2,?_,?_,h5⟩
   ·rw[h3];simp only[Prod.mk.injEq,and_true];congr 1;omega
   rw[show k+(i+1)=k+1+i by omega];exact h4
  rintro⟨i,j,b',e,h1,h2,h3,h4,h5⟩;cases i with
  | zero =>
   simp only[List.getElem?_cons_zero,Option.some.injEq]at h1;subst h1;subst h3;exact .inl ⟨by simp,by simpa using h4,j,e,h2,by simp,h5⟩
  | succ i =>
   refine .inr ⟨i,j,b',e,by simpa using h1,h2,?_,?_,h5⟩
   ·rw[h3];simp only[Prod.mk.injEq,and_true];congr 1;omega
   rw[show k+1+i=k+(i+1) by omega];exact h4
theorem y6{x:bd}:∀{k:Nat} {l:List Block},(∀b∈l,b.term.to.length<=257)->(JS x k l).length<=l.length*257
 | _,[],_=>Nat.zero_le _
 | k,b::r,h=>by
  have ih:=y6 (x:=x) (k:=k+1) (l:=r) fun c hc=>h c (List.mem_cons_of_mem _ hc);have h1:=Fh x.head (gj x.blocks (k:Int)) (k:Int) 0 b.term.to;have h2:=h b List.mem_cons_self;unfold JS;rw[List.length_append,List.length_cons];omega
end Go.Proofs.YtjdnhamngpafmaaGreat
namespace Go.Proofs.YtjdnhamngpafmaaGreat
open Go.Av
structure vS(f:Func)(x:bd):Prop where
 src:kr f x.head≠[]
 rC:0<=x.head∧x.head<f.blocks.length
 bl:x.blocks=gR (nz f x.head)
theorem Pt{f:Func}{x:bd}(h:x∈vv f):vS f x∧x.parent=-1:=by
 unfold vv at h;obtain⟨k,hk,hx⟩:=List.mem_flatMap.1 h;rw[List.mem_range]at hk;unfold zm at hx;split at hx
 ·cases hx
 rename_i q;rw[List.mem_singleton]at hx;subst hx;exact⟨⟨q,⟨by simp,by simpa using hk⟩,rfl⟩,rfl⟩
theorem MZ(f:Func):(vv f).Pairwise (fun x y=>x.head<y.head):=by
 unfold vv;rw[List.pairwise_flatMap];have hh:∀(k:Nat),∀x∈zm f k,x.head=k:=fun k x hx=>by
  unfold zm at hx;split at hx
  ·cases hx
  rw[List.mem_singleton]at hx;rw[hx]
 refine⟨fun k _=>?_,List.Pairwise.imp (fun xw x hx y hy=>?_) List.pairwise_lt_range⟩
 ·unfold zm;split
  ·exact List.Pairwise.nil
  exact List.pairwise_singleton _ _
 rw[hh _ x hx,hh _ y hy];omega
theorem qa(f:Func):ix (vv f) (gk f):=Bo fun _ hx=>(Pt hx).2
theorem y0{f:Func}{x:bd}(h:x∈gk f):vS f x:=by
 have h1:=(qa f).1;have h2:(x.head,x.blocks)∈(gk f).map (fun x=>(x.head,x.blocks)):=List.mem_map.2 ⟨x,h,rfl⟩;rw[h1]at h2;obtain⟨y,hy,e⟩:=List.mem_map.1 h2;simp only[Prod.mk.injEq]at e;have hw:=(Pt hy).1;obtain⟨e1,e2⟩:=e;exact⟨by rw[<-e1];exact hw.src,by rw[<-e1];exact hw.rC,by rw[<-e1,<-e2];exact hw.bl⟩
theorem sb(f:Func):(gk f).Pairwise (fun x y=>x.head<y.head):=by
 have h1:=(qa f).1;have h2:((vv f).map (fun x=>(x.head,x.blocks))).Pairwise (fun a b=>a.1<b.1):=by
  rw[List.pairwise_map];exact MZ f
 rw[<-h1,List.pairwise_map]at h2;exact h2
theorem xL(f:Func):(gk f).length<=f.blocks.length:=by
 have h:=mW (l:=(gk f).map (·.head)) (n:=f.blocks.length) (by
  unfold List.Nodup;rw[List.pairwise_map];exact List.Pairwise.imp (fun q=>by omega) (sb f)) (fun k hk=>by
  obtain⟨x,hx,rfl⟩:=List.mem_map.1 hk;exact(y0 hx).rC)
 simpa using h
section
variable {f:Func} {x:bd}
theorem vS.mem(h:vS f x){k:Int}:k∈x.blocks↔k∈nz f x.head:=by
 rw[h.bl];exact(fJ _).mem_iff
theorem vS.nd(h:vS f x)(hg:fv f):x.blocks.Nodup:=by
 rw[h.bl];exact(fJ _).nodup_iff.2 (va hg h.rC).nd
theorem vS.blk(h:vS f x)(hg:fv f){k:Int}(hk:k∈x.blocks):0<=k∧k<f.blocks.length:=(va hg h.rC).rC k (h.mem.1 hk)
theorem vS.few(h:vS f x)(hg:fv f):x.blocks.length<=f.blocks.length:=mW (h.nd hg) fun _ hk=>h.blk hg hk
theorem vS.hr(h:vS f x)(hg:fv f):0<=cP f x.head:=by
 obtain⟨s,hs⟩:=List.exists_mem_of_ne_nil _ h.src;exact MR hg hs
theorem vS.PK(h:vS f x)(hg:fv f){k:Int}(hk:k∈x.blocks):gB (dn f) x.head k:=MQ hg h.rC (h.mem.1 hk)
theorem vS.back(h:vS f x)(hg:fv f):∃s∈x.blocks,0<=cP f s∧∃e∈eA f s,e.block=x.head:=by
 obtain⟨s,hs⟩:=List.exists_mem_of_ne_nil _ h.src;have hm:=jB.1 hs;exact⟨s,h.mem.2 ((va hg h.rC).src s hs),hm.1,hm.2.1⟩
end
end Go.Proofs.YtjdnhamngpafmaaGreat
namespace Go.Proofs.YtjdnhamngpafmaaGreat
open Go.Av
def DZ(N:Int)(fj:List (List Edge))(p:Mv):List (List Edge):=fj.set p.1.toNat ((fj[p.1.toNat]?.getD []).set p.2.toNat ⟨N,((fj[p.1.toNat]?.getD [])[p.2.toNat]?.getD default).args⟩)
def cy(n:Int)(k:Nat):List Int:=(List.range k).map fun i:Nat=>n+(i:Int)
def sl(h:Int)(ps:List Int):Block:=⟨ps,[],⟨1,0,0,[],[⟨h,ps⟩]⟩⟩
def iQ(f:Func)(x:bd):Bool:=match gI f x with
 | [p]=>decide ((aY f p.1).term.to.length=1)
 | _=>false
def sm(f:Func)(x:bd):Nat:=(aY f x.head).params.length
def qf(f:Func)(S:Sp×Int)(x:bd):Sp×Int :=
 if iQ f x=true then S else(⟨(gI f x).foldl (DZ ((f.blocks.length+S.1.news.length:Nat):Int)) S.1.fj,S.1.news++[sl x.head (cy S.2 (sm f x))]⟩,S.2+sm f x)
def xT(f:Func):Sp×Int:=(gk f).foldl (qf f) (Hl f,c5 f)
def cN(f:Func):Func:=⟨f.name,List.zipWith fS f.blocks (xT f).1.fj++(xT f).1.news⟩
def kd(n:Nat)(ns:List bd)(k:Int)(e:Edge):Edge:=match ns.findIdx? (fun x=>decide (e.block=x.head)&&!gj x.blocks k)with
 | some i=>⟨((n+i:Nat):Int),e.args⟩
 | none=>e
def fW(f:Func):List bd->Nat
 | []=>0
 | x::r=>sm f x+fW f r
def jQ(f:Func):Int->List bd->List Block
 | _,[]=>[]
 | n,x::r=>sl x.head (cy n (sm f x))::jQ f (n+sm f x) r
theorem oZ(f:Func):∀(n:Int) (l:List bd),(jQ f n l).length=l.length
 | _,[]=>rfl
 | n,x::r=>by rw[jQ,List.length_cons,oZ,List.length_cons]
theorem vd(f:Func):∀(n:Int) (l:List bd) (x:bd),jQ f n (l++[x])=jQ f n l++[sl x.head (cy (n+fW f l) (sm f x))]
 | n,[],x=>by simp[jQ,fW]
 | n,y::r,x=>by
  have e:n+(sm f y:Int)+(fW f r:Int)=n+((sm f y+fW f r:Nat):Int):=by omega
  rw[List.cons_append,jQ,jQ,vd f _ r x,fW,List.cons_append,e]
theorem ye(f:Func):∀(l:List bd) (x:bd),fW f (l++[x])=fW f l+sm f x
 | [],x=>by simp[fW]
 | y::r,x=>by
  rw[List.cons_append,fW,ye f r x,fW];omega
theorem M4{N:Int}{fj:List (List Edge)}{p:Mv}{k n:Nat}{l:List Edge}{e:Edge}(hl:fj[k]?=some l)(he:l[n]?=some e)(B6:0<=p.1∧0<=p.2) :
  ∃l',(DZ N fj p)[k]?=some l'∧l'[n]?=some (if p=((k:Int),(n:Int))then⟨N,e.args⟩else e)∧l'.length=l.length:=by
 have A4:=I hl;have Gt:=I he;unfold DZ;obtain⟨a,b⟩:=p;simp only at B6;obtain⟨a,rfl⟩:∃a':Nat,a=(a':Int):=⟨a.toNat,by omega⟩
 obtain⟨b,rfl⟩:∃b':Nat,b=(b':Int):=⟨b.toNat,by omega⟩
 simp only[Int.toNat_natCast];by_cases Mk:a=k
 ·subst Mk;rw[hl];simp only[Option.getD_some];refine⟨_,List.getElem?_set_self A4,?_,by simp⟩;by_cases VO:b=n
  ·subst VO;rw[List.getElem?_set_self Gt,he];simp
  rw[List.getElem?_set_ne VO,he,if_neg];simp only[Prod.mk.injEq,Int.natCast_inj,true_and];exact VO
 refine⟨l,?_,?_,rfl⟩
 ·rw[List.getElem?_set_ne Mk];exact hl
 rw[he,if_neg];simp only[Prod.mk.injEq,Int.natCast_inj];exact fun q=>Mk q.1
theorem M5(N:Int)(fj:List (List Edge))(p:Mv):(DZ N fj p).length=fj.length:=by unfold DZ;rw[List.length_set]
theorem Ft{N:Int}:∀(ps:List Mv) {fj:List (List Edge)} {k n:Nat} {l:List Edge} {e:Edge},fj[k]?=some l->l[n]?=some e->(∀p∈ps,0<=p.1∧0<=p.2) ->
  ∃l',(ps.foldl (DZ N) fj)[k]?=some l'∧l'[n]?=some (if((k:Int),(n:Int))∈ps then⟨N,e.args⟩else e)∧l'.length=l.length
 | [],fj,k,n,l,e,hl,he,_=>⟨l,hl,by simpa using he,rfl⟩
 | p::ps,fj,k,n,l,e,hl,he,hp=>by
  obtain⟨l1,h1,h2,h3⟩:=M4 (N:=N) (p:=p) hl he (hp p List.mem_cons_self);obtain⟨l2,h4,h5,h6⟩:=Ft (N:=N) ps h1 h2 fun q hq=>hp q (List.mem_cons_of_mem _ hq);refine⟨l2,h4,?_,by omega⟩;rw[h5];by_cases wI:p=((k:Int),(n:Int))
  ·subst wI;simp
  rw[if_neg wI];congr 1;have:((k:Int),(n:Int))∈p::ps↔((k:Int),(n:Int))∈ps:=by
   rw[List.mem_cons];exact⟨fun q=>q.resolve_left (fun q2=>wI q2.symm),.inr⟩
  simp only[this]
theorem M6{N:Int}{fj:List (List Edge)}{p:Mv}{k:Nat}{l:List Edge}(hl:fj[k]?=some l):∃l',(DZ N fj p)[k]?=some l'∧l'.length=l.length:=by
 unfold DZ;by_cases h:p.1.toNat=k
 ·rw[h,hl];exact⟨_,List.getElem?_set_self (I hl),by simp⟩
 exact⟨l,by rw[List.getElem?_set_ne h];exact hl,rfl⟩
theorem Fv{N:Int}:∀(ps:List Mv) {fj:List (List Edge)} {k:Nat} {l:List Edge},fj[k]?=some l->∃l',(ps.foldl (DZ N) fj)[k]?=some l'∧l'.length=l.length
 | [],_,_,l,hl=>⟨l,hl,rfl⟩
 | p::ps,fj,k,l,hl=>by
  obtain⟨l1,h1,h2⟩:=M6 (N:=N) (p:=p) hl;obtain⟨l2,h3,h4⟩:=Fv (N:=N) ps h1;exact⟨l2,h3,by omega⟩
theorem Fu{N:Int}:∀(ps:List Mv) (fj:List (List Edge)),(ps.foldl (DZ N) fj).length=fj.length
 | [],_=>rfl
 | p::ps,fj=>by rw[List.foldl_cons,Fu ps,M5]
structure RG(f:Func)(ns:List bd)(S:Sp×Int):Prop where
 len:S.1.fj.length=f.blocks.length
 fj:∀(k:Nat) b,f.blocks[k]?=some b->S.1.fj[k]?=some (b.term.to.map (kd f.blocks.length ns (k:Int)))
 news:S.1.news=jQ f (c5 f) ns
 next:S.2=c5 f+fW f ns
theorem G3(f:Func):RG f [] (Hl f,c5 f):=⟨by simp[Hl],fun k b h=>by
 have:(Hl f).fj[k]?=some b.term.to:=by simp[Hl,h]
 rw[this];congr 1;symm;have gC:kd f.blocks.length [] (k:Int)=id:=by
  funext e
  simp[kd]
 rw[gC,List.map_id],rfl,by simp[fW]⟩
theorem Ha{n:Nat}{ns:List bd}{x:bd}(bD:∀y∈ns,y.head≠x.head)(k:Int)(e:Edge) :
  kd n (ns++[x]) k e=if e.block=x.head∧gj x.blocks k=false then⟨((n+ns.length:Nat):Int),e.args⟩else kd n ns k e:=by
 unfold kd;rw[List.findIdx?_append];by_cases h1:e.block=x.head
 ·have hn:ns.findIdx? (fun x=>decide (e.block=x.head)&&!gj x.blocks k)=none:=by
   rw[List.findIdx?_eq_none_iff];intro y hy;have:e.block≠y.head:=fun q=>bD y hy (by rw[<-q,h1]);simp[this]
  rw[hn];cases h2:gj x.blocks k with
  | true=>simp[h2]
  | false=>simp[h1,h2,Nat.add_comm]
 rw[if_neg (fun q=>h1 q.1)];cases hq:ns.findIdx? (fun x=>decide (e.block=x.head)&&!gj x.blocks k)with
 | some i=>simp
 | none=>simp[h1]
theorem G'{n:Nat}{ns:List bd}{k:Int}{e:Edge}(h:∀y∈ns,y.head≠e.block):kd n ns k e=e:=by
 unfold kd;rw[List.findIdx?_eq_none_iff.2];intro y hy;have:e.block≠y.head:=fun q=>h y hy q.symm;simp[this]
theorem sj{f:Func}{x:bd}{p:Mv}:p∈gI f x↔∃(k j:Nat) (b:Block) (e:Edge),f.blocks[k]?=some b∧b.term.to[j]?=some e∧p=((k:Int),(j:Int))∧gj x.blocks (k:Int)=false∧e.block=x.head:=by
 unfold gI;rw[Fg];simp only[Nat.zero_add]
theorem J1{f:Func}{ns:List bd}{S:Sp×Int}(h:RG f ns S){x:bd}(bD:∀y∈ns,y.head≠x.head):RG f (if iQ f x=true then ns else ns++[x]) (qf f S x):=by
 unfold qf;split
 ·exact h
 have Gt:S.1.news.length=ns.length:=by rw[h.news,oZ]
 refine⟨by simp only;rw[Fu];exact h.len,fun k b hb=>?_,?_,?_⟩
 ·have ht:=h.fj k b hb;have mi:∀p∈gI f x,0<=p.1∧0<=p.2:=fun p hp=>by
   obtain⟨a,c,_,_,_,_,rfl,_⟩:=sj.1 hp;exact⟨by simp only;omega,by simp only;omega⟩
  simp only;obtain⟨L,hL,hlen⟩:=Fv (N:=((f.blocks.length+S.1.news.length:Nat):Int)) (gI f x) ht;rw[List.length_map]at hlen;rw[hL];congr 1;apply List.ext_getElem?;intro n;cases he:b.term.to[n]? with
  | none =>
   have:=List.getElem?_eq_none_iff.1 he;rw[List.getElem?_eq_none (by omega),List.getElem?_map,he];rfl
  | some e =>
   have tz:(b.term.to.map (kd f.blocks.length ns (k:Int)))[n]?=some (kd f.blocks.length ns (k:Int) e):=by rw[List.getElem?_map,he];rfl
   obtain⟨l',h1,h2,_⟩:=Ft (N:=((f.blocks.length+S.1.news.length:Nat):Int)) (gI f x) ht tz mi;rw[hL]at h1;simp only[Option.some.injEq]at h1;rw[h1,h2,List.getElem?_map,he,Option.map_some,Ha bD,Gt];congr 1;have hm:((k:Int),(n:Int))∈gI f x↔e.block=x.head∧gj x.blocks (k:Int)=false:=by
    rw[sj];constructor
    ·rintro⟨a,c,b',e',q1,q2,q3,q4,q5⟩;simp only[Prod.mk.injEq,Int.natCast_inj]at q3;obtain⟨rfl,rfl⟩:=q3;rw[hb]at q1;simp only[Option.some.injEq]at q1;subst q1;rw[he]at q2;simp only[Option.some.injEq]at q2;subst q2;exact⟨q5,q4⟩
    rintro⟨q5,q4⟩;exact⟨k,n,b,e,hb,he,rfl,q4,q5⟩
   by_cases hc:e.block=x.head∧gj x.blocks (k:Int)=false
   ·rw[if_pos (hm.2 hc),if_pos hc,G' (fun y hy=>by rw[hc.1];exact bD y hy)]
   rw[if_neg (fun q=>hc (hm.1 q)),if_neg hc]
 ·simp only;rw[vd,h.news,h.next]
 simp only;rw[ye,h.next,Int.natCast_add];omega
def bE(f:Func):List bd:=(gk f).filter fun x=>!iQ f x
theorem vq{f:Func}:∀(l:List bd) (ns:List bd) (S:Sp×Int),RG f ns S->(∀y∈ns,∀x∈l,y.head≠x.head)->l.Pairwise (fun x y=>x.head≠y.head)->RG f (ns++l.filter fun x=>!iQ f x) (l.foldl (qf f) S)
 | [],ns,S,h,_,_=>by simpa using h
 | x::r,ns,S,h,hn,hp=>by
  rw[List.pairwise_cons]at hp;have h1:=J1 h (x:=x) fun y hy=>hn y hy x List.mem_cons_self;rw[List.foldl_cons];cases hs:iQ f x with
  | true =>
   rw[if_pos hs]at h1;rw[List.filter_cons_of_neg (by simp[hs])];exact vq r ns _ h1 (fun y hy z hz=>hn y hy z (List.mem_cons_of_mem _ hz)) hp.2
  | false =>
   rw[if_neg (by simp[hs])]at h1;rw[List.filter_cons_of_pos (by simp[hs]),show ns++x::r.filter (fun x=>!iQ f x)=(ns++[x])++r.filter (fun x=>!iQ f x) by simp];refine vq r (ns++[x]) _ h1 (fun y hy z hz=>?_) hp.2;rcases List.mem_append.1 hy with q|q
   ·exact hn y q z (List.mem_cons_of_mem _ hz)
   rw[List.mem_singleton]at q;subst q;exact hp.1 z hz
theorem Bx(f:Func):RG f (bE f) (xT f):=by
 have:=vq (gk f) [] _ (G3 f) (fun y hy=>by cases hy) ((sb f).imp fun h q=>by omega);simpa[bE,xT]using this
theorem JE{ds:Defs}{v:Int}(h:v ∉ ds.map (·.1)):fB ds v=none:=by
 cases hl:fB ds v with
 | none=>rfl
 | some p=>exact absurd (List.mem_map.2 ⟨_,u6 hl,rfl⟩) h
theorem qO{ds:Defs}{v:Int}{p:Int×Int}(hv:0<=v∧v<=4095)(h:v ∉ ds.map (·.1)):(df ds v p).1=0:=by
 unfold df;rw[JE h];simp[within,hv]
theorem rl(k:Int):∀(l:List Int) (ds:Defs),(∀v∈l,0<=v∧v<=4095)->(ds.map (·.1)++l).Nodup->(dy k ds l).1=0
 | [],_,_,_=>rfl
 | p::r,ds,hv,hn=>by
  have hp:p ∉ ds.map (·.1):=fun q=>by
   rw[List.nodup_append]at hn;exact hn.2.2 p q p List.mem_cons_self rfl
  have h0:=qO (p:=(k,0)) (hv p List.mem_cons_self) hp;simp only[dy];rw[if_neg (by rw[h0];simp),mK h0];refine rl k r _ (fun v h=>hv v (List.mem_cons_of_mem _ h)) ?_;rw[List.map_append,List.append_assoc];exact hn
theorem xI(k:Int):∀(l:List Ins) (n:Int) (ds:Defs),(∀i∈l,0<=i.to∧i.to<=4095∧lu i=0)->(ds.map (·.1)++l.map Ins.to).Nodup->(mP k n ds l).1=0
 | [],_,_,_,_=>rfl
 | i::r,n,ds,hv,hn=>by
  have hp:i.to ∉ ds.map (·.1):=fun q=>by
   rw[List.nodup_append]at hn;exact hn.2.2 _ q _ List.mem_cons_self rfl
  have hi:=hv i List.mem_cons_self;have h0:=qO (p:=(k,n+1)) ⟨hi.1,hi.2.1⟩ hp;simp only[mP];rw[if_neg (by rw[h0];simp),if_neg (by rw[hi.2.2];simp),mK h0];refine xI k r _ _ (fun j h=>hv j (List.mem_cons_of_mem _ h)) ?_;rw[List.map_append,List.append_assoc];exact hn
theorem An{f:Func}{ds:Defs}{k:Int}{b:Block}(hb:aY f k=b)(hp:∀v∈b.params,0<=v∧v<=4095)(hi:∀i∈b.ins,0<=i.to∧i.to<=4095∧lu i=0)(he:pj f b.term=0)(hn:(ds.map (·.1)++dL b).Nodup):(fF f ds k).1=0:=by
 unfold fF;rw[hb];unfold dL at hn;rw[<-List.append_assoc]at hn;have h1:=rl k b.params ds hp (by
  rw[List.nodup_append]at hn;exact hn.1)
 rw[if_neg (by rw[h1];simp),qe k b.params ds h1];have h2:=xI k b.ins 0 (ds++iO k b.params) hi (by
  rw[List.map_append];have:(iO k b.params).map (·.1)=b.params:=by
   unfold iO;rw[List.map_map];exact List.map_id' _
  rw[this];exact hn)
 rw[if_neg (by rw[h2];simp)];exact he
theorem Am(k:Int)(b:Block):(kn k b).map (·.1)=dL b:=by
 rw[kn,List.map_append,nY,dL,iO,List.map_map];congr 1;exact List.map_id' _
theorem qE{f:Func}(hp:∀b∈f.blocks,(∀v∈b.params,0<=v∧v<=4095)∧(∀i∈b.ins,0<=i.to∧i.to<=4095∧lu i=0)∧pj f b.term=0) :
  ∀(n k:Nat) (ds:Defs),k+n=f.blocks.length->(ds.map (·.1)++(f.blocks.drop k).flatMap dL).Nodup->(cV f n k ds).1=0
 | 0,_,_,_,_=>rfl
 | n+1,k,ds,hk,hn=>by
  have hb:f.blocks[k]?=some f.blocks[k]:=List.getElem?_eq_getElem (by omega);have RQ:aY f (k:Int)=f.blocks[k]:=by simp[aY,hb]
  rw[bA hb,List.flatMap_cons,<-List.append_assoc]at hn;obtain⟨p1,p2,p3⟩:=hp _ (List.mem_of_getElem? hb);have h0:=An (ds:=ds) RQ p1 p2 p3 (by
   rw[List.nodup_append]at hn;exact hn.1)
  simp only[cV];rw[if_neg (by rw[h0];simp),xd h0,RQ];have e:(k:Int)+1=((k+1:Nat):Int):=by omega
  rw[e];refine qE hp n (k+1) _ (by omega) ?_;rw[List.map_append,Am];exact hn
theorem pB{ds:Defs}{over:List Bs}{seen:Bs}{k:Nat}:∀(l:List Ins) (n:Nat),(∀(j:Nat) i,l[j]?=some i->∀a∈i.args,iX ds over seen k ((n+j:Nat):Int) a=true)->jz ds over seen k n l=true
 | [],_,_=>rfl
 | x::r,n,h=>by
  simp only[jz,Bool.and_eq_true,List.all_eq_true];refine⟨fun a ha=>h 0 x rfl a ha,pB r (n+1) fun j i hj a ha=>?_⟩;rw[show n+1+j=n+(j+1) by omega];exact h (j+1) i (by simpa using hj) a ha
theorem pw{ds:Defs}{over:List Bs}{seen:Bs}:∀(l:List Block) (k:Nat),(∀(j:Nat) b,l[j]?=some b->lh ds over seen (k+j) b=true)->gU ds over seen k l=true
 | [],_,_=>rfl
 | x::r,k,h=>by
  simp only[gU,Bool.and_eq_true];refine⟨h 0 x rfl,pw r (k+1) fun j b hj=>?_⟩;rw[show k+1+j=k+(j+1) by omega];exact h (j+1) b (by simpa using hj)
theorem pU{f:Func}(hn:(iu f).Nodup){k:Nat}{n v:Int}(h:Cf f k n v):iX (B3 f) (kZ f).1 (kZ f).2 k n v=true:=by
 obtain⟨p,h1,h2⟩:=h;have hl:fB (B3 f) v=some p:=(GN (by rw[yC];exact hn)).2 (Fb.2 h1);unfold iX;rw[hl];simp only[Bool.or_eq_true,Bool.and_eq_true,decide_eq_true_eq,Bool.not_eq_true',decide_eq_false_iff_not];cases hs:mv f k with
 | false=>exact .inr (.inr hs)
 | true =>
  rcases h2 hs with q|q
  ·exact .inl q
  exact .inr (.inl q)
theorem Eh{f:Func}(hn:(iu f).Nodup)(h:Es f):rH f (B3 f)=0:=by
 unfold rH;rw[if_pos];refine pw f.blocks 0 fun j b hj=>?_;rw[Nat.zero_add];unfold lh oz;simp only[Bool.and_eq_true,Bool.or_eq_true,decide_eq_true_eq,List.all_eq_true];refine⟨pB b.ins 0 fun n i hi a ha=>?_,?_,fun e he a ha=>pU hn (h.args j b hj e he a ha)⟩
 ·rw[Nat.zero_add];exact pU hn (h.ins j b hj n i hi a ha)
 by_cases h1:b.term.kind=1
 ·exact .inl (.inl h1)
 by_cases h4:b.term.kind=4
 ·exact .inl (.inr h4)
 exact .inr (pU hn (h.arg j b hj h1 h4))
def mw(bs:List Block):Nat:=(bs.map fun b=>b.ins.length).sum
theorem zT:∀(bs:List Block) (m:Nat),(∀b∈bs,b.ins.length<=1024)->m+bs.length*1024<=1000000->qn m bs=((m+mw bs:Nat):Int)
 | [],m,_,_=>by simp[qn,mw]
 | b::r,m,h,hm=>by
  have h1:=h b List.mem_cons_self;rw[List.length_cons]at hm;have hw:IntKind.i64.wrap ((m:Int)+(b.ins.length:Int))=((m+b.ins.length:Nat):Int):=by
   rw[nc .i64 _ (by show(-9223372036854775808:Int)<=_;omega) (by show _<=(9223372036854775807:Int);omega)];omega
  simp only[qn];rw[hw,zT r (m+b.ins.length) (fun x hx=>h x (List.mem_cons_of_mem _ hx)) (by omega)];unfold mw;rw[List.map_cons,List.sum_cons,Nat.add_assoc]
theorem Ay{f:Func}(bD:f.blocks≠[])(Gj:f.blocks.length<=128)(uW:-1<=f.name∧f.name<=1048575)(Wd:∀b∈f.blocks,b.ins.length<=1024)(Ue:mw f.blocks<=1024)(nu:(aY f 0).params.length<=6)
  (hv:∀v∈iu f,0<=v∧v<=4095) (hn:(iu f).Nodup) (hb:∀b∈f.blocks,(∀i∈b.ins,lu i=0)∧pj f b.term=0) (hu:Es f):aN f=0:=by
 have UT:∀b∈f.blocks,(∀v∈b.params,0<=v∧v<=4095)∧(∀i∈b.ins,0<=i.to∧i.to<=4095∧lu i=0)∧pj f b.term=0:=fun b h=>by
  have sN:∀v∈dL b,0<=v∧v<=4095:=fun v q=>hv v (List.mem_flatMap.2 ⟨b,h,q⟩);refine⟨fun v q=>sN v (List.mem_append_left _ q),fun i q=>?_,(hb b h).2⟩;have:=sN i.to (List.mem_append_right _ (List.mem_map.2 ⟨i,q,rfl⟩));exact⟨this.1,this.2,(hb b h).1 i q⟩
 have h0:=qE UT f.blocks.length 0 [] (by omega) (by
  rw[List.drop_zero];exact hn)
 have h1:=pL f.blocks.length 0 [] (by omega) h0;rw[List.drop_zero,List.nil_append]at h1;have hw:=zT f.blocks 0 Wd (by omega);rw[Nat.zero_add]at hw;have hl:=List.length_pos_iff.2 bD;unfold aN;have Vb:qn 0 f.blocks=((mw f.blocks:Nat):Int):=hw;rw[if_neg (by omega),if_neg (by rw[Vb];omega),if_neg (by simp[within,uW]),if_neg (by
  have EL:(cV f f.blocks.length 0 []).1=0:=h0;rw[EL];simp)]
 have C8:(cV f f.blocks.length 0 []).2=B3 f:=h1;rw[C8];exact Eh hn hu
theorem No{f:Func}(bJ:f.fit)(h:aN f=0):mw f.blocks<=1024:=by
 have hw:=cA bJ h;have he:=zT f.blocks 0 hw.ins (by have:=hw.few;omega);unfold aN at h;split at h
 ·simp at h
 split at h
 ·simp at h
 rename_i h2;rw[Nat.zero_add]at he;have Gf:qn 0 f.blocks=((mw f.blocks:Nat):Int):=he;rw[Gf]at h2;omega
theorem PJ{n k:Nat}{D:Nat->Nat->Prop}{R:Nat->Prop}{S:Ds}(hn:n<=128)(hl:S.over.length=n)(h1:∀i j,j<n->D i j->i<n∧(S.at_ j).has i=true)(h2:∀j,j<128->S.seen.has j=true->R j)(hk:k<n){e:Edge}(he:0<=e.block∧e.block.toNat<n)(hR:R k->R e.block.toNat)
  (hD:R k->∀i,D i e.block.toNat->i=e.block.toNat∨D i k) (hs:R k):(∀i j,j<n->D i j->i<n∧((hU k S e).at_ j).has i=true)∧(∀j,j<128->(hU k S e).seen.has j=true->R j)∧(hU k S e).over.length=n:=by
 unfold hU;simp only;split
 ·refine⟨fun i j hj tP=>?_,fun j hj Gw=>?_,by simp only;rw[List.length_set,hl]⟩
  ·refine⟨(h1 i j hj tP).1,?_⟩;have hi:=(h1 i j hj tP).1;unfold Ds.at_;simp only;rw[List.getElem?_set];split
   ·rename_i q;rw[if_pos (by rw[hl];exact he.2),Option.getD_some,Bs.has_add _ _ _ (by omega) (by omega),Bs.uU];simp only[Bool.or_eq_true,Bool.and_eq_true,decide_eq_true_eq];rw[<-q]at tP;rcases hD hs i tP with r|r
    ·exact .inr r
    exact .inl ⟨(h1 i _ he.2 tP).2,(h1 i k hk r).2⟩
   exact(h1 i j hj tP).2
  simp only at Gw;rw[Bs.has_add _ _ _ (by omega) hj]at Gw;simp only[Bool.or_eq_true,decide_eq_true_eq]at Gw;rcases Gw with q|q
  ·exact h2 j hj q
  rw[q];exact hR hs
 exact⟨h1,h2,hl⟩
structure Oo(n:Nat)(D:Nat->Nat->Prop)(R:Nat->Prop)(S:Ds):Prop where
 len:S.over.length=n
 PK:∀i j,j<n->D i j->i<n∧(S.at_ j).has i=true
 seen:∀j,j<128->S.seen.has j=true->R j
structure RD(f:Func)(D:Nat->Nat->Prop)(R:Nat->Prop):Prop where
 few:f.blocks.length<=128
 ee:∀b∈f.blocks,∀e∈b.term.to,0<=e.block∧e.block.toNat<f.blocks.length
 next:∀(k:Nat) b,f.blocks[k]?=some b->R k->∀e∈b.term.to,R e.block.toNat∧∀i,D i e.block.toNat->i=e.block.toNat∨D i k
theorem Ox{f:Func}{D:Nat->Nat->Prop}{R:Nat->Prop}(hc:RD f D R){k:Nat}{b:Block}(hb:f.blocks[k]?=some b)(hR:R k):∀(l:List Edge) {S:Ds},(∀e∈l,e∈b.term.to)->Oo f.blocks.length D R S->Oo f.blocks.length D R (l.foldl (hU k) S)
 | [],_,_,h=>h
 | e::r,S,hl,h=>by
  have hn:=hc.next k b hb hR e (hl e List.mem_cons_self)
  obtain⟨a1,a2,a3⟩:=PJ hc.few h.len h.PK h.seen (I hb) (hc.ee b (List.mem_of_getElem? hb) e (hl e List.mem_cons_self)) (fun _=>hn.1) (fun _=>hn.2) hR;rw[List.foldl_cons];exact Ox hc hb hR r (fun x hx=>hl x (List.mem_cons_of_mem _ hx)) ⟨a3,a1,a2⟩
theorem Oy{f:Func}{D:Nat->Nat->Prop}{R:Nat->Prop}(hc:RD f D R):∀(l:List Block) (k:Nat) {S:Ds},l=f.blocks.drop k->Oo f.blocks.length D R S->Oo f.blocks.length D R (lI k S l)
 | [],_,_,_,h=>h
 | b::r,k,S,hl,h=>by
  have hb:f.blocks[k]?=some b:=by
   have:=congrArg (fun l=>l[0]?) hl;simpa using this.symm
  have hr:r=f.blocks.drop (k+1):=by
   rw[bA hb]at hl;simpa using hl
  rw[lI];refine Oy hc r (k+1) hr ?_;unfold qP;split
  ·exact h
  rename_i hs;have hk:=I hb;exact Ox hc hb (h.seen k (by have:=hc.few;omega) (by simpa using hs)) _ (fun e he=>he) h
theorem Is{f:Func}{D:Nat->Nat->Prop}{R:Nat->Prop}(hc:RD f D R):∀(n:Nat) {S:Ds},Oo f.blocks.length D R S->Oo f.blocks.length D R (iU f n S)
 | 0,_,h=>h
 | n+1,S,h=>by
  simp only[iU];split
  ·exact Is hc n (Oy hc f.blocks 0 (S:=⟨S.over,S.seen,false⟩) (by rw[List.drop_zero]) ⟨h.len,h.PK,h.seen⟩)
  exact h
theorem yk:∀(n j:Nat),n<=128->j<n->(vY n).has j=true
 | 0,_,_,h=>absurd h (Nat.not_lt_zero _)
 | n+1,j,hn,hj=>by
  rw[vY,Bs.has_add _ _ _ (by omega) (by omega)];by_cases e:j=n
  ·simp[e]
  rw[yk n j (by omega) (by omega)];rfl
theorem LW{f:Func}{D:Nat->Nat->Prop}{R:Nat->Prop}(bD:f.blocks≠[])(hc:RD f D R)(h0:R 0)(hz:∀i,D i 0->i=0)(a8:∀i j,D i j->i<f.blocks.length){i j:Nat}(hj:j<f.blocks.length)(h:D i j):(pC f j).has i=true:=by
 have hl:=List.length_pos_iff.2 bD;have hs:Oo f.blocks.length D R (k8 f):=by
  refine⟨by simp[k8],fun i j hj tP=>⟨a8 i j tP,?_⟩,fun j hj Gw=>?_⟩
  ·unfold Ds.at_ k8;simp only;rw[List.getElem?_set];split
   ·rename_i e;subst e;rw[if_pos (by simpa using hl),Option.getD_some,hz i tP];decide
   rw[List.getElem?_replicate,if_pos hj,Option.getD_some];exact yk _ _ hc.few (a8 i j tP)
  have:(Bs.none.add 0).has j=true:=Gw;rw[Bs.has_add _ _ _ (by omega) hj]at this;have hn:Bs.none.has j=false:=by unfold Bs.has Bs.none;simp
  rw[hn]at this;simp only[Bool.false_or,decide_eq_true_eq]at this;rw[this];exact h0
 exact((Is hc 20000 hs).PK i j hj h).2
end Go.Proofs.YtjdnhamngpafmaaGreat
namespace Go.Proofs.YtjdnhamngpafmaaGreat
open Go.Av
section
variable {f:Func}
theorem uk{k:Int}(h0:0<=k)(h1:k<f.blocks.length):f.blocks[k.toNat]?=some (aY f k):=by
 unfold aY;rw[List.getElem?_eq_getElem (by omega)];rfl
end
theorem D8{t t':Term}(h1:t.kind=t'.kind)(h2:t.arg=t'.arg)(h3:t.n=t'.n)(h4:t.cases=t'.cases)(h5:t.to.length=t'.to.length):eg t=eg t':=by
 unfold eg eZ rP;rw[h1,h2,h3,h4,h5]
theorem w6.range{f:Func}{v:Int}{p:Int×Int}(h:w6 f v p):0<=p.1∧p.1<f.blocks.length:=by
 obtain⟨k,b,h1,h2,_⟩:=h;have:=I h1;omega
theorem xo{f:Func}{t:Term}(h1:eg t=true)(h2:t.cases.length<=256)(h3:t.kind=4->1<=t.n∧t.n<=6)(h4:kH t.cases t.cases.length=0)(h5:∀e∈t.to,(1<=e.block∧e.block<=(f.blocks.length:Int)-1)∧e.args.length=(aY f e.block).params.length):pj f t=0:=by
 unfold pj;rw[if_neg (by simp[h1]),if_neg (by omega),if_neg (fun q=>by
  have:=h3 q.1;have q2:=q.2;simp[within,this]at q2),if_neg (by rw[h4];simp)]
 generalize t.to=l at h5;induction l with
 | nil=>rfl
 | cons e r ih =>
  have he:=h5 e List.mem_cons_self;simp only[nM];rw[if_neg (by simp[within,he.1]),if_neg (by rw[he.2];simp)];exact ih fun x hx=>h5 x (List.mem_cons_of_mem _ hx)
theorem F5{f:Func}{t:Term}(h:pj f t=0):kH t.cases t.cases.length=0:=by
 unfold pj at h;split at h
 ·simp at h
 split at h
 ·simp at h
 split at h
 ·simp at h
 split at h
 ·rename_i q;exact absurd h q
 rename_i q;simpa using q
end Go.Proofs.YtjdnhamngpafmaaGreat
namespace Go.Proofs.YtjdnhamngpafmaaGreat
open Go.Av
section
variable {f:Func}
end
theorem B0:∀(bs:List Block) (fj:List (List Edge)),fj.length=bs.length->(List.zipWith fS bs fj).flatMap dL=bs.flatMap dL
 | [],_,_=>by simp
 | b::bs,l::fj,h=>by
  rw[List.zipWith_cons_cons,List.flatMap_cons,List.flatMap_cons,B0 bs fj (by simpa using h)];rfl
 | b::bs,[],h=>by simp at h
theorem FG:∀(bs:List Block) (fj:List (List Edge)),fj.length=bs.length->mw (List.zipWith fS bs fj)=mw bs
 | [],_,_=>by simp[mw]
 | b::bs,l::fj,h=>by
  have ih:=FG bs fj (by simpa using h);unfold mw at ih ⊢;rw[List.zipWith_cons_cons,List.map_cons,List.map_cons,List.sum_cons,List.sum_cons,ih];rfl
 | b::bs,[],h=>by simp at h
theorem Iw{f:Func}{D:Nat->Nat->Prop}{R:Nat->Prop}(bD:f.blocks≠[])(hc:RD f D R)(h0:R 0)(hz:∀i,D i 0->i=0)(a8:∀i j,D i j->i<f.blocks.length){j:Nat}(hj:j<128)(h:mv f j=true):R j:=by
 have hl:=List.length_pos_iff.2 bD;have hs:Oo f.blocks.length D R (k8 f):=by
  refine⟨by simp[k8],fun i j hj tP=>⟨a8 i j tP,?_⟩,fun j hj Gw=>?_⟩
  ·unfold Ds.at_ k8;simp only;rw[List.getElem?_set];split
   ·rename_i e;subst e;rw[if_pos (by simpa using hl),Option.getD_some,hz i tP];decide
   rw[List.getElem?_replicate,if_pos hj,Option.getD_some];exact yk _ _ hc.few (a8 i j tP)
  have:(Bs.none.add 0).has j=true:=Gw;rw[Bs.has_add _ _ _ (by omega) hj]at this;have hn:Bs.none.has j=false:=by unfold Bs.has Bs.none;simp
  rw[hn]at this;simp only[Bool.false_or,decide_eq_true_eq]at this;rw[this];exact h0
 exact(Is hc 20000 hs).seen j hj h
end Go.Proofs.YtjdnhamngpafmaaGreat
namespace Go.Proofs.YtjdnhamngpafmaaGreat
open Go.Av
section
variable {f:Func}
theorem BS:∀l:List Block,(∀c∈l,c.ins=[])->mw l=0
 | [],_=>rfl
 | c::l,h=>by
  have ih:=BS l fun d hd=>h d (List.mem_cons_of_mem _ hd);unfold mw at ih ⊢;rw[List.map_cons,List.sum_cons,ih,h c (List.mem_cons_self ..)];rfl
end
end Go.Proofs.YtjdnhamngpafmaaGreat
namespace Go.Proofs.YtjdnhamngpafmaaGreat
open Go.Av
theorem iq(n:Nat)(ns:List bd)(k:Int)(e:Edge):(kd n ns k e=e∧∀x∈ns,e.block=x.head->gj x.blocks k=true)∨∃(i:Nat) (x:bd),ns[i]?=some x∧kd n ns k e=⟨((n+i:Nat):Int),e.args⟩∧e.block=x.head∧gj x.blocks k=false:=by
 unfold kd;cases h:ns.findIdx? (fun x=>decide (e.block=x.head)&&!gj x.blocks k)with
 | none =>
  rw[List.findIdx?_eq_none_iff]at h;refine .inl ⟨rfl,fun x hx he=>?_⟩;have:=h x hx;rw[decide_eq_true he,Bool.true_and]at this;simpa using this
 | some i =>
  rw[List.findIdx?_eq_some_iff_getElem]at h;obtain⟨hi,h1,_⟩:=h;simp only[Bool.and_eq_true,decide_eq_true_eq,Bool.not_eq_true']at h1;exact .inr ⟨i,ns[i],List.getElem?_eq_getElem hi,rfl,h1.1,h1.2⟩
theorem vc(f:Func):∀(l:List bd) (n:Int) (i:Nat),(jQ f n l)[i]?=(l[i]?).map fun x=>sl x.head (cy (n+fW f (l.take i)) (sm f x))
 | [],n,i=>by simp[jQ]
 | x::r,n,0=>by simp[jQ,fW]
 | x::r,n,i+1=>by
  have e:n+(sm f x:Int)+(fW f (r.take i):Int)=n+((sm f x+fW f (r.take i):Nat):Int):=by omega
  rw[jQ,List.getElem?_cons_succ,List.getElem?_cons_succ,vc f r,List.take_succ_cons,fW,e]
section
variable {f:Func}
theorem om:(xT f).1.news=jQ f (c5 f) (bE f):=(Bx f).news
theorem gA:(cN f).blocks.length=f.blocks.length+(bE f).length:=by
 unfold cN;rw[List.length_append,List.length_zipWith,(Bx f).len,om,oZ];omega
theorem tV{k:Nat}{c:Block}(hk:k<f.blocks.length):(cN f).blocks[k]?=some c↔∃b,f.blocks[k]?=some b∧c=fS b (b.term.to.map (kd f.blocks.length (bE f) (k:Int))):=by
 have hw:=(Bx f).len;have e:(cN f).blocks[k]?=(List.zipWith fS f.blocks (xT f).1.fj)[k]?:=List.getElem?_append_left (by rw[List.length_zipWith];omega);have h1:f.blocks[k]?=some f.blocks[k]:=List.getElem?_eq_getElem hk;have h2:=(Bx f).fj k _ h1;rw[e,List.getElem?_zipWith,h1,h2];constructor
 ·intro h;simp only[Option.some.injEq]at h;exact⟨_,rfl,h.symm⟩
 rintro⟨b,q1,q2⟩;simp only[Option.some.injEq]at q1;rw[q1,q2]
theorem zh(i:Nat):(cN f).blocks[f.blocks.length+i]?=((bE f)[i]?).map fun x=>sl x.head (cy (c5 f+fW f ((bE f).take i)) (sm f x)):=by
 have hl:(List.zipWith fS f.blocks (xT f).1.fj).length=f.blocks.length:=by
  rw[List.length_zipWith,(Bx f).len];omega
 have e:(cN f).blocks[f.blocks.length+i]?=(xT f).1.news[f.blocks.length+i-(List.zipWith fS f.blocks (xT f).1.fj).length]?:=List.getElem?_append_right (by omega);rw[e,hl,Nat.add_sub_cancel_left,om,vc]
theorem jS{k:Nat}{c:Block}(h:(cN f).blocks[k]?=some c):(∃b,k<f.blocks.length∧f.blocks[k]?=some b∧c=fS b (b.term.to.map (kd f.blocks.length (bE f) (k:Int))))∨∃(i:Nat) (x:bd),k=f.blocks.length+i∧(bE f)[i]?=some x∧c=sl x.head (cy (c5 f+fW f ((bE f).take i)) (sm f x)):=by
 by_cases hk:k<f.blocks.length
 ·obtain⟨b,h1,h2⟩:=(tV hk).1 h;exact .inl ⟨b,hk,h1,h2⟩
 obtain⟨i,hi⟩:∃i,k=f.blocks.length+i:=⟨k-f.blocks.length,by omega⟩
 rw[hi,zh]at h;cases hx:(bE f)[i]? with
 | none=>rw[hx]at h;cases h
 | some x =>
  rw[hx]at h;simp only[Option.map_some,Option.some.injEq]at h;exact .inr ⟨i,x,hi,hx,h.symm⟩
theorem JI{x:bd}(h:x∈bE f):x∈gk f∧iQ f x=false:=by
 unfold bE at h;rw[List.mem_filter]at h;exact⟨h.1,by simpa using h.2⟩
end
end Go.Proofs.YtjdnhamngpafmaaGreat
namespace Go.Proofs.YtjdnhamngpafmaaGreat
open Go.Av
def UI(f:Func)(i j:Nat):Prop:=(j<f.blocks.length∧i<f.blocks.length∧(pC f j).has i=true)∨∃(n:Nat) (x:bd),j=f.blocks.length+n∧(bE f)[n]?=some x∧(i=j∨(i<f.blocks.length∧i≠x.head.toNat∧(pC f x.head.toNat).has i=true))
def Vi(f:Func)(j:Nat):Prop:=(j<f.blocks.length∧mv f j=true)∨∃(n:Nat) (x:bd),j=f.blocks.length+n∧(bE f)[n]?=some x∧mv f x.head.toNat=true
section
variable {f:Func}
theorem jl{n:Nat}{x:bd}(h:(bE f)[n]?=some x):vS f x:=y0 (JI (List.mem_of_getElem? h)).1
theorem Uw(hg:fv f)(hd:LA f)(hm:f.blocks.length+(bE f).length<=128):RD (cN f) (UI f) (Vi f) where
 few:=by rw[gA];exact hm
 ee:=fun c hc e he=>by
  obtain⟨k,hk⟩:=List.mem_iff_getElem?.1 hc;rw[gA];rcases jS hk with⟨b,h1,h2,h3⟩|⟨i,x,h1,h2,h3⟩
  ·rw[h3]at he;obtain⟨e0,q1,q2⟩:=List.mem_map.1 (show e∈b.term.to.map (kd f.blocks.length (bE f) (k:Int)) from he);rcases iq f.blocks.length (bE f) (k:Int) e0 with⟨r1,_⟩|⟨i,x,r1,r2,_⟩
   ·have:=hg.ee b (List.mem_of_getElem? h2) e0 q1;rw[<-q2,r1];omega
   have:=I r1;rw[<-q2,r2];simp only;omega
  rw[h3]at he;have hex:e.block=x.head:=by
   have:e=⟨x.head,cy (c5 f+fW f ((bE f).take i)) (sm f x)⟩:=by simpa[sl]using he
   rw[this]
  have:=(jl h2).rC;rw[hex];omega
 next:=fun k c hk hR e he=>by
  have hn:=hg.few;rcases jS hk with⟨b,h1,h2,h3⟩|⟨i,x,h1,h2,h3⟩
  ·rw[h3]at he;obtain⟨e0,q1,q2⟩:=List.mem_map.1 (show e∈b.term.to.map (kd f.blocks.length (bE f) (k:Int)) from he);have hs:mv f k=true:=by
    rcases hR with q|⟨_,_,q,_⟩
    ·exact q.2
    omega
   have hr:=hg.ee b (List.mem_of_getElem? h2) e0 q1;obtain⟨s1,s2⟩:=hd.step k b h2 hs e0 q1;rcases iq f.blocks.length (bE f) (k:Int) e0 with⟨r1,_⟩|⟨i,x,r1,r2,r3,_⟩
   ·rw[<-q2,r1];refine⟨.inl ⟨by omega,s1⟩,fun z hz=>?_⟩;rcases hz with⟨z1,z2,z3⟩|⟨n,_,z1,_⟩
    ·rcases s2 z (by omega) z3 with r|r
     ·exact .inl r
     exact .inr (.inl ⟨h1,z2,r⟩)
    omega
   have V2:e.block.toNat=f.blocks.length+i:=by
    rw[<-q2,r2];simp only;omega
   rw[V2];refine⟨.inr ⟨i,x,rfl,r1,by rw[<-r3];exact s1⟩,fun z hz=>?_⟩;rcases hz with⟨z1,_⟩|⟨n,y,z1,z2,z3⟩
   ·omega
   have Wu:n=i:=by omega
   subst Wu;rw[r1]at z2;obtain rfl:=Option.some.inj z2;rcases z3 with z3|⟨z3,z4,z5⟩
   ·exact .inl z3
   rw[<-r3]at z4 z5;exact .inr (.inl ⟨h1,z3,(s2 z (by omega) z5).resolve_left z4⟩)
  rw[h3]at he;have hex:e.block=x.head:=by
   have:e=⟨x.head,cy (c5 f+fW f ((bE f).take i)) (sm f x)⟩:=by simpa[sl]using he
   rw[this]
  have Lo:=(jl h2).rC;rw[hex];have hs:mv f x.head.toNat=true:=by
   rcases hR with q|⟨n,y,q1,q2,q3⟩
   ·omega
   have Wu:n=i:=by omega
   subst Wu;rw[h2]at q2;obtain rfl:=Option.some.inj q2;exact q3
  refine⟨.inl ⟨by omega,hs⟩,fun z hz=>?_⟩;rcases hz with⟨z1,z2,z3⟩|⟨n,_,z1,_⟩
  ·by_cases q:z=x.head.toNat
   ·exact .inl q
   exact .inr (.inr ⟨i,x,h1,h2,.inr ⟨z2,q,z3⟩⟩)
  omega
theorem J4(hg:fv f)(hd:LA f):∀i,UI f i 0->i=0:=fun i h=>by
 have hl:=List.length_pos_iff.2 hg.ne;have hn:=hg.few;rcases h with⟨_,h2,h3⟩|⟨n,_,h1,_⟩
 ·exact(hd.zero i (by omega)).1 h3
 omega
theorem QZ:∀i j,UI f i j->i<(cN f).blocks.length:=fun i j h=>by
 rw[gA];rcases h with⟨_,h2,_⟩|⟨n,_,h1,h2,h3|⟨h3,_⟩⟩
 ·omega
 ·have:=I h2;omega
 omega
theorem DV(hg:fv f):(cN f).blocks≠[]:=fun q=>by
 have hl:=List.length_pos_iff.2 hg.ne;have:=congrArg List.length q;rw[gA]at this;simp only[List.length_nil]at this;omega
theorem LU{v:Int}{p:Int×Int}(h:w6 f v p):w6 (cN f) v p:=by
 obtain⟨k,b,h1,h2,h3⟩:=h;have hk:=I h1;exact⟨k,fS b _,(tV hk).2 ⟨b,h1,rfl⟩,h2,h3⟩
theorem jv:∀(l:List Int) (x:Int),x<=l.foldl eR x∧∀v∈l,v<l.foldl eR x
 | [],x=>⟨Int.le_refl _,fun v h=>by cases h⟩
 | a::r,x=>by
  obtain⟨h1,h2⟩:=jv r (eR x a);have h3:x<=eR x a∧a<eR x a:=by
   unfold eR;omega
  rw[List.foldl_cons];refine⟨by omega,fun v hv=>?_⟩;rcases List.mem_cons.1 hv with rfl|q
  ·omega
  exact h2 v q
theorem xt{v:Int}(h:v∈iu f):v<c5 f:=(jv (iu f) 0).2 v h
end
end Go.Proofs.YtjdnhamngpafmaaGreat
namespace Go.Proofs.YtjdnhamngpafmaaGreat
open Go.Av
theorem nQ{n v:Int}{k:Nat}:v∈cy n k↔n<=v∧v<n+k:=by
 unfold cy;rw[List.mem_map];constructor
 ·rintro⟨i,h1,rfl⟩;rw[List.mem_range]at h1;omega
 intro h;exact⟨(v-n).toNat,by rw[List.mem_range];omega,by omega⟩
theorem EJ(n:Int)(a b:Nat):cy n (a+b)=cy n a++cy (n+a) b:=by
 unfold cy;rw[List.range_add,List.map_append,List.map_map];congr 1;apply List.map_congr_left;intro i _;simp only[Function.comp];omega
theorem xr(n:Int):∀k:Nat,(cy n k).Nodup
 | 0=>List.nodup_nil
 | k+1=>by
  rw[EJ,List.nodup_append];refine⟨xr n k,by simp[cy],fun a ha b hb=>?_⟩;rw[nQ]at ha hb;omega
theorem uR(n:Int)(k:Nat):(cy n k).length=k:=by unfold cy;rw[List.length_map,List.length_range]
theorem ve(f:Func):∀(l:List bd) (n:Int),(jQ f n l).flatMap dL=cy n (fW f l)
 | [],n=>by simp[jQ,fW,cy]
 | x::r,n=>by
  rw[jQ,List.flatMap_cons,ve f r,fW,EJ];simp[dL,sl]
section
variable {f:Func}
theorem vr:iu (cN f)=iu f++cy (c5 f) (fW f (bE f)):=by
 unfold iu cN;rw[List.flatMap_append,B0 _ _ (Bx f).len,om,ve]
theorem A0(hv:Ld f){x:bd}(h:vS f x):1<=x.head:=by
 obtain⟨s,hs,_,e,he,q⟩:=h.back hv.fn.gr;have hr:=h.blk hv.fn.gr hs;have:=hv.ee _ (dY hr.1 hr.2) e he;omega
theorem G4(bJ:f.fit)(hc:aN f=0)(hm:f.blocks.length+(bE f).length<=128)(hq:c5 f+fW f (bE f)<=4096):aN (cN f)=0:=by
 have hv:=ig bJ hc;have hf:=hv.fn;have hg:=hf.gr;have hd:=hv.PK;have hl:=List.length_pos_iff.2 hg.ne;have hC:=Uw hg hd hm;have Mh:Vi f 0:=.inl ⟨hl,hd.seen⟩;have hz:=J4 hg hd;have a8:=QZ (f:=f);have cv:∀{i j:Nat},j<(cN f).blocks.length->UI f i j->(pC (cN f) j).has i=true:=fun hj h=>LW (DV hg) hC Mh hz a8 hj h;have nU:∀{j:Nat},j<128->mv (cN f) j=true->Vi f j:=fun hj h=>Iw (DV hg) hC Mh hz a8 hj h;have hold:∀{k:Nat} {n v:Int},k<f.blocks.length->Cf f k n v->Cf (cN f) k n v:=fun {k n v} hk h=>by
  obtain⟨p,h1,h2⟩:=h;have hp:=h1.range;refine⟨p,LU h1,fun hs=>?_⟩;have WR:mv f k=true:=by
   rcases nU (by omega) hs with q|⟨_,_,q,_⟩
   ·exact q.2
   omega
  rcases h2 WR with q|⟨q1,q2⟩
  ·exact .inl q
  exact .inr ⟨q1,cv (by rw[gA];omega) (.inl ⟨hk,by omega,q2⟩)⟩
 have Ue:mw (cN f).blocks=mw f.blocks:=by
  have h1:mw (cN f).blocks=mw (List.zipWith fS f.blocks (xT f).1.fj)+mw (xT f).1.news:=by
   unfold mw cN;rw[List.map_append,List.sum_append]
  have h2:mw (xT f).1.news=0:=by
   refine BS _ fun c Mo=>?_;obtain⟨i,hi⟩:=List.mem_iff_getElem?.1 Mo;rw[om,vc]at hi;cases hx:(bE f)[i]? with
   | none=>rw[hx]at hi;cases hi
   | some x =>
    rw[hx]at hi;simp only[Option.map_some,Option.some.injEq]at hi;rw[<-hi];rfl
  rw[h1,h2,FG _ _ (Bx f).len];rfl
 have nu:∀{k:Int},0<=k->k<f.blocks.length->(aY (cN f) k).params=(aY f k).params:=fun {k} h0 h1=>by
  have hb:=uk h0 h1;have:=(tV (f:=f) (k:=k.toNat) (by omega)).2 ⟨_,hb,rfl⟩;have e:aY (cN f) k=fS (aY f k) ((aY f k).term.to.map (kd f.blocks.length (bE f) (k.toNat:Int))):=by
   show(cN f).blocks[k.toNat]?.getD default=_;rw[this];rfl
  rw[e];rfl
 have Gv:∀(i:Nat) x,(bE f)[i]?=some x->(aY (cN f) ((f.blocks.length+i:Nat):Int)).params.length=(aY f x.head).params.length:=fun i x hi=>by
  have e:aY (cN f) ((f.blocks.length+i:Nat):Int)=sl x.head (cy (c5 f+fW f ((bE f).take i)) (sm f x)):=by
   unfold aY;rw[Int.toNat_natCast,zh,hi];rfl
  rw[e];exact uR _ _
 have UY:0<=c5 f:=(jv (iu f) 0).1;have Jr:∀v∈iu (cN f),0<=v∧v<=4095:=fun v Un=>by
  rw[vr,List.mem_append,nQ]at Un;rcases Un with q|q
  ·exact hv.vals v q
  omega
 refine Ay (DV hg) (by rw[gA];exact hm) hf.name (fun c Mo=>?_) (by rw[Ue];exact No bJ hc) (by rw[nu (by omega) (by omega)];exact hf.args) Jr ?_ (fun c Mo=>?_) ?_
 ·obtain⟨k,hk⟩:=List.mem_iff_getElem?.1 Mo;rcases jS hk with⟨b,_,h2,h4⟩|⟨i,x,_,_,h3⟩
  ·rw[h4];exact hf.ins b (List.mem_of_getElem? h2)
  rw[h3];simp[sl]
 ·rw[vr,List.nodup_append];refine⟨hv.nodup,xr _ _,fun a ha b hb=>?_⟩;have:=xt ha;rw[nQ]at hb;omega
 ·obtain⟨k,hk⟩:=List.mem_iff_getElem?.1 Mo;rcases jS hk with⟨b,h1,h2,h4⟩|⟨i,x,h1,h2,h3⟩
  ·have S5:=hf.blk b (List.mem_of_getElem? h2);obtain⟨m1,m2,m3,m4⟩:=mL S5.fin;rw[h4];refine⟨S5.EI,xo ?_ m2 m3 (F5 (f:=f) (t:=b.term) S5.fin) fun e he=>?_⟩
   ·rw[D8 (t:=(fS b (b.term.to.map (kd f.blocks.length (bE f) (k:Int)))).term) (t':=b.term) rfl rfl rfl rfl (by simp[fS])];exact m1
   rw[gA];obtain⟨e0,q1,q2⟩:=List.mem_map.1 (show e∈b.term.to.map (kd f.blocks.length (bE f) (k:Int)) from he);obtain⟨e1,e2⟩:=m4 e0 q1;rcases iq f.blocks.length (bE f) (k:Int) e0 with⟨r1,_⟩|⟨i,x,r1,r2,r3,_⟩
   ·rw[<-q2,r1];exact⟨by omega,by rw[nu (by omega) (by omega)];exact e2⟩
   have hi:=I r1;rw[<-q2,r2];refine⟨by simp only;omega,?_⟩;simp only;rw[Gv i x r1,e2,r3]
  have Lo:=(jl h2).rC;have hp:=A0 hv (jl h2);rw[h3];refine⟨fun i hi=>(by cases hi),xo (by simp[sl,eg,eZ,rP]) (by simp[sl]) (by simp[sl]) rfl fun e he=>?_⟩;have hex:e=⟨x.head,cy (c5 f+fW f ((bE f).take i)) (sm f x)⟩:=by simpa[sl]using he
  rw[hex,gA];refine⟨by simp only;omega,?_⟩;simp only;rw[nu (by omega) (by omega),uR];rfl
 refine⟨fun k c hk n i hi a ha=>?_,fun k c hk h1 h4=>?_,fun k c hk e he a ha=>?_⟩
 ·rcases jS hk with⟨b,h1,h2,h4⟩|⟨i0,x,_,_,h3⟩
  ·rw[h4]at hi;exact hold h1 (hv.K2.ins k b h2 n i hi a ha)
  rw[h3]at hi;simp[sl]at hi
 ·rcases jS hk with⟨b,q1,q2,q4⟩|⟨i0,x,_,_,q3⟩
  ·rw[q4]at h1 h4 ⊢;exact hold q1 (hv.K2.arg k b q2 h1 h4)
  rw[q3]at h1;exact absurd rfl h1
 rcases jS hk with⟨b,q1,q2,q4⟩|⟨i0,x,q1,q2,q3⟩
 ·rw[q4]at he ⊢;obtain⟨e0,r1,r2⟩:=List.mem_map.1 (show e∈b.term.to.map (kd f.blocks.length (bE f) (k:Int)) from he);have V1:e.args=e0.args:=by
   rcases iq f.blocks.length (bE f) (k:Int) e0 with⟨s1,_⟩|⟨i,x,s1,s2,_⟩
   ·rw[<-r2,s1]
   rw[<-r2,s2]
  rw[V1]at ha;exact hold q1 (hv.K2.args k b q2 e0 r1 a ha)
 rw[q3]at he ⊢;have hex:e=⟨x.head,cy (c5 f+fW f ((bE f).take i0)) (sm f x)⟩:=by simpa[sl]using he
 rw[hex]at ha;exact⟨((k:Int),0),⟨k,c,hk,rfl,.inl ⟨rfl,by rw[q3];exact ha⟩⟩,fun _=>.inl ⟨rfl,Int.le_refl _⟩⟩
end
end Go.Proofs.YtjdnhamngpafmaaGreat
namespace Go.Proofs.YtjdnhamngpafmaaGreat
open Go.Av
inductive tc(f:Func)(a:Int):Int->Prop
 | start (h:a≠0):tc f a 0
 | step {p k:Int} (h:tc f a p) (e:qz f p k) (bD:a≠k):tc f a k
theorem tc.rn{f:Func}(hw:gg f){a k:Int}(h:tc f a k):0<=cP f k:=by
 induction h with
 | start _=>rw[hw.zero];omega
 | step _ e _ ih=>exact hw.next _ _ ih e
def Ch(f:Func)(O:List Int):Prop:=∀x,0<=dP O x->∀a,¬tc f a x->a≠x->¬tc f a (dP O x)
theorem Bw{f:Func}(hw:gg f){O:List Int}(h:Tr f O)(hp:Ch f O){a:Int}:∀(n:Nat) (x:Int),j4 O x->cP f x<n->¬tc f a x->gB O a x
 | 0,x,hx,hn,_=>by
  have:=h.v7 hw hx;omega
 | n+1,x,hx,hn,ha=>by
  by_cases e:a=x
  ·rw[e];exact .refl
  rcases hx with q|q
  ·rw[q]at ha e;exact absurd (tc.start e) ha
  obtain⟨u1,u2,u3⟩:=h.up x q;exact .up q (Bw hw h hp n _ u3 (by omega) (hp x q a ha e))
theorem DT{f:Func}(hw:gg f){O:List Int}(h:Tr f O)(hp:Ch f O){a x:Int}(hx:j4 O x)(ha:¬tc f a x):gB O a x:=Bw hw h hp 300 x hx (by
 have h1:=(hw.low x).2;have h2:=hw.few;omega) ha
theorem QY{f:Func}(hw:gg f){O:List Int}(h:Tr f O)(hp:Ch f O){a m x:Int}(hx:j4 O x)(ha:¬tc f a x)(hm:gB O m x)(Zz:gB O a m):¬tc f a m:=by
 induction hm with
 | refl=>exact ha
 | @up x hu hm ih =>
  obtain⟨u1,u2,u3⟩:=h.up x hu;by_cases e:a=x
  ·have h1:=hm.pl hw h u3;have h2:=(Zz.pl hw h h1.2.2.1).1;rw[e]at h2;omega
  exact ih u3 (hp x hu a ha e)
theorem Fl{f:Func}(hw:gg f){O:List Int}(h:Tr f O)(hp:Ch f O){a:Int}:∀(ps:List Int) (acc:Int),(∀p∈ps,0<=p∧p<f.blocks.length)->(∀p∈ps,¬tc f a p)->(acc=-1∨(j4 O acc∧¬tc f a acc)) ->
  ps.foldl (cU (gm f) O) acc=-1∨(j4 O (ps.foldl (cU (gm f) O) acc)∧¬tc f a (ps.foldl (cU (gm f) O) acc))
 | [],acc,_,_,r6=>r6
 | p::r,acc,mO,qv,r6=>by
  rw[List.foldl_cons];refine Fl hw h hp r _ (fun q hq=>mO q (List.mem_cons_of_mem _ hq)) (fun q hq=>qv q (List.mem_cons_of_mem _ hq)) ?_;have kc:=mO p List.mem_cons_self;unfold cU;by_cases ha:j4 O p
  ·rw[if_neg fun q=>(oo hw h kc).1 q ha];split
   ·exact .inr ⟨ha,qv p List.mem_cons_self⟩
   rename_i hn;obtain⟨q1,q2⟩:=r6.resolve_left (by omega);obtain⟨m1,m2,m3⟩:=Bj hw h q1 ha;have h1:=DT hw h hp q1 q2;have h2:=DT hw h hp ha (qv p List.mem_cons_self);exact .inr ⟨(m1.pl hw h q1).2.2.1,QY hw h hp q1 q2 m1 (m3 a h1 h2)⟩
  rw[if_pos ((oo hw h kc).2 ha)];exact r6
theorem MU{f:Func}(hg:fv f)(hw:gg f){i:Int}{O:List Int}(h:kX f i O)(hp:Ch f O){z:Int}(hz:cP f z=i)(h1:1<=i):Ch f (O.set z.toNat (il (gm f) O (bB f z))):=by
 have xH:=hw.range z (by omega);have Xb:1<=z:=by
  refine Classical.byContradiction fun q=>?_;have:z=0:=by omega
  rw[this,hw.zero]at hz;omega
 have EU:=(xj hg hw h hz h1).1;intro x hx a ha bD;rw[Et Xb (by rw[h.tr.len];omega)]at hx ⊢;split
 ·rename_i e;subst e;have:=Fl hw h.tr hp (a:=a) (bB f x) (-1) (fun p q=>(kz hg xH.1 q).1) (fun p q r=>ha (.step r (kz hg xH.1 q).2 bD)) (.inl rfl);exact(this.resolve_left fun q=>by
   have:il (gm f) O (bB f x)=-1:=q;omega).2
 rename_i e;rw[if_neg e]at hx;exact hp x hx a ha bD
theorem G2{f:Func}(hg:fv f)(hw:gg f){i:Int}{S:Dm}(h:kX f i S.over)(hp:Ch f S.over){z:Int}(hz:cP f z=i)(h1:1<=i):Ch f (eG f S z).over:=by
 unfold eG;split
 ·exact MU hg hw h hp hz h1
 exact hp
theorem JZ{f:Func}(hg:fv f)(hw:gg f):∀(l:List Int) (i:Nat) {S:Dm},1<=i->(∀(j:Nat) z,l[j]?=some z->cP f z=i+j)->kX f i S.over->Ch f S.over->Ch f (l.foldl (eG f) S).over
 | [],_,_,_,_,_,hp=>hp
 | z::r,i,S,h1,hl,h,hp=>by
  have hz:=hl 0 z rfl;have YG:cP f z=i:=by rw[hz];omega
  have a1:=(rY hg hw h YG (by omega)).1;have RH:kX f ((i+1:Nat):Int) (eG f S z).over:=by
   rw[show((i+1:Nat):Int)=(i:Int)+1 by omega];exact a1
  rw[List.foldl_cons];exact JZ hg hw r (i+1) (by omega) (fun j y hj=>by
   rw[hl (j+1) y hj];omega) RH (G2 hg hw h hp YG (by omega))
theorem QX{f:Func}(hg:fv f)(hw:gg f){S:Dm}(h:kX f 1 S.over)(hp:Ch f S.over):Ch f (HA f S).over :=
 JZ hg hw ((bx f).drop 1) 1 (by omega) (fun j z hj=>by
  rw[List.getElem?_drop]at hj;rw[hw.at_ _ _ hj];omega) h hp
theorem J0{f:Func}(hg:fv f)(hw:gg f):∀(n:Nat) {S:Dm},kX f 1 S.over->Ch f S.over->Ch f (EA f n S).over
 | 0,_,_,hp=>hp
 | n+1,S,h,hp=>by
  simp only[EA];split
  ·exact J0 hg hw n (pR hw (CQ hg hw (S:=⟨S.over,false⟩) h).1) (QX hg hw (S:=⟨S.over,false⟩) h hp)
  exact hp
theorem Oi{f:Func}(hg:fv f):Ch f (dn f):=by
 have hw:=cE hg;refine J0 hg hw 30000 (CS hw) fun x hx=>?_;have qq:dP (CR f).over x=-1:=by
  unfold dP CR;simp only;rw[List.getElem?_replicate];split<;>rfl
 rw[qq]at hx;omega
theorem oI{f:Func}(hg:fv f){a k:Int}(hk:0<=cP f k):gB (dn f) a k↔¬tc f a k:=by
 have hw:=cE hg;have ht:=kg hg;constructor
 ·intro h q;induction q with
  | start bD =>
   cases h with
   | refl=>exact bD rfl
   | up h _=>rw[ht.tr.root]at h;omega
  | @step p k q e bD ih =>
   have hp:=q.rn hw;have kc:=hw.range p hp;have qu:=hw.range k hk;have h1:1<=cP f k:=by
    obtain⟨x,hx,xG⟩:=e;have:=(hg.ee _ (List.mem_of_getElem? (show f.blocks[p.toNat]?=some (aY f p) by
     unfold aY;rw[List.getElem?_eq_getElem (by omega)];rfl)) x hx).1
    refine Classical.byContradiction fun r=>?_;have:=hw.inj k 0 hk (by rw[hw.zero];omega);omega
   exact ih hp (uc hg h1 (rZ kc qu e) hp h bD)
 exact DT hw ht.tr (Oi hg) (ht.v8 hw hk)
end Go.Proofs.YtjdnhamngpafmaaGreat
namespace Go.Proofs.YtjdnhamngpafmaaGreat
open Go.Av
section
variable {f:Func}
theorem l8(hg:fv f){p k:Int}(h0:0<=p)(h1:p<f.blocks.length)(h:qz f p k):0<=k∧k<f.blocks.length:=by
 obtain⟨x,hx,e⟩:=h;have:=hg.ee _ (List.mem_of_getElem? (uk h0 h1)) x hx;omega
theorem BC(hg:fv f):∀(n:Nat) (k:Int),0<=cP f k->cP f k<n->tc f (-1) k
 | 0,k,h,hn=>by omega
 | n+1,k,h,hn=>by
  have hw:=cE hg;by_cases h0:cP f k=0
  ·have hk:k=0:=hw.inj k 0 h (by rw[hw.zero,h0]);rw[hk];exact .start (by omega)
  obtain⟨p,he,B6,Qs⟩:=hw.fwd k (by omega);have qu:=hw.range k h;exact .step (BC hg n p B6 (by omega)) he (by omega)
theorem Fp(hg:fv f){k:Int}:0<=cP f k↔tc f (-1) k:=by
 have hw:=cE hg;refine⟨fun h=>BC hg 300 k h ?_,fun h=>h.rn hw⟩;have h1:=(hw.low k).2;have h2:=hw.few;omega
end
end Go.Proofs.YtjdnhamngpafmaaGreat
namespace Go.Proofs.YtjdnhamngpafmaaGreat
open Go.Av
section
variable {f:Func}
theorem DU{k:Int}(h0:0<=k)(h1:k<f.blocks.length):eA (cN f) k=(eA f k).map (kd f.blocks.length (bE f) k):=by
 have hb:=uk h0 h1;have hc:=(tV (f:=f) (k:=k.toNat) (by omega)).2 ⟨_,hb,rfl⟩;rw[Int.toNat_of_nonneg h0]at hc;show((cN f).blocks[k.toNat]?.getD default).term.to=_;rw[hc];rfl
theorem J2{i:Nat}{x:bd}(h:(bE f)[i]?=some x):eA (cN f) ((f.blocks.length+i:Nat):Int)=[⟨x.head,cy (c5 f+fW f ((bE f).take i)) (sm f x)⟩]:=by
 show((cN f).blocks[((f.blocks.length+i:Nat):Int).toNat]?.getD default).term.to=_;rw[Int.toNat_natCast,zh,h];rfl
theorem zb{p k:Int}(h0:0<=p)(h1:p<f.blocks.length)(h:qz f p k):qz (cN f) p k∨∃(i:Nat) (x:bd),(bE f)[i]?=some x∧k=x.head∧gj x.blocks p=false∧qz (cN f) p ((f.blocks.length+i:Nat):Int)∧qz (cN f) ((f.blocks.length+i:Nat):Int) k:=by
 obtain⟨y,hy,e⟩:=h;have hm:kd f.blocks.length (bE f) p y∈eA (cN f) p:=by
  rw[DU h0 h1];exact List.mem_map.2 ⟨y,hy,rfl⟩
 rcases iq f.blocks.length (bE f) p y with⟨q,_⟩|⟨i,x,q1,q2,q3,q4⟩
 ·rw[q]at hm;exact .inl ⟨y,hm,e⟩
 rw[q2]at hm;refine .inr ⟨i,x,q1,by rw[<-e,q3],q4,⟨_,hm,rfl⟩,⟨_,by rw[J2 q1];exact List.mem_singleton.2 rfl,?_⟩⟩;rw[<-e,q3]
theorem yE{p j:Int}(h0:0<=p)(h1:p<f.blocks.length)(h:qz (cN f) p j):(qz f p j∧∀x∈bE f,j=x.head->gj x.blocks p=true)∨∃(i:Nat) (x:bd),j=((f.blocks.length+i:Nat):Int)∧(bE f)[i]?=some x∧qz f p x.head∧gj x.blocks p=false:=by
 obtain⟨y,hy,e⟩:=h;rw[DU h0 h1]at hy;obtain⟨z,hz,rfl⟩:=List.mem_map.1 hy;rcases iq f.blocks.length (bE f) p z with⟨q,q'⟩|⟨i,x,q1,q2,q3,q4⟩
 ·rw[q]at e;exact .inl ⟨⟨z,hz,e⟩,fun x hx hj=>q' x hx (by rw[e,hj])⟩
 rw[q2]at e;exact .inr ⟨i,x,e.symm,q1,⟨z,hz,q3⟩,q4⟩
theorem tL{i:Nat}{x:bd}{j:Int}(h:(bE f)[i]?=some x)(he:qz (cN f) ((f.blocks.length+i:Nat):Int) j):j=x.head:=by
 obtain⟨y,hy,e⟩:=he;rw[J2 h,List.mem_singleton]at hy;rw[<-e,hy]
theorem Ah(hg:fv f)(xF:gg (cN f)){a:Int}{j:Int}(h:tc (cN f) a j):(j<f.blocks.length->tc f a j)∧∀(i:Nat) (x:bd),j=((f.blocks.length+i:Nat):Int)->(bE f)[i]?=some x->∃p,tc f a p∧qz f p x.head∧gj x.blocks p=false:=by
 have hw:=cE hg;have hl:=List.length_pos_iff.2 hg.ne;induction h with
 | start bD=>exact⟨fun _=>.start bD,fun i x e=>by omega⟩
 | @step p k h e bD ih =>
  have kc:=xF.range p (h.rn xF);rw[gA]at kc;by_cases hp:p<f.blocks.length
  ·have Ml:=ih.1 hp;rcases yE kc.1 hp e with⟨q,_⟩|⟨i,x,q1,q2,q3,q4⟩
   ·have hr:=l8 hg kc.1 hp q;exact⟨fun _=>.step Ml q bD,fun i x e=>by omega⟩
   refine⟨fun _=>by omega,fun i' x' e' h'=>?_⟩;have:i'=i:=by omega
   subst this;rw[q2]at h';obtain rfl:=Option.some.inj h';exact⟨p,Ml,q3,q4⟩
  obtain⟨i,hi⟩:∃i:Nat,p=((f.blocks.length+i:Nat):Int):=⟨p.toNat-f.blocks.length,by omega⟩
  obtain⟨x,hx⟩:∃x,(bE f)[i]?=some x:=⟨_,List.getElem?_eq_getElem (by omega)⟩
  rw[hi]at e;have hk:=tL hx e;obtain⟨p',q1,q2,_⟩:=ih.2 i x hi hx;have z8:=hw.range p' (q1.rn hw);have hr:=l8 hg z8.1 z8.2 q2;rw[hk]at bD ⊢;exact⟨fun _=>.step q1 q2 bD,fun i x e=>by omega⟩
theorem Cp(hg:fv f)(xF:gg (cN f)){a k:Int}(ha:a<f.blocks.length)(hk:k<f.blocks.length):tc f a k↔tc (cN f) a k:=by
 have hw:=cE hg;constructor
 ·intro h;clear hk;induction h with
  | start bD=>exact .start bD
  | @step p k h e bD ih =>
   have kc:=hw.range p (h.rn hw);rcases zb kc.1 kc.2 e with q|⟨i,x,_,_,_,q1,q2⟩
   ·exact .step ih q bD
   exact .step (.step ih q1 (by omega)) q2 bD
 exact fun h=>(Ah hg xF h).1 hk
theorem qi(hg:fv f)(lY:fv (cN f)){k:Int}(hk:k<f.blocks.length):0<=cP f k↔0<=cP (cN f) k:=by
 rw[Fp hg,Fp lY,Cp hg (cE lY) (by omega) hk]
theorem HS(hg:fv f)(lY:fv (cN f)){a k:Int}(ha:a<f.blocks.length)(HD:0<=cP f k):gB (dn f) a k↔gB (dn (cN f)) a k:=by
 have hw:=cE hg;have hk:=(hw.range k HD).2;rw[oI hg HD,oI lY ((qi hg lY hk).1 HD),Cp hg (cE lY) ha hk]
end
end Go.Proofs.YtjdnhamngpafmaaGreat
namespace Go.Proofs.YtjdnhamngpafmaaGreat
open Go.Av
section
variable {f:Func}
theorem kP{g:Func}(hg:fv g){k h:Int}:k∈kr g h↔0<=cP g k∧qz g k h∧gB (dn g) h k:=by
 rw[jB];constructor
 ·rintro⟨h1,h2,h3⟩;exact⟨h1,h2,(iy (cE hg) (kg hg).tr ((kg hg).v8 (cE hg) h1)).1 h3⟩
 rintro⟨h1,h2,h3⟩;exact⟨h1,h2,(iy (cE hg) (kg hg).tr ((kg hg).v8 (cE hg) h1)).2 h3⟩
end
end Go.Proofs.YtjdnhamngpafmaaGreat
namespace Go.Proofs.YtjdnhamngpafmaaGreat
open Go.Av

theorem qX{l:List Int}{n:Int}:gj l n=true↔n∈l:=by
 unfold gj;rw[decide_eq_true_eq,List.findIdx_lt_length];simp
end Go.Proofs.YtjdnhamngpafmaaGreat
namespace Go.Proofs.YtjdnhamngpafmaaGreat
open Go.Av
section
variable {f:Func}
theorem JH{i j:Nat}{x y:bd}(hx:(bE f)[i]?=some x)(hy:(bE f)[j]?=some y)(h:x.head=y.head):i=j:=by
 have hp:(bE f).Pairwise (fun x y=>x.head<y.head):=(sb f).sublist List.filter_sublist;rw[List.pairwise_iff_getElem]at hp;have hi:=I hx;have hj:=I hy;rw[List.getElem?_eq_getElem hi]at hx;rw[List.getElem?_eq_getElem hj]at hy;have e1:=Option.some.inj hx;have e2:=Option.some.inj hy;rcases Nat.lt_trichotomy i j with q|q|q
 ·have:=hp i j hi hj q;rw[e1,e2]at this;omega
 ·exact q
 have:=hp j i hj hi q;rw[e1,e2]at this;omega
theorem J3{p:Int}{i:Nat}{x:bd}(h0:0<=p)(h1:p<f.blocks.length)(hx:(bE f)[i]?=some x)(he:qz f p x.head)(ho:gj x.blocks p=false):qz (cN f) p ((f.blocks.length+i:Nat):Int):=by
 obtain⟨y,hy,e⟩:=he;have hm:kd f.blocks.length (bE f) p y∈eA (cN f) p:=by
  rw[DU h0 h1];exact List.mem_map.2 ⟨y,hy,rfl⟩
 rcases iq f.blocks.length (bE f) p y with⟨_,q⟩|⟨i',x',q1,q2,q3,_⟩
 ·rw[q x (List.mem_of_getElem? hx) e]at ho;cases ho
 rw[q2]at hm;have:=JH hx q1 (by rw[<-e,q3]);subst this;exact⟨_,hm,rfl⟩
theorem EG(hv:Ld f){x:bd}(hx:vS f x):∃p,0<=cP f p∧qz f p x.head∧gj x.blocks p=false∧¬gB (dn f) x.head p:=by
 have hg:=hv.fn.gr;have hw:=cE hg;have ht:=kg hg;have hh:=hx.hr hg;have hp:=A0 hv hx;have h1:1<=cP f x.head:=by
  rcases Int.lt_or_eq_of_le hh with q|q
  ·omega
  have:=hw.inj x.head 0 hh (by rw[hw.zero,<-q]);omega
 obtain⟨p,q1,q2,q3⟩:=hw.fwd x.head h1;have U3:¬gB (dn f) x.head p:=fun q=>by
  have:=(gB.pl hw ht.tr (ht.v8 hw q2) q).1;omega
 refine⟨p,q2,q1,?_,U3⟩;cases h:gj x.blocks p with
 | false=>rfl
 | true=>exact absurd (hx.PK hg (qX.1 h)) U3
theorem Ff(hv:Ld f)(lY:fv (cN f)){i:Nat}{x:bd}(hx:(bE f)[i]?=some x):0<=cP (cN f) ((f.blocks.length+i:Nat):Int):=by
 have hg:=hv.fn.gr;have hw:=cE hg;obtain⟨p,q1,q2,q3,_⟩:=EG hv (jl hx);have hr:=hw.range p q1;exact(cE lY).next _ _ ((qi hg lY hr.2).1 q1) (J3 hr.1 hr.2 hx q2 q3)
theorem I3(hv:Ld f)(lY:fv (cN f)){i:Nat}{x:bd}(hx:(bE f)[i]?=some x):¬gB (dn (cN f)) x.head ((f.blocks.length+i:Nat):Int):=by
 have hg:=hv.fn.gr;have hw:=cE hg;obtain⟨p,q1,q2,q3,q4⟩:=EG hv (jl hx);have hr:=hw.range p q1;have Ju:=(jl hx).rC;rw[oI hg q1,Classical.not_not]at q4;rw[oI lY (Ff hv lY hx),Classical.not_not];exact .step ((Cp hg (cE lY) (by omega) hr.2).1 q4) (J3 hr.1 hr.2 hx q2 q3) (by omega)
theorem zH(hg:fv f){x:bd}(hx:vS f x){k:Int}(hk:k∈kr f x.head):gj x.blocks k=true:=qX.2 (hx.mem.2 ((va hg hx.rC).src k hk))
theorem LD{i:Nat}{x:bd}(hg:fv f)(hx:(bE f)[i]?=some x){k:Int}(h:tc f x.head k):tc (cN f) ((f.blocks.length+i:Nat):Int) k:=by
 have hw:=cE hg;have hl:=List.length_pos_iff.2 hg.ne;induction h with
 | start bD=>exact .start (by omega)
 | @step p k h e bD ih =>
  have kc:=hw.range p (h.rn hw);have qu:=l8 hg kc.1 kc.2 e;rcases zb kc.1 kc.2 e with q|⟨i',y,q1,q2,_,q3,q4⟩
  ·exact .step ih q (by omega)
  have Wa:i≠i':=fun e=>by
   subst e;rw[hx]at q1;obtain rfl:=Option.some.inj q1;exact bD q2.symm
  exact .step (.step ih q3 (by omega)) q4 (by omega)
theorem Nn(hv:Ld f)(lY:fv (cN f)){i:Nat}{x:bd}(hx:(bE f)[i]?=some x):kr (cN f) ((f.blocks.length+i:Nat):Int)=[]:=by
 have hg:=hv.fn.gr;have hw:=cE hg;have xF:=cE lY;rw[List.eq_nil_iff_forall_not_mem];intro k hk;obtain⟨h1,h2,h3⟩:=(kP lY).1 hk;have qu:=xF.range k h1;rw[gA]at qu;have R0:k<f.blocks.length:=by
  refine Classical.byContradiction fun q=>?_;obtain⟨j,hj⟩:∃j:Nat,k=((f.blocks.length+j:Nat):Int):=⟨k.toNat-f.blocks.length,by omega⟩
  obtain⟨y,hy⟩:∃y,(bE f)[j]?=some y:=⟨_,List.getElem?_eq_getElem (by omega)⟩
  rw[hj]at h2;have:=tL hy h2;have:=(jl hy).rC;omega
 have SH:=(qi hg lY R0).2 h1;rcases yE qu.1 R0 h2 with⟨q,_⟩|⟨j,y,q1,q2,q3,q4⟩
 ·have:=l8 hg qu.1 R0 q;omega
 have:j=i:=by omega
 subst this;rw[hx]at q2;obtain rfl:=Option.some.inj q2;have VL:gB (dn f) x.head k:=by
  rw[oI hg SH];intro h;exact(oI lY h1).1 h3 (LD hg hx h)
 rw[zH hg (jl hx) ((kP hg).2 ⟨SH,q3,VL⟩)]at q4;cases q4
theorem zI(hv:Ld f)(lY:fv (cN f)){h k:Int}(h0:0<=h)(hh:h<f.blocks.length):k∈kr (cN f) h↔k∈kr f h:=by
 have hg:=hv.fn.gr;have hw:=cE hg;have xF:=cE lY;constructor
 ·intro hk;obtain⟨h1,h2,h3⟩:=(kP lY).1 hk;have qu:=xF.range k h1;rw[gA]at qu;by_cases R0:k<f.blocks.length
  ·have SH:=(qi hg lY R0).2 h1;rcases yE qu.1 R0 h2 with⟨q,_⟩|⟨j,y,q1,_⟩
   ·exact(kP hg).2 ⟨SH,q,(HS hg lY hh SH).2 h3⟩
   omega
  obtain⟨j,hj⟩:∃j:Nat,k=((f.blocks.length+j:Nat):Int):=⟨k.toNat-f.blocks.length,by omega⟩
  obtain⟨y,hy⟩:∃y,(bE f)[j]?=some y:=⟨_,List.getElem?_eq_getElem (by omega)⟩
  rw[hj]at h2 h3;rw[tL hy h2]at h3;exact absurd h3 (I3 hv lY hy)
 intro hk;obtain⟨h1,h2,h3⟩:=(kP hg).1 hk;have qu:=hw.range k h1;have C8:=(qi hg lY qu.2).1 h1;have YW:=(HS hg lY hh h1).1 h3;rcases zb qu.1 qu.2 h2 with q|⟨i,x,q1,q2,q3,_⟩
 ·exact(kP lY).2 ⟨C8,q,YW⟩
 rw[q2]at hk;rw[zH hg (jl q1) hk]at q3;cases q3
end
end Go.Proofs.YtjdnhamngpafmaaGreat
namespace Go.Proofs.YtjdnhamngpafmaaGreat
open Go.Av
section
variable {f:Func}
end
end Go.Proofs.YtjdnhamngpafmaaGreat
namespace Go.Proofs.YtjdnhamngpafmaaGreat
open Go.Av
section
variable {f:Func}
end
end Go.Proofs.YtjdnhamngpafmaaGreat
namespace Go.Proofs.YtjdnhamngpafmaaGreat
open Go.Av
section
variable {f:Func}
theorem MW(bJ:f.fit)(hm:f.blocks.length+(bE f).length<=128)(hq:c5 f+fW f (bE f)<=4096):(cN f).fit:=by
 have UY:0<=c5 f:=(jv (iu f) 0).1;refine⟨bJ.1,by rw[gA];omega,fun c Mo=>?_⟩;obtain⟨k,hk⟩:=List.mem_iff_getElem?.1 Mo;rcases jS hk with⟨b,h1,h2,h4⟩|⟨i,x,h1,h2,h3⟩
 ·obtain⟨b1,b2,b3,b4,t1,t2,t3,t4,t5,t6,t7⟩:=bJ.2.2 _ (List.mem_of_getElem? h2);rw[h4];refine⟨b1,b2,b3,b4,t1,t2,t3,t4,t5,by show(b.term.to.map _).length<=_;rw[List.length_map];exact t6,fun e he=>?_⟩;obtain⟨e0,q1,q2⟩:=List.mem_map.1 (show e∈b.term.to.map (kd f.blocks.length (bE f) (k:Int)) from he);rcases iq f.blocks.length (bE f) (k:Int) e0 with⟨r1,_⟩|⟨i,x,r1,r2,_⟩
  ·rw[<-q2,r1];exact t7 e0 q1
  have:=I r1;obtain⟨u1,u2,u3⟩:=t7 e0 q1;rw[<-q2,r2];refine⟨?_,u2,u3⟩;unfold lK;simp only;omega
 have hx:=jl h2;obtain⟨b1,b2,b3,b4,t1,t2,t3,t4,t5,t6,t7⟩:=bJ.2.2 _ (dY hx.rC.1 hx.rC.2);have hlen:(cy (c5 f+fW f ((bE f).take i)) (sm f x)).length=(aY f x.head).params.length:=uR _ _;have hv:uO (cy (c5 f+fW f ((bE f).take i)) (sm f x)):=fun v hv=>by
  have Un:v∈iu (cN f):=List.mem_flatMap.2 ⟨c,Mo,by rw[h3];exact List.mem_append_left _ hv⟩;rw[nQ]at hv;rw[vr,List.mem_append,nQ]at Un;rcases Un with q|q
  ·have:=xt q;omega
  unfold lK;omega
 have Ju:=hx.rC;rw[h3];refine⟨hv,Nat.le_trans (Nat.le_of_eq hlen) b2,by simp[sl],fun v hv=>(by cases hv),by simp[sl,lK],by simp[sl,lK],by simp[sl,lK],fun v hv=>(by cases hv),by simp[sl],by simp[sl],fun e he=>?_⟩;have hex:e=⟨x.head,cy (c5 f+fW f ((bE f).take i)) (sm f x)⟩:=by simpa[sl]using he
 rw[hex];refine⟨?_,hv,Nat.le_trans (Nat.le_of_eq hlen) b2⟩;unfold lK;simp only;have:=bJ.2.1;omega
end
end Go.Proofs.YtjdnhamngpafmaaGreat
namespace Go.Proofs.YtjdnhamngpafmaaGreat
open Go.Av
def Dx:Go.Shelf.Ren:=⟨fun|25=>38|31=>64|32=>65|37=>93|n=>n,fun|0=>0|3=>3|4=>4|22=>41|40=>110|n=>n,fun n=>n⟩
theorem QS:Go.Proofs.Lays2.n25 Tryz.prog Dx:={
 mixed:=by kernel_rfl,
 f25:=Tryz.func38.trans (congrArg some (by kernel_rfl)),
 f31:=Tryz.func64.trans (congrArg some (by kernel_rfl)),
 f32:=Tryz.func65.trans (congrArg some (by kernel_rfl)),
 f37:=Tryz.func93.trans (congrArg some (by kernel_rfl)),
 t0:=Tryz.underlying0,
 a0:=Tryz.isAgg0,
 z0:=Tryz.sizeOf0,
 v0:=Tryz.zeroValue0,
 t3:=Tryz.underlying3,
 a3:=Tryz.isAgg3,
 z3:=Tryz.sizeOf3,
 v3:=Tryz.zeroValue3,
 t4:=Tryz.underlying4,
 a4:=Tryz.isAgg4,
 z4:=Tryz.sizeOf4,
 v4:=Tryz.zeroValue4,
 t22:=Tryz.underlying41,
 a22:=Tryz.isAgg41,
 z22:=Tryz.sizeOf41,
 v22:=Tryz.zeroValue41,
 t40:=Tryz.underlying110,
 a40:=Tryz.isAgg110,
 z40:=Tryz.sizeOf110,
 v40:=Tryz.zeroValue110 }
theorem jt(l:List Int):al (l.map aI)=l.map aI:=by
 induction l with
 | nil=>rfl
 | cons a r ih =>
  simp only[List.map_cons,al,List.flatMap_cons]at ih ⊢;rw[ih];rfl
theorem wX:Go.Av.Enters Tryz.prog 38:=⟨_,Tryz.func38,by kernel_rfl,by kernel_rfl⟩
theorem wh(b off n c:Nat)(zs:List Int)(x:Int)(w:World)(hz:n<=zs.length)(AW:n<4611686018427387904)(hc:∀j,j<zs.length->w.cell? ⟨b,off+j,none⟩=some (.int .i64 (zs.getD j 0)))(hs:(zs.take n).Pairwise (·<=·)) :
  Calls Tryz.prog 38 #[.slice (some ⟨b,off,none⟩) n c,.int .i64 x] w fun e w'=>e=.returned (.tuple #[.int .i64 ((zs.take n).countP (· < x):Nat),.bool ((zs.take n).contains x)])∧∃q,w'=w.drewN q:=Any.slices_BinarySearch_int QS b off n c zs x w hz AW hc hs
theorem yr{l:List Int}(bD:l≠[])(hl:l.length<=1000)(hs:l.Pairwise (fun x y=>x<=y))(x:Int):bq Tryz.prog 38 [a7 l,aI x] (.cx [aI (l.countP fun y=>decide (y<x):Nat),.v (.bool (decide (x∈l)))]):=by
 refine⟨wX,fun g vs hg zX Gz=>?_⟩;obtain⟨h1,h2⟩:=Gz;simp only[List.length_cons,List.length_nil]at h1;have EW:vs[0]?=some (vs[0]'(by omega)):=Array.getElem?_eq_getElem _;have vW:vs[1]?=some (vs[1]'(by omega)):=Array.getElem?_eq_getElem _;have Yw:=h2 0 _ _ rfl EW;have sQ:=(h2 1 _ _ rfl vW).bX.1;obtain⟨a,cap,he,dp⟩:∃(a:Addr) (cap:Nat),vs[0]'(by omega)=.slice (some ⟨a.block,a.off,none⟩) l.length cap∧∀(j:Nat) y,l[j]?=some y->g.w.cell? ⟨a.block,a.off+j,none⟩=some (.int .i64 y):=by
  generalize vs[0]'(by omega)=u at Yw;rcases Yw.eQ with q|q
  ·exact absurd (List.map_eq_nil_iff.1 q.2) bD
  obtain⟨a,cap,f,rfl,_,_,_,_,pA,hm,hr,_⟩:=q;have pA:=pA (by simpa using bD);refine⟨a,cap,?_,fun j y hj=>?_⟩
  ·rw[List.length_map];obtain⟨b,o,s⟩:=a;simp only at pA;subst pA;rfl
  have gV:(al (l.map aI))[j]?=some (aI y):=by
   rw[jt,List.getElem?_map,hj];rfl
  have m1:=(hm j _ gV).1;rw[(hr j _ gV).bX.1]at m1;exact m1
 have Gz:vs = #[.slice (some ⟨a.block,a.off,none⟩) l.length cap,.int .i64 x]:=by
  apply Array.ext
  ·simpa using h1
  intro i V9 ON;have:i=0∨i=1:=by omega
  rcases this with e|e
  ·subst e;exact he
  subst e;exact sQ
 subst Gz;refine(wh a.block a.off l.length cap l x g.w (Nat.le_refl _) (by omega) (fun j hj=>?_) (by rw[List.take_length];exact hs)).mono ?_
 ·rw[dp j _ (List.getElem?_eq_getElem hj)];simp[hj]
 rintro e w' ⟨rfl,q,rfl⟩;rw[List.take_length];refine⟨⟨g.w.drewN q,g.fr,g.env,g.objs⟩,_,_,rfl,rfl,Le.heap (by simp) rfl rfl rfl,hg.heap (by simp) rfl rfl rfl,.cx rfl ?_,rfl,zX⟩;intro i c u hc hu;have hi:i=0∨i=1:=by
  have:=I hc;simp only[List.length_cons,List.length_nil]at this;omega
 rcases hi with e|e
 ·subst e;simp only[List.getElem?_cons_zero,Option.some.injEq]at hc;have nk:u=.int .i64 (l.countP fun y=>decide (y<x):Nat):=by simpa using hu.symm
  subst hc;subst nk;have h5:(l.countP fun y=>decide (y<x))<=l.length:=List.countP_le_length;refine .v ⟨?_,?_⟩
  ·show IntKind.min .i64<=_;rw[show IntKind.min .i64=-9223372036854775808 from rfl];omega
  show _<=IntKind.max .i64;rw[show IntKind.max .i64=9223372036854775807 from rfl];omega
 subst e;simp only[List.getElem?_cons_succ,List.getElem?_cons_zero,Option.some.injEq]at hc;have nk:u=.bool (l.contains x):=by simpa using hu.symm
 subst hc;subst nk;have h6:l.contains x=decide (x∈l):=by simp
 rw[h6];exact .v trivial
theorem bq.os{P:Program}{f:FuncId}{l:List Int}{x b:Value}(h:bq P f [a7 l,.v x] (.v b)){O:List ai}{id:Nat}(ho:O[id]?=some (.cells (l.map aI))) :
  bh P f O [.os id l.length 1,.v x] (fun r O'=>r=.v b∧O'=O):=by
 refine⟨h.1,fun g vs hg zX Gz=>?_⟩;subst zX;obtain⟨h1,h2⟩:=Gz;simp only[List.length_cons,List.length_nil]at h1;have EW:vs[0]?=some (vs[0]'(by omega)):=Array.getElem?_eq_getElem _;have vW:vs[1]?=some (vs[1]'(by omega)):=Array.getElem?_eq_getElem _;obtain⟨lc,o,cap,he,ib,TR,cL,hb,cv,W1⟩:=(h2 0 _ _ rfl EW).qd;obtain⟨xG,hxf⟩:=(h2 1 _ _ rfl vW).bX;obtain⟨arr,t,iJ,dq,hlen,fw,nt,Dj⟩:=hg.row ho he;rw[List.length_map]at hlen;have dp:∀(j:Nat) y,l[j]?=some y->arr[j]?=some (.int .i64 y)∧j8 (.int .i64 y):=fun j y hj=>by
  have OO:=I hj;have Lk:arr[j]?=some (arr[j]'(by omega)):=Array.getElem?_eq_getElem _;obtain⟨e,hf⟩:=(fw j (aI y) _ (by simp[hj]) Lk).bX;exact⟨by rw[Lk,e],hf⟩
 obtain⟨g3,RY⟩:∃g3:G,g3=⟨g.w,fun _ _=>False,[],[]⟩:=⟨_,rfl⟩
 have Ww:∀b off,¬j5 g3 b off:=fun b off q=>by
  subst RY;rcases q with q|⟨_,_,_,q,_⟩
  ·exact q
  simp at q
 have dg:Go.Av.Good g3:=by
  subst RY;exact { frlt:=fun _ _ q=>q.elim,frown:=fun _ _ _ q=>by simp at q,len:=rfl,loc:=fun _ _ _ q=>by simp at q,apart:=fun _ _ _ _ _ _ q=>by simp at q,cells:=fun _ _ q=>by simp at q,spare:=fun _ _ _ q=>by simp at q,map:=fun _ _ _ q=>by simp at q }
 have T9:g3.w.heap[lc.block]?=some (.cells arr t (0,0)):=by rw[RY];exact dq
 have WN:RV g3 (a7 l) (.slice (some ⟨lc.block,0,none⟩) l.length cap):=by
  have yS:l.length=(l.map aI).length:=by simp
  rw[yS];refine .aB (f:=fun j=>.int .i64 (l.getD j 0)) ?_ ?_ (by simpa using cL) (by simpa using cv) (fun _=>rfl) ?_ ?_ trivial
  ·intro y hy;obtain⟨z,_,rfl⟩:=List.mem_map.1 hy;rfl
  ·intro y hy c hc;obtain⟨z,_,rfl⟩:=List.mem_map.1 hy;simp only[ae.cells,List.mem_singleton]at hc;subst hc;trivial
  ·intro j c hj;rw[jt,List.getElem?_map]at hj;obtain⟨y,hy,rfl⟩:=Option.map_eq_some_iff.1 hj;refine⟨?_,Ww _ _⟩;show g3.w.cell? _=_;rw[Go.Av.cell_of_row T9,Nat.zero_add,(dp j y hy).1];simp[hy]
  intro j c hj;rw[jt,List.getElem?_map]at hj;obtain⟨y,hy,rfl⟩:=Option.map_eq_some_iff.1 hj;have:l.getD j 0=y:=by simp[hy]
  rw[this];exact .v (dp j y hy).2
 have W2:iW g3 [a7 l,.v x] vs:=by
  refine⟨by simpa using h1,fun j c u hj hu=>?_⟩;have Wg:=I hj;simp only[List.length_cons,List.length_nil]at Wg;rcases(show j=0∨j=1 by omega)with e|e
  ·subst e;rw[EW]at hu;simp only[List.getElem?_cons_zero,Option.some.injEq]at hj hu;rw[<-hj,<-hu,W1];exact WN
  subst e;rw[vW]at hu;simp only[List.getElem?_cons_succ,List.getElem?_cons_zero,Option.some.injEq]at hj hu;rw[<-hj,<-hu,xG];exact .v hxf
 have hw3:g.w=g3.w:=by rw[RY]
 rw[hw3];refine(h.2 g3 vs dg (by rw[RY]) W2).mono ?_;rintro e w' ⟨g',v,r,k1,k2,k3,k4,k5,k6,k7⟩;have hX:Le g.bare ⟨g'.w,j5 g,g'.env,g'.objs⟩:=by
  subst RY;exact {
   os:=k3.os
   tape:=k3.tape
   output:=k3.output
   fr:=rfl
   size:=k3.size
   block:=fun k hk hh=>⟨(k3.block k hk (fun q=>hh q)).1,(k3.block k hk (fun q=>hh q)).2⟩
   cell:=fun b off y hy hh=>⟨(k3.cell b off y hy (fun q=>hh q)).1,(k3.cell b off y hy (fun q=>hh q)).2⟩
   len:=k3.len
   spare:=fun id m hm=>by simp[G.bare]at hm
   plain:=fun id o hm=>by simp[G.bare]at hm
   gone:=fun id hm=>by simp[G.bare]at hm
   tok:=fun id m hm=>by simp[G.bare]at hm }
 refine⟨g.back ⟨g'.w,j5 g,g'.env,g'.objs⟩,v,.v b,k1,k2,Le.back hg hX,Go.Av.Good.back hg hX,?_,rfl,rfl⟩;rw[k6]at k5;obtain⟨e1,e2⟩:=k5.bX;rw[e1];exact .v e2
end Go.Proofs.YtjdnhamngpafmaaGreat
namespace Go.Proofs.YtjdnhamngpafmaaGreat
open Go.Av Go.Sort
def Be:Go.Shelf.Ren:=⟨fun|125=>68|128=>102|129=>103|189=>40|215=>93|216=>64|257=>67|294=>94|295=>95|296=>96|297=>97|298=>98|299=>99|300=>100|301=>101|328=>122|329=>123|330=>124|331=>125|332=>126|343=>147|n=>n,fun|0=>0|3=>3|4=>4|5=>5|9=>9|28=>41|46=>110|51=>158|53=>140|131=>88|182=>152|183=>153|218=>191|222=>195|228=>211|229=>212|n=>n,fun n=>n⟩
theorem E8:Go.Proofs.Lays.n189 Tryz.prog Be:={
 mixed:=by kernel_rfl,
 f125:=Tryz.func68.trans (congrArg some (by kernel_rfl)),
 f128:=Tryz.func102.trans (congrArg some (by kernel_rfl)),
 f129:=Tryz.func103.trans (congrArg some (by kernel_rfl)),
 f189:=Tryz.func40.trans (congrArg some (by kernel_rfl)),
 f215:=Tryz.func93.trans (congrArg some (by kernel_rfl)),
 f216:=Tryz.func64.trans (congrArg some (by kernel_rfl)),
 f257:=Tryz.func67.trans (congrArg some (by kernel_rfl)),
 f294:=Tryz.func94.trans (congrArg some (by kernel_rfl)),
 f295:=Tryz.func95.trans (congrArg some (by kernel_rfl)),
 f296:=Tryz.func96.trans (congrArg some (by kernel_rfl)),
 f297:=Tryz.func97.trans (congrArg some (by kernel_rfl)),
 f298:=Tryz.func98.trans (congrArg some (by kernel_rfl)),
 f299:=Tryz.func99.trans (congrArg some (by kernel_rfl)),
 f300:=Tryz.func100.trans (congrArg some (by kernel_rfl)),
 f301:=Tryz.func101.trans (congrArg some (by kernel_rfl)),
 f328:=Tryz.func122.trans (congrArg some (by kernel_rfl)),
 f329:=Tryz.func123.trans (congrArg some (by kernel_rfl)),
 f330:=Tryz.func124.trans (congrArg some (by kernel_rfl)),
 f331:=Tryz.func125.trans (congrArg some (by kernel_rfl)),
 f332:=Tryz.func126.trans (congrArg some (by kernel_rfl)),
 f343:=Tryz.func147.trans (congrArg some (by kernel_rfl)),
 t0:=Tryz.underlying0,
 a0:=Tryz.isAgg0,
 z0:=Tryz.sizeOf0,
 v0:=Tryz.zeroValue0,
 t3:=Tryz.underlying3,
 a3:=Tryz.isAgg3,
 z3:=Tryz.sizeOf3,
 v3:=Tryz.zeroValue3,
 t4:=Tryz.underlying4,
 a4:=Tryz.isAgg4,
 z4:=Tryz.sizeOf4,
 v4:=Tryz.zeroValue4,
 t5:=Tryz.underlying5,
 a5:=Tryz.isAgg5,
 z5:=Tryz.sizeOf5,
 v5:=Tryz.zeroValue5,
 t9:=Tryz.underlying9,
 a9:=Tryz.isAgg9,
 z9:=Tryz.sizeOf9,
 v9:=Tryz.zeroValue9,
 t28:=Tryz.underlying41,
 a28:=Tryz.isAgg41,
 z28:=Tryz.sizeOf41,
 v28:=Tryz.zeroValue41,
 t46:=Tryz.underlying110,
 a46:=Tryz.isAgg110,
 z46:=Tryz.sizeOf110,
 v46:=Tryz.zeroValue110,
 t51:=Tryz.underlying158,
 a51:=Tryz.isAgg158,
 z51:=Tryz.sizeOf158,
 v51:=Tryz.zeroValue158,
 t53:=Tryz.underlying140,
 a53:=Tryz.isAgg140,
 z53:=Tryz.sizeOf140,
 v53:=Tryz.zeroValue140,
 t131:=Tryz.underlying88,
 a131:=Tryz.isAgg88,
 z131:=Tryz.sizeOf88,
 v131:=Tryz.zeroValue88,
 t182:=Tryz.underlying152,
 a182:=Tryz.isAgg152,
 z182:=Tryz.sizeOf152,
 v182:=Tryz.zeroValue152,
 t183:=Tryz.underlying153,
 a183:=Tryz.isAgg153,
 z183:=Tryz.sizeOf153,
 v183:=Tryz.zeroValue153,
 t218:=Tryz.underlying191,
 a218:=Tryz.isAgg191,
 z218:=Tryz.sizeOf191,
 v218:=Tryz.zeroValue191,
 t222:=Tryz.underlying195,
 a222:=Tryz.isAgg195,
 z222:=Tryz.sizeOf195,
 v222:=Tryz.zeroValue195,
 t228:=Tryz.underlying211,
 a228:=Tryz.isAgg211,
 z228:=Tryz.sizeOf211,
 v228:=Tryz.zeroValue211,
 t229:=Tryz.underlying212,
 a229:=Tryz.isAgg212,
 z229:=Tryz.sizeOf212,
 v229:=Tryz.zeroValue212 }
theorem D':w9 Tryz.prog 40:=fun blk off cap zs w h1 h2 h3=>Any.slices_Sort_int E8 blk off cap zs w h1 h2 h3
theorem s9:Go.Av.Enters Tryz.prog 40:=⟨_,Tryz.func40,by kernel_rfl,by kernel_rfl⟩
theorem yd{O:List ai}{id:Nat}{zs:List Int}(ho:O[id]?=some (.cells (zs.map aI)))(hl:zs.length<=1000) :
  bh Tryz.prog 40 O [.os id zs.length 1] (fun r O'=>r=.cx []∧O'=O.set id (.cells ((gR zs).map aI))):=BO s9 D' ho hl
theorem vH(p:Option Addr)(cap:Nat)(w:World):Calls Tryz.prog 40 #[.slice p 0 cap] w fun e w'=>e=.returned (.tuple #[])∧w'=w:=Any.slices_Sort_int_none E8 p cap w
theorem Kl(O:List ai):bh Tryz.prog 40 O [.aB 1 [] .sh] (fun r O'=>r=.cx []∧O'=O):=by
 refine⟨s9,fun g vs hg zX Gz=>?_⟩;obtain⟨h1,h2⟩:=Gz;simp only[List.length_singleton]at h1;have EW:vs[0]?=some (vs[0]'(by omega)):=Array.getElem?_eq_getElem _;have hr:=h2 0 _ _ rfl EW;have hv:∃p cap,vs = #[.slice p 0 cap]:=by
  have:∃p cap,vs[0]'(by omega)=.slice p 0 cap:=by
   generalize vs[0]'(by omega)=u at hr;cases hr with
   | nil=>exact⟨_,_,rfl⟩
   | aB=>exact⟨_,_,rfl⟩
  obtain⟨p,cap,e⟩:=this;refine⟨p,cap,?_⟩;apply Array.ext
  ·simpa using h1
  intro i V9 ON;have:i=0:=by omega
  subst this;exact e
 obtain⟨p,cap,rfl⟩:=hv;refine(vH p cap g.w).mono ?_;rintro e w' ⟨rfl,rfl⟩;exact⟨g,_,.cx [],rfl,rfl,Le.refl g,hg,.cx rfl (by simp),rfl,zX⟩
end Go.Proofs.YtjdnhamngpafmaaGreat
namespace Go.Proofs.YtjdnhamngpafmaaGreat
open Go.Av


end Go.Proofs.YtjdnhamngpafmaaGreat
namespace Go.Av

end Go.Av
namespace Go.Proofs.YtjdnhamngpafmaaGreat
open Go.Av
def tJ{X:Type}(step:X->Nat->List Bool->X)(l:List Ins):Nat->X->List Bool->X
 | 0,x,s=>step x 0 s
 | n+1,x,s=>match l[n]? with
  | none=>x
  | some i=>tJ step l n (step x (n+1) s) (Ew i s)



theorem mT(to op n:Int)(l:List Int):bq Tryz.prog 56 [aI to,aI op,aI n,a7 l] (.agg [aI to,aI op,aI n,a7 l]):=by
 refine zf true 0 Tryz.func56 Tryz.ntmps56 ?_;dsimp only[Tmp,TypeId,slotsOf];refine az (ah ?_);refine az (ah ?_);refine aq ?_;simp -dsimp only[simprocAttr,↓aa,zp,zr,Tryz.results56];simp[av,ae.upto,ax]
theorem sX(k:Int)(l:List Int):bq Tryz.prog 57 [aI k,a7 l] (.agg [aI 1,aI 0,aI 0,a7 [],.aB 2 [.agg [aI k,a7 l]] .sh]):=by
 refine zf true 0 Tryz.func57 Tryz.ntmps57 ?_;dsimp only[Tmp,TypeId,slotsOf];refine az (ah ?_);refine az (ah ?_);refine aq ?_;simp -dsimp only[simprocAttr,↓aa,zp,zr,Tryz.results57];simp[av,ae.upto,ax]
theorem se(to op n:Int):bq Tryz.prog 56 [aI to,aI op,aI n,.v (.slice none 0 0)] (.agg [aI to,aI op,aI n,a7 []]):=by
 have h:=mT to op n [];exact⟨h.1,fun g vs hg ho ha=>h.2 g vs hg ho ⟨ha.1,fun i c u hc hu=>by
  match i,hc,hu with
  | 0,hc,hu=>exact ha.2 0 c u hc hu
  | 1,hc,hu=>exact ha.2 1 c u hc hu
  | 2,hc,hu=>exact ha.2 2 c u hc hu
  | 3,hc,hu =>
   simp only[List.getElem?_cons_succ,List.getElem?_cons_zero,Option.some.injEq]at hc;subst hc;have:=(ha.2 3 _ u rfl hu).bX.1;subst this;exact .nil (fun id e=>by cases e) (by simp)
  | i+4,hc,_=>simp at hc⟩⟩
def rW:cu:=⟨[⟨-1,[
 ⟨[],[⟨0,0,0,[]⟩],⟨1,0,0,[],[⟨1,[0]⟩]⟩⟩,
 ⟨[1],[⟨2,0,3,[]⟩,⟨3,6,0,[1,2]⟩],⟨2,3,0,[],[⟨2,[]⟩,⟨3,[]⟩]⟩⟩,
 ⟨[],[⟨4,15,0,[1]⟩,⟨5,0,1,[]⟩,⟨6,1,0,[1,5]⟩],⟨1,0,0,[],[⟨1,[6]⟩]⟩⟩,
 ⟨[],[],⟨0,1,0,[],[]⟩⟩]⟩],0⟩
theorem FY:runM rW 27=⟨[0,1,2],0,3,27,0⟩:=by kernel_rfl
theorem CM:bq Tryz.prog 29 [] rW.enc:=by
 refine zf true 0 Tryz.func29 Tryz.ntmps29 ?_;dsimp only[Tmp,TypeId,slotsOf];refine az (ah ?_);refine az (ah ?_);refine az (ah ?_);refine az ?_;refine zi ((se 0 0 0)) ?_;refine zi ((sX 1 [0])) ?_;refine zi ((se 2 0 3)) ?_;refine zi ((mT 3 6 0 [1,2])) ?_;refine zi ((mT 4 15 0 [1])) ?_;refine zi ((se 5 0 1)) ?_;refine zi ((mT 6 1 0 [1,5])) ?_;refine zi ((sX 1 [6])) ?_;refine ah ?_;refine aq ?_;simp -dsimp only[simprocAttr,↓aa,zp,zr,Tryz.results29];exact⟨by simp[av,ae.upto,ax],rfl⟩
theorem CL:rW.fit:=by
 simp[rW,cu.fit,Func.fit,Block.fit,Ins.fit,Term.fit,Edge.fit,lK,uO]
theorem En:bq Tryz.prog 8 [] (.v (.bool true)):=by
 have bI:=Kb rW CL 27;rw[FY]at bI;have tE:=tH [0,1,2] [0,1,2] 0 0 3 3;have VU:=CM;unfold RC.enc at bI;unfold PR at tE;simp only[List.map_cons,List.map_nil,decide_true,Bool.and_self]at bI tE;generalize rW=u at *;refine zf true 0 Tryz.func8 Tryz.ntmps8 ?_;dsimp only[Tmp,TypeId,slotsOf];refine az (ah ?_);refine az ?_;refine zi VU ?_;refine zi bI ?_;refine ah ?_;refine az ?_;refine zi tE ?_;refine ah ?_;refine aq ?_;simp -dsimp only[simprocAttr,↓aa,zp,zr,Tryz.results8]

theorem sF{X:Type}{step:X->Nat->List Bool->X}{l:List Ins}{J:Nat->X->List Bool->Prop}(hs:∀n x s i,l[n]?=some i->J (n+1) x s->J n (step x (n+1) s) (Ew i s)):∀n x s,n<=l.length->J n x s->∃x' s',J 0 x' s'∧tJ step l n x s=step x' 0 s'
 | 0,x,s,_,h=>⟨x,s,h,rfl⟩
 | n+1,x,s,hn,h=>by
  obtain⟨i,hi⟩:∃i,l[n]?=some i:=⟨l[n],List.getElem?_eq_getElem _⟩
  obtain⟨x',s',h1,h2⟩:=sF hs n _ _ (by omega) (hs n x s i hi h);refine⟨x',s',h1,?_⟩;simp only[tJ,hi];exact h2
def setAt(f:Func)(S:List (List Bool))(k n:Nat):List Bool:=Ov ((aY f k).ins.drop n) (S[k]?.getD [])
theorem D6{f:Func}{S:List (List Bool)}{k n:Nat}{i:Ins}(h:(aY f k).ins[n]?=some i):setAt f S k n=Ew i (setAt f S k (n+1)):=by
 unfold setAt;rw[bA h];rfl
def K1(v w:Nat)(s:List Bool):Bool:=s[v]?.getD false&&s[w]?.getD false
def yY(v w:Nat)(x:Bool)(_:Nat)(s:List Bool):Bool:=x ||K1 v w s
theorem inBlock{f:Func}{S:List (List Bool)}{k v w:Nat}{s0:List Bool}(Dl:S[k]?=some s0)(x0:Bool) :
  tJ (yY v w) (aY f k).ins (aY f k).ins.length x0 s0=true↔x0=true∨∃n,n<=(aY f k).ins.length∧K1 v w (setAt f S k n)=true:=by
 obtain⟨x',s',⟨j1,j2,j3⟩,he⟩:=sF (step:=yY v w) (l:=(aY f k).ins) (J:=fun n x s=>s=setAt f S k n∧n<=(aY f k).ins.length∧(x=true↔x0=true∨∃m,n<m∧m<=(aY f k).ins.length∧K1 v w (setAt f S k m)=true)) (fun n x s i hi ⟨j1,j2,j3⟩=>by
   subst j1;refine⟨(D6 hi).symm,by omega,?_⟩;rw[yY,Bool.or_eq_true,j3];constructor
   ·rintro((q|⟨m,q1,q2,q3⟩)|q)
    ·exact .inl q
    ·exact .inr ⟨m,by omega,q2,q3⟩
    exact .inr ⟨n+1,by omega,j2,q⟩
   rintro(q|⟨m,q1,q2,q3⟩)
   ·exact .inl (.inl q)
   by_cases e:m=n+1
   ·subst e;exact .inr q3
   exact .inl (.inr ⟨m,by omega,q2,q3⟩))
  (aY f k).ins.length x0 s0 (Nat.le_refl _) ⟨by simp[setAt,Dl,Ov],Nat.le_refl _,⟨fun q=>.inl q,fun q=>by
   rcases q with q|⟨m,q1,q2,_⟩
   ·exact q
   omega⟩⟩
 subst j1;rw[he,yY,Bool.or_eq_true,j3];constructor
 ·rintro((q|⟨m,q1,q2,q3⟩)|q)
  ·exact .inl q
  ·exact .inr ⟨m,q2,q3⟩
  exact .inr ⟨0,by omega,q⟩
 rintro(q|⟨m,q2,q3⟩)
 ·exact .inl (.inl q)
 by_cases e:m=0
 ·subst e;exact .inr q3
 exact .inl (.inr ⟨m,by omega,q2,q3⟩)

def yX{α:Type}(p:α->Bool):List α->Nat->Int
 | [],_=>-1
 | a::r,n=>if p a=true then n else yX p r (n+1)
theorem Bc{α:Type}(p:α->Bool):∀(l:List α) (n:Nat),decide (0<=yX p l n)=l.any p
 | [],_=>rfl
 | a::r,n=>by
  have ih:=Bc p r (n+1);simp only[yX,List.any_cons];split
  ·rename_i h;rw[h,Bool.true_or];exact decide_eq_true (by omega)
  rename_i h;have h':p a=false:=by simpa using h
  rw[ih,h',Bool.false_or]

theorem GZ(f:Func)(bJ:f.fit)(hc:aN f=0):∃(O:List ai) (oid:Nat),O[oid]?=some (.cells ((bx f).map aI))∧(∀o∈O,o.upto O.length) ∧
  bh Tryz.prog 52 [] [f.enc] (fun r O'=>r=.cx [.os oid (bx f).length 1,aI 0]∧O'=O):=by
 have zW:=iC f bJ;rw[hc]at zW;have hg:=(cA bJ hc).gr;have tE:=s6 f hg;obtain⟨f1,f2,_⟩:=ou hg;have SP:(kU f 100000 (gY f)).S=iS f 100000 (cQ f):=zE f 100000 (gY f);have hX:=vG (f:=f) 100000 _ (m6 f);obtain⟨X,VJ⟩:∃X,X=kU f 100000 (gY f):=⟨_,rfl⟩
 rw[<-VJ]at tE hX SP;have jO:X.S.out=gX f:=by rw[SP];rfl
 unfold bx;obtain⟨l,hl⟩:∃l,l=gX f:=⟨_,rfl⟩
 rw[<-hl]at f1 f2 jO ⊢;have h1:=hX.out;rw[jO,kq,if_neg f1]at h1;obtain⟨h2,h3,h4⟩:=hX.outs (by rw[jO];exact f1);rw[jO]at h2;have br:=hX.up;obtain⟨S,sid,oid,O⟩:=X;simp only at h1 h2 h3 h4 br tE;have Gu:=I h2;have QC:=rB br h2 (by omega);have C8:(O.set oid (.cells (l.reverse.map aI)))[1]?=some (.cells [.os oid l.length 1]):=aW h1 (by omega);have IU:(O.set oid (.cells (l.reverse.map aI)))[oid]?=some (.cells (l.reverse.map aI)):=ja h2;have fg:∀o∈O.set oid (.cells (l.reverse.map aI)),o.upto O.length:=bg br (ax _ _);have yS:(O.set oid (.cells (l.reverse.map aI))).length=O.length:=by simp
 have jf:(O.set oid (.cells (l.reverse.map aI))).take O.length=O.set oid (.cells (l.reverse.map aI)):=b6;refine⟨O.set oid (.cells (l.reverse.map aI)),oid,IU,by rw[yS];exact fg,?_⟩;rw[List.length_reverse];generalize O.set oid (.cells (l.reverse.map aI))=O2 at *;have ik:([]:List ai).length<=O.length:=Nat.zero_le _;refine fo hT true (O.length) Tryz.func52 rfl (by kernel_rfl) (by simp[Tryz.ntmps52]) (by assumption) ?_;show cn Tryz.prog _ _ _ ⟨17,_,_⟩;dsimp only[Tmp,TypeId,slotsOf];refine az (ah ?_);refine aC 1 0 (.ip none [aI f.name,aw f.blocks]) rfl (by simp[ai.aD]) trivial rfl ?_ ?_;rotate_left;simp -dsimp only[simprocAttr,↓aa,zp]
 ·refine ck ?_;refine zi zW ?_;refine ah ?_;refine az (ah ?_);refine cm rfl ?_;refine ct ?_;refine az (ah ?_);refine az ?_;refine .inr (.inl ⟨_,_,tE,.inl (ao (zj ?_))⟩);refine ah ?_;refine aU ?_;simp -dsimp only[simprocAttr,↓aa,zp,h1];refine .inr (.inl ⟨_,_,QC,.inl (ao (zj ?_))⟩);refine ah ?_;refine aU ?_;simp -dsimp only[simprocAttr,↓aa,zp,C8];refine ah ?_;refine aq ?_;simp -dsimp only[simprocAttr,↓aa,zp,zr,Tryz.results52,jf,yS];exact⟨fg,⟨Gu,trivial,trivial⟩,rfl⟩
 exact bY.mp rfl rfl
def J8(f:Func):ae:=if aN f=0 then .cx [a7 (dw f),aI 0]else .cx [a7 [],aI (aN f)]
theorem kQ(f:Func)(bJ:f.fit):bq Tryz.prog 23 [f.enc] (J8 f):=by
 unfold J8;by_cases hc:aN f=0
 ·rw[if_pos hc];obtain⟨O,oid,h1,h2,Ln⟩:=GZ f bJ hc;have Gj:=(cE (cA bJ hc).gr).few;have Lp:=yd (O:=O) (id:=oid) (zs:=bx f) h1 (by omega);have h3:(O.set oid (.cells ((gR (bx f)).map aI)))[oid]?=some (.cells ((gR (bx f)).map aI)):=ja h1;have iY:=(fJ (bx f)).length_eq;unfold dw;generalize O.set oid (.cells ((gR (bx f)).map aI))=O2 at *;obtain⟨l,hl⟩:∃l,l=gR (bx f):=⟨_,rfl⟩
  rw[<-hl]at h3 iY ⊢;rw[<-iY]at Lp Ln;refine zf true 0 Tryz.func23 Tryz.ntmps23 ?_;dsimp only[Tmp,TypeId,slotsOf];refine az (ah ?_);refine aC 1 0 (.ip none [aI f.name,aw f.blocks]) rfl (by simp[ai.aD]) trivial rfl ?_ ?_;rotate_left;simp -dsimp only[simprocAttr,↓aa,zp]
  ·refine cb 0 [(1,.ip none [aI f.name,aw f.blocks])] (by omega) (by omega) [] ?_ ?_ ?_ ?_ ?_
   ·rfl
   ·simp[ai.upto]
   ·simp[iv,St.get,bt,bc,Go.Av.look,Sub.refl]
   ·simp[ai.upto,av,ae.upto,ax,Func.ak,Block.ak,Edge.ak,Ins.ak]
   refine az ?_;refine .inr (.inl ⟨_,_,Ln,.inl (ao (zj ?_))⟩);refine ah ?_;refine az ?_;refine .inr (.inl ⟨_,_,Lp,.inl (ao (zj ?_))⟩);refine ah ?_;refine az (ah ?_);refine aC 2 oid (o:=.cells (l.map aI)) (a7 l) h3 (by simp[ai.aD]) trivial rfl (bY.os (cs:=l.map aI) h3 ?_ ?_ ?_) ?_
   ·intro x hx;obtain⟨c,_,rfl⟩:=List.mem_map.1 hx;rfl
   ·simp
   ·rw[List.drop_zero,List.take_of_length_le (by simp)];exact jF _
   simp -dsimp only[simprocAttr,↓aa,zp];refine aq ?_;simp -dsimp only[simprocAttr,↓aa,zp,zr,Tryz.results23];exact⟨⟨ax _ _,trivial⟩,trivial,trivial⟩
  exact bY.mp rfl rfl
 rw[if_neg hc];have Ln:=vi f bJ;unfold y8 at Ln;rw[if_neg hc]at Ln;generalize aN f=e at *;refine zf true 0 Tryz.func23 Tryz.ntmps23 ?_;dsimp only[Tmp,TypeId,slotsOf];refine az (ah ?_);refine aC 1 0 (.ip none [aI f.name,aw f.blocks]) rfl (by simp[ai.aD]) trivial rfl ?_ ?_;rotate_left;simp -dsimp only[simprocAttr,↓aa,zp]
 ·refine az ?_;refine zi Ln ?_;refine ah ?_;refine az ?_;refine .inr (.inl ⟨_,_,(Kl _),.inl (ao (zj ?_))⟩);refine ah ?_;refine az (ah ?_);refine aq ?_;simp -dsimp only[simprocAttr,↓aa,zp,zr,Tryz.results23];simp[av,ae.upto]
 exact bY.mp rfl rfl
theorem tY{l:List Int}{k:Nat}{x:Int}(h:l[k]?=some x):(l.map aI)[k]?=some (aI x):=by
 rw[List.getElem?_map,h];rfl
theorem GP{O:List ai}(br:∀o∈O,o.upto O.length){A B N:Nat}{f:Func}(hw:gg f){ov:List Int}(hA:O[A]?=some (.cells (ov.map aI)))(hB:O[B]?=some (.cells ((gm f).map aI)))(hN:N=f.blocks.length)(ht:Tr f ov){a b:Int}(ha:j4 ov a)(hb:j4 ov b) :
  bh Tryz.prog 121 O [.agg [.ms A 0 N N,.ms B 0 N N],aI a,aI b] (fun r O'=>r=aI (iM (gm f) ov 300 a b)∧O'=O):=by
 have C9:=I hA;have Lh:=I hB;obtain⟨R,hR⟩:∃R,R=iM (gm f) ov 300 a b:=⟨_,rfl⟩
 rw[<-hR];have Gj:=hw.few;have dG:cP f a+cP f b<(300:Nat):=by
  have:=(hw.low a).2;have:=(hw.low b).2;omega
 refine zf true O.length Tryz.func121 Tryz.ntmps121 ?_;dsimp only[Tmp,TypeId,slotsOf];refine az (ah ?_);refine aK 3 ([.ms A 0 N N,.ms B 0 N N]) [(1,aI a),(2,aI b),(3,.ip none [.ms A 0 N N,.ms B 0 N N])] (by simp[bt,bc,Go.Av.look]) (by rfl) (by omega) (by simp[bt,bc,Go.Av.look]) ?_ ?_ ?_
 ·exact br
 ·simp[ae.upto,av,C9,Lh]
 refine aG (ag (aM (ι:={x:Nat×Int×Int // R=iM (gm f) ov x.1 x.2.1 x.2.2∧j4 ov x.2.1∧j4 ov x.2.2∧cP f x.2.1+cP f x.2.2<x.1}) (fun x=>⟨32,[(1,aI x.1.2.1),(2,aI x.1.2.2),(3,.ip none [.ms A 0 N N,.ms B 0 N N])],O⟩) (fun x=>x.1.1) ⟨(300,a,b),hR,ha,hb,dG⟩ ?_ ?_))
 ·refine zq rfl ?_ ?_;simp -dsimp only[simprocAttr,↓aa,zp,zc];rfl
 rintro⟨⟨n,a,b⟩,pk,ha,hb,a8⟩;simp only at pk ha hb a8;have pa:=ht.v7 hw ha;have pb:=ht.v7 hw hb;have ra:=hw.range a pa;have rb:=hw.range b pb;obtain⟨n,rfl⟩:∃n',n=n'+1:=⟨n-1,by omega⟩
 have ea:=qg ra.1 ra.2;have eb:=qg rb.1 rb.2;have qv:dP (gm f) a=cP f a:=by unfold dP;rw[ea];rfl
 have hpb:dP (gm f) b=cP f b:=by unfold dP;rw[eb];rfl
 have V1:=tY ea;have V2:=tY eb;by_cases xw:a=b
 ·have hd:decide (a=b)=true:=decide_eq_true xw;refine cK ?_;simp -dsimp only[simprocAttr,↓aa,zp,hd];refine ah ?_;refine cm rfl ?_;refine aF ?_;simp -dsimp only[bF,ne_eq,Nat.reduceEqDiff,reduceCtorEq];subst xw;have:R=a:=by rw[pk];simp[iM]
  rw[this];refine az (ah ?_);refine aq ?_;simp -dsimp only[simprocAttr,↓aa,zp,zr,Tryz.results121];exact br
 have hd:decide (a=b)=false:=decide_eq_false xw;simp only[iM,if_neg xw,qv,hpb]at pk;refine cK ?_;simp -dsimp only[simprocAttr,↓aa,zp,hd];refine ah ?_;apply aP rfl<;>intro h
 ·refine ct ?_;refine ag ?_;refine aU ?_;simp -dsimp only[simprocAttr,↓aa,zp,hB,V1,V2,Nat.mul_one]
  repeat(refine⟨by omega,?_⟩)
  refine⟨bP [B] O.length [.pure,.pure,.pure,.pure,.rd 0,.pure,.pure,.pure,.pure,.rd 0,.pure] (by simp) (by simp;omega) rfl rfl (by kernel_rfl),?_⟩;refine ah ?_;by_cases R1:cP f b<cP f a
  ·rw[if_pos R1]at pk;have hu:0<=dP ov a:=by
    rcases ha with q|q
    ·rw[q,hw.zero]at R1;omega
    exact q
   obtain⟨u1,u2,u3⟩:=ht.up a hu;obtain⟨x,hx⟩:∃x,ov[a.toNat]?=some x:=⟨ov[a.toNat]'(by rw[ht.len];omega),List.getElem?_eq_getElem _⟩
   have xG:dP ov a=x:=by simp[dP,hx]
   rw[xG]at pk u1 u2 u3;have QO:=tY hx;apply aP rfl<;>intro h
   ·refine jD ?_;simp -dsimp only[simprocAttr,↓aa,zp,hA,QO,Nat.mul_one]
    repeat(refine⟨by omega,?_⟩)
    refine RA ?_;refine⟨⟨(n,x,b),pk,u3,hb,by simp only;omega⟩,by simp,?_⟩;refine zq rfl ?_ ?_;simp -dsimp only[simprocAttr,↓aa,zp,zc];rfl
   exact absurd R1 (of_decide_eq_false h)
  rw[if_neg R1]at pk;have hu:0<=dP ov b:=by
   rcases hb with q|q
   ·rw[q,hw.zero]at R1;have:a=0:=hw.inj a 0 pa (by rw[hw.zero];omega);exact absurd (this.trans q.symm) xw
   exact q
  obtain⟨u1,u2,u3⟩:=ht.up b hu;obtain⟨x,hx⟩:∃x,ov[b.toNat]?=some x:=⟨ov[b.toNat]'(by rw[ht.len];omega),List.getElem?_eq_getElem _⟩
  have xG:dP ov b=x:=by simp[dP,hx]
  rw[xG]at pk u1 u2 u3;have QO:=tY hx;apply aP rfl<;>intro h
  ·exact absurd (of_decide_eq_true h) R1
  refine jD ?_;simp -dsimp only[simprocAttr,↓aa,zp,hA,QO,Nat.mul_one]
  repeat(refine⟨by omega,?_⟩)
  refine RA ?_;refine⟨⟨(n,a,x),pk,ha,u3,by simp only;omega⟩,by simp,?_⟩;refine zq rfl ?_ ?_;simp -dsimp only[simprocAttr,↓aa,zp,zc];rfl
 cases h
end Go.Proofs.YtjdnhamngpafmaaGreat
namespace Go.Av
theorem BT{g:G}(hg:Good g){id m:Nat}(h:g.objs[id]?=some (.spare m))(arr:Array Value)(t:TypeId)(cs:List ae)(hlen:cs.length<=arr.size)
  (wJ:∀(g':G) (j:Nat) (c:ae) (u:Value),cs[j]?=some c->arr[j]?=some u->RV g' c u) (dk:∀c∈cs,c.scalar) :
  Le g (g.bw id (some ⟨g.w.heap.size,0,arr.size⟩) (.cells cs) (g.w.alloc (.cells arr t)))∧Good (g.bw id (some ⟨g.w.heap.size,0,arr.size⟩) (.cells cs) (g.w.alloc (.cells arr t))):=by
 have eN:lb g id (.spare m) (some ⟨g.w.heap.size,0,arr.size⟩) (.cells cs) (g.w.alloc (.cells arr t)):={
  obj:=h
  os:=rfl
  tape:=rfl
  output:=rfl
  size:=by show g.w.heap.size<=(g.w.heap.push _).size;rw[Array.size_push];omega
  block:=fun k hk _=>cH g.w _ hk
  cell:=fun b off x hx _=>by
   have:=oL hx;rw[jb (cH g.w (.cells arr t) this)];exact hx
  place:=fun l1 h1 _=>by
   simp only[Option.some.injEq]at h1;subst h1;exact .inl (Nat.le_refl _)
  spare:=fun _ _=>.inr (by simp[ai.aD])
  plain:=fun h=>absurd trivial h
  gone:=by simp }
 exact⟨Le.bw hg eN,Good.bw hg eN ⟨_,arr,t,rfl,rfl,cG g.w _,hlen,fun j c u hj hu=>wJ _ j c u hj hu,dk,Nat.le_refl _⟩ (fun l1 h1 _=>by
  simp only[Option.some.injEq]at h1;subst h1;exact aX (cG g.w (.cells arr t)))⟩
theorem wj{P:Program}{aT:eh}(hT:b7 P aT){o:Oper}{σ:St}{t:TypeId}{ti:cc}{id m:Nat}(ho:o.op=.alloc t)(hd:∀d,o.dst=some d->d<σ.n)(ht:aT t=some ti)(gC:σ.objs[id]?=some (.spare m)) :
  Cert P o σ (.mp id 0) (.new id (.cells ti.zero)) :=
 Cert.tU trivial hd fun base fN a g bH h iT=>by
  have hg:=bH.good;obtain⟨z,hz,h5,_,_,h8,h9⟩:=(hT t ti ht).zeroValue;have fZ:g.objs[id]?=some (.spare m):=Eq.trans iT gC;obtain⟨hle,dg⟩:=BT hg fZ z.cells t ti.zero (by rw[h5];exact Nat.le_refl _) (fun g' j c u a b=>h8 g' j c u a b) h9;refine⟨.pointer (some ⟨g.w.heap.size,0,none⟩),_,.inl ?_,hle,dg,?_,?_⟩
  ·simp[execOp,ho,Instr.alloc,hz,Go.newVar,Go.newRow,G.bw]
  ·simp[G.bw,Mode.post]
  exact .mp (l:=⟨g.w.heap.size,0,z.cells.size⟩) (o:=.cells ti.zero) (by simp only[G.bw];rw[List.getElem?_set_self (iF hg fZ)]) (by simp only[G.bw];rw[List.getElem?_set_self (I fZ)]) (by simp[ai.aD])
theorem ln{P:Program}{aT:eh}(hT:b7 P aT){o:Oper}{σ:St}{t e:TypeId}{x y:Operand}{ti te:cc}{k k':IntKind}{n:Int}{id m':Nat}
  (ho:o.op=.makeSlice t x y) (hd:∀d,o.dst=some d->d<σ.n) (ht:aT t=some ti) (aR:ti.desc=.slice e) (he:aT e=some te) (hx:σ.ev x=some (.v (.int k n))) (hy:σ.ev y=some (.v (.int k' n)))
  (h0:0<=n) (hb:te.bytes*n.toNat<=2 ^ 48) (OD:n.toNat<=2 ^ 62) (hs:0<te.size) (gC:σ.objs[id]?=some (.spare m')) :
  Cert P o σ (.ms id 0 n.toNat n.toNat) (.new id (.cells (List.replicate n.toNat te.zero).flatten)) :=
 Cert.tU trivial hd fun base fN a g bH h iT=>by
  have hg:=bH.good;have fZ:g.objs[id]?=some (.spare m'):=Eq.trans iT gC;have ex:=(h x (by simp[ho,Op.operands]) _ hx).bX.1;have ey:=(h y (by simp[ho,Op.operands]) _ hy).bX.1;have hu:=bR hT ht aR;obtain⟨⟨i,z,h1,h2,h3,h4,h5,h6,h7,h8,h9⟩,_⟩:=hT e te he;obtain⟨m,rfl⟩:=Int.eq_ofNat_of_zero_le h0;simp only[Int.toNat_natCast]at *;have Db:(i.bytes:Int)*(m:Int)<=281474976710656:=by
   rw[h3,<-Int.natCast_mul];omega
  have bI:=run_make (P:=P) g.w t e i z hu h1 h4 k k' m m (by omega) (Int.le_refl _) Db (by omega);simp only[Int.toNat_natCast]at bI;have hlen:(List.replicate m te.zero).flatten.length=m*te.size:=by simp[h6]
  have e9:∀(j:Nat) (c:ae),(List.replicate m te.zero).flatten[j]?=some c->te.zero[j % te.size]?=some c:=fun j c=>h6 ▸ o9 te.zero (by omega) m j c;obtain⟨hle,dg⟩:=BT hg fZ (madeCells z.cells (m*i.size)) e (List.replicate m te.zero).flatten (by rw[hlen,size_madeCells,h2];exact Nat.le_refl _) (fun g' j c u hj nk=>by
   have gV:=e9 j c hj;have a8:=I hj;rw[hlen]at a8;have j':j % te.size<z.cells.size:=by rw[h5];exact I gV
   refine h8 _ _ _ _ gV ?_;simp only[madeCells,Array.getElem?_map,h2,Array.getElem?_range,if_pos a8,Option.map_some,Option.some.injEq]at nk;subst nk;rw[h5,h6];simp[j']) (fun c hc=>by
   rw[List.mem_flatten]at hc;obtain⟨l,hl,hc⟩:=hc;rw[List.mem_replicate]at hl;exact h9 c (hl.2 ▸ hc))
  refine⟨.slice (some ⟨g.w.heap.size,0,none⟩) m m,_,.inl ?_,hle,dg,?_,?_⟩
  ·simp[execOp,ho,ex,ey,bI,G.bw]
  ·simp[G.bw,Mode.post]
  exact .ms (l:=⟨g.w.heap.size,0,(madeCells z.cells (m*i.size)).size⟩) (o:=.cells (List.replicate m te.zero).flatten) (by simp only[G.bw];rw[List.getElem?_set_self (iF hg fZ)]) (by simp only[G.bw];rw[List.getElem?_set_self (I fZ)]) (by simp[ai.aD]) (Nat.le_refl _) (Nat.le_refl _) OD
theorem Aj{P:Program}{kb:Nat}{c:Code}{Q:dR->St->Prop}{n:Nat}{bn:List (Nat×ae)}:∀(k:Nat) {O:List ai},cn P kb c Q ⟨n,bn,O++List.replicate k (.spare 0)⟩->cn P kb c Q ⟨n,bn,O⟩
 | 0,O,h=>by simpa using h
 | k+1,O,h=>by
  have h2:cn P kb c Q ⟨n,bn,O++[.spare 0]⟩:=Aj k (by simpa[List.replicate_succ]using h);exact h2.weaken fun base a g hb hr=>by
   have hO:g.objs=O:=hr.objs;refine⟨g.mark (.spare 0),rfl,?_⟩;have hle:=Le.mark hr.good (.spare 0);refine { le:=hr.le.trans hle,good:=Good.mark hr.good _,objs:=by simp[G.mark,hO],size:=hr.size,defers:=hr.defers,slot:=fun s x hx=>?_ };obtain⟨u,e1,e2⟩:=hr.slot s x hx;exact⟨u,e1,e2.mono hle⟩
def z'(P:Program)(all:List Oper)(k:Nat)(σ:St)(ks:List Kind)(R:St->List Kind->Prop):Prop :=
 ∃(ρ:St) (sT:List Kind),sT.length+k=all.length∧eJ P all.toArray ((sT.zipIdx k).map fun p=>(p.2,p.1)) σ ρ∧R ρ (ks++sT)
theorem z'.fin{P:Program}{all:List Oper}{k:Nat}{σ:St}{ks:List Kind}{R:St->List Kind->Prop}(hk:k=all.length)(h:R σ ks):z' P all k σ ks R :=
 ⟨σ,[],by simpa using hk,gK.refl σ,by simpa using h⟩
theorem z'.op{P:Program}{all:List Oper}{k:Nat}{σ:St}{ks:List Kind}{R:St->List Kind->Prop}{o:Oper}{x:ae}{m:Mode}(ho:all[k]?=some o)(hg:o.guard=none)(hc:Cert P o σ x m)
  (h:z' P all (k+1) ⟨σ.n,pq o.dst x σ.bn,m.post σ.objs⟩ (ks++[m.kind]) R):z' P all k σ ks R:=by
 obtain⟨ρ,sT,h1,h2,h3⟩:=h;refine⟨ρ,m.kind::sT,by simp only[List.length_cons];omega,?_,by simpa using h3⟩;rw[List.zipIdx_cons,List.map_cons];exact⟨_,⟨o,by simpa using ho,.inl ⟨by simp[cX,hg],x,m,hc,rfl,rfl⟩⟩,h2⟩
theorem xg{P:Program}{ops:Array Oper}:∀{l1 l2:List (Nat×Kind)} {σ τ ρ:St},eJ P ops l1 σ τ->eJ P ops l2 τ ρ->eJ P ops (l1++l2) σ ρ
 | [],_,_,_,_,h1,h2=>h2.same h1.symm
 | _::_,_,_,_,_,⟨fN,h,h1⟩,h2=>⟨fN,h,xg h1 h2⟩
theorem xh{P:Program}{ops all:Array Oper}{k:Nat}(hk:∀i o,ops[i]?=some o->all[k+i]?=some o)(hg:∀o∈all.toList,o.guard=none):∀{l:List (Nat×Kind)} {σ τ:St},eJ P ops l σ τ->eJ P all (l.map fun p=>(k+p.1,p.2)) σ τ
 | [],_,_,h=>h
 | (i,q)::r,_,_,h=>by
  obtain⟨fN,⟨o,ho,h1⟩,h2⟩:=h;refine⟨fN,⟨o,hk i o ho,?_⟩,xh hk hg h2⟩;have iT:=hk i o ho;have zX:o.guard=none:=hg o (by
   rw[<-Array.getElem?_toList]at iT;exact List.mem_of_getElem? iT)
  have w1:∀(a:Array Oper) (σ:St),cX a o σ=some true:=fun a σ=>by simp[cX,zX]
  rcases h1 with⟨_,h1⟩|⟨h1,_⟩
  ·exact .inl ⟨w1 _ _,h1⟩
  rw[w1]at h1;cases h1
theorem z'.Vc{P:Program}{aT:eh}(md:Md)(hT:b7 P aT){all l1:List Oper}{k:Nat}{σ:St}{ks:List Kind}{R:St->List Kind->Prop}(n:Nat)(h1:(all.drop k).take n=l1)(hn:l1.length=n)(hg:∀o∈all,o.guard=none)
  (h:fq P aT md l1 0 [] σ [] fun τ xJ=>z' P all (k+n) τ (ks++xJ.reverse) R):z' P all k σ ks R:=by
 obtain⟨τ,xJ,c1,n1,ρ,Pp,h3,c2,hR⟩:=dW (all:=l1.toArray) hT l1 0 [] σ [] (fun j=>by simp) (fun j t hj=>by simp[iR]at hj) h;have hl:k+n<=all.length:=by
  have:l1.length<=all.length-k:=by rw[<-h1,List.length_take,List.length_drop];omega
  by_cases hz:n=0
  ·omega
  omega
 have d1:=xh (all:=all.toArray) (k:=k) (fun i o hi=>by
  have ia:l1[i]?=some o:=by simpa using hi
  rw[<-h1,List.getElem?_take]at ia;split at ia
  ·rw[List.getElem?_drop]at ia;simpa using ia
  cases ia) (by simpa using hg) c1
 refine⟨ρ,xJ++Pp,by rw[List.length_append];omega,?_,by simpa using hR⟩;rw[List.zipIdx_append,List.map_append];have e1:(xJ.zipIdx k).map (fun p=>(p.2,p.1))=((xJ.zipIdx 0).map fun p=>(p.2,p.1)).map fun p=>(k+p.1,p.2):=by
  apply List.ext_getElem?;intro i;simp only[List.getElem?_map,List.getElem?_zipIdx];cases xJ[i]?<;>simp
 rw[e1];refine xg d1 ?_;rw[show k+xJ.length=k+n by omega];exact c2
theorem Ct{P:Program}{kb:Nat}(hm:P.follows .mixedOrders=true){id:Nat}{l:List Oper}{draw:Bool}{Q:dR->St->Prop}{σ:St}
  (h:z' P l 0 σ [] fun τ ks=>iV draw (fun _=>fC l.toArray ks)∧At τ (Q .norm)):cn P kb (.region id l.toArray draw) Q σ:=by
 obtain⟨τ,ks,h1,h2,h3,h4⟩:=h;intro base a g hb hr;have qt:eJ P l.toArray ((List.range l.toArray.size).map fun i=>(i,ks.getD i .write)) σ τ:=by
  have e:(ks.zipIdx 0).map (fun p=>(p.2,p.1))=(List.range l.toArray.size).map fun i=>(i,ks.getD i .write):=by
   apply List.ext_getElem?;intro i;simp only[List.getElem?_map];have hlen:ks.length=l.toArray.size:=by simpa using h1
   by_cases hi:i<l.toArray.size
   ·have ia:i<ks.length:=by omega
    rw[List.getElem?_range hi];simp[ia]
   rw[List.getElem?_eq_none (by simp only[List.length_zipIdx];omega),List.getElem?_eq_none (by simp only[List.length_range];omega)];rfl
  rw[<-e];exact h2
 cases draw with
 | false=>exact lW qt hr fun a g z8=>⟨g,τ,rfl,z8,h4⟩
 | true =>
  have hB:=h3 rfl;simp only[List.nil_append]at hB;exact nq hm hB qt hr fun a g z8=>⟨g,τ,rfl,z8,h4⟩
end Go.Av
namespace Go.Proofs.YtjdnhamngpafmaaGreat
open Go.Av
def UL(f:Func)(O:List Int)(N:Nat)(r:List ae):List ai:=[.gone,.gone,.cells r,.cells (O.map aI),.cells ((gm f).map aI),.cells [.ms 3 0 N N,.ms 4 0 N N]]
theorem AE(f:Func)(O:List Int)(N:Nat)(r:List ae)(hr:av 6 r):∀o∈UL f O N r,o.upto 6:=by
 intro o ho;simp only[UL,List.mem_cons,List.not_mem_nil,or_false]at ho;rcases ho with rfl|rfl|rfl|rfl|rfl|rfl
 ·trivial
 ·trivial
 ·exact hr
 ·exact ax _ _
 ·exact ax _ _
 exact⟨show 3<6 by omega,show 4<6 by omega,trivial⟩
theorem oH(n:Nat):(List.replicate n [ae.v (.int .i64 0)]).flatten=(List.replicate n 0).map aI:=by
 induction n with
 | zero=>rfl
 | succ n ih=>rw[List.replicate_succ,List.flatten_cons,ih,List.replicate_succ];rfl
theorem tZ{l:List Int}{j:Nat}(h:j<l.length)(b:Int):bp (l.map aI) j [.v (.int .i64 b)]=(l.set j b).map aI:=by
 rw[fK _ (by simpa using h),List.map_set]
theorem AO{k n:Nat}{l:List Int}{x y:Int}(hl:l.length=k)(hk:k<n):(l++List.replicate (n-k) x).set k y=(l++[y])++List.replicate (n-(k+1)) x:=by
 rw[List.set_append_right _ _ (by omega),hl,Nat.sub_self,show n-k=(n-(k+1))+1 by omega,List.replicate_succ,List.set_cons_zero,List.append_assoc];rfl
theorem AA(f:Func)(bJ:f.fit)(hc:aN f=0) :
  bh Tryz.prog 92 [.gone] [f.enc] (fun r O'=>r=.cx [.agg [.ms 3 0 f.blocks.length f.blocks.length,.ms 4 0 f.blocks.length f.blocks.length],aI 0]∧O'=UL f (dn f) f.blocks.length [.ms 3 0 f.blocks.length f.blocks.length,.ms 4 0 f.blocks.length f.blocks.length]):=by
 have Ln:=vi f bJ;have kc:=vu f bJ;unfold y8 at Ln;unfold zk at kc;rw[if_pos hc]at Ln kc;have hg:=(cA bJ hc).gr;have hw:=cE hg;have hn:f.blocks.length<=128:=hg.few;obtain⟨R,hR⟩:∃R,R=dn f:=⟨_,rfl⟩
 rw[<-hR];unfold dn at hR;obtain⟨N,hN⟩:∃N,N=f.blocks.length:=⟨_,rfl⟩
 have ik:[ai.gone].length<=6:=by simp
 have tQ:=hw.pos;have WD:=hw.few;have Vy:((bx f).length:Int) ≥ 1:=by omega
 rw[<-hN];have Yr:(gm f).length=N:=by simp[gm,hN]
 refine fo hT true (6) Tryz.func92 rfl (by kernel_rfl) (by simp[Tryz.ntmps92]) (by assumption) ?_;show cn Tryz.prog _ _ _ ⟨116,_,_⟩;dsimp only[Tmp,TypeId,slotsOf];refine az (ah ?_);refine aC 1 1 (.ip none [aI f.name,aw f.blocks]) rfl (by simp[ai.aD]) trivial rfl ?_ ?_;rotate_left;simp -dsimp only[simprocAttr,↓aa,zp]
 ·refine az ?_;refine zi Ln ?_;refine ah ?_;refine ck (ah ?_);apply aP rfl<;>intro h
  ·cases h
  refine ct ?_;refine az ?_;refine zi kc ?_;refine ah ?_;refine Aj 3 ?_;show cn Tryz.prog _ _ _ ⟨_,_,[.gone,.gone,.cells [.aB 1 [] .ex,.aB 1 [] .ex],.spare 0,.spare 0,.spare 0]⟩;refine aG (Ct hm (z'.Vc ⟨false,false⟩ hT 3 rfl rfl (by simp) ?_));simp -dsimp only[simprocAttr,↓aa,zp,<-hN];refine z'.op rfl rfl (ln hT (id:=3) rfl (by simp) Ed rfl Kr rfl rfl (by omega) (by simp;omega) (by omega) (by decide) rfl) ?_;simp -dsimp only[simprocAttr,↓aa,zp,oH];refine z'.Vc ⟨false,false⟩ hT 3 rfl rfl (by simp) ?_;simp -dsimp only[simprocAttr,↓aa,zp,<-hN];refine z'.op rfl rfl (ln hT (id:=4) rfl (by simp) Ed rfl Kr rfl rfl (by omega) (by simp;omega) (by omega) (by decide) rfl) ?_;simp -dsimp only[simprocAttr,↓aa,zp,oH];refine z'.Vc ⟨false,false⟩ hT 1 rfl rfl (by simp) ?_;simp -dsimp only[simprocAttr,↓aa,zp];refine z'.op rfl rfl (wj hT (id:=5) rfl (by simp) FC rfl) ?_;simp -dsimp only[simprocAttr,↓aa,zp];refine z'.Vc ⟨false,false⟩ hT 1 rfl rfl (by simp) ?_;simp -dsimp only[simprocAttr,↓aa,zp];refine z'.fin rfl ⟨ob (by kernel_rfl),?_⟩;refine ah ?_;refine ck (ah ?_);refine ag (aM (ι:={k:Nat // k<=N}) (fun k=>⟨116,[(1,.ip none [aI f.name,aw f.blocks]),(2,.mp 2 0),(4,a7 (bx f)),(6,.aB 1 ((eI f).map a7) .sh),(8,.mp 5 0),(41,aI N),(42,aI k.1)],[.gone,.gone,.cells [.aB 1 [] .ex,.aB 1 [] .ex],.cells ((List.replicate k.1 (-1)++List.replicate (N-k.1) 0).map aI),.cells (((gm f).take k.1++List.replicate (N-k.1) 0).map aI),.cells [.ms 3 0 N N,.ms 4 0 N N]]⟩) (fun k=>N-k.1) ⟨0,by omega⟩ ?_ ?_)
  ·refine zq rfl ?_ ?_;simp -dsimp only[simprocAttr,↓aa,zp,zc]
   all_goals rfl
  rintro⟨k,hk⟩;refine az (ah ?_);apply ic rfl<;>intro h
  ·refine ct ?_;have a8:k<N:=by simpa using h
   have Ja:=pZ (bx f) (k:Int);have Dn:bp ((List.replicate k (-1)++List.replicate (N-k) 0).map aI) k [.v (.int .i64 (-1))]=(List.replicate (k+1) (-1)++List.replicate (N-(k+1)) 0).map aI:=by
    rw[tZ (by simp;omega),AO (by simp) a8,<-List.replicate_succ']
   have lx:((gm f).take k).length=k:=by rw[List.length_take];omega
   have wI:=qg (f:=f) (k:=(k:Int)) (by omega) (by omega);rw[Int.toNat_natCast]at wI;have WO:bp (((gm f).take k++List.replicate (N-k) 0).map aI) k [.v (.int .i64 (nX (bx f) k))]=((gm f).take (k+1)++List.replicate (N-(k+1)) 0).map aI:=by
    rw[tZ (by simp;omega),AO lx a8,List.take_add_one,wI];rfl
   refine aG (ag ?_);refine az (ah ?_);refine cC ?_;refine .inl ⟨_,Ja,by simp only[av,ae.upto,zt,zu,ax],ao ?_⟩;simp -dsimp only[simprocAttr,↓aa,zp,Dn,WO,Int.toNat_natCast,Nat.mul_one];refine⟨by omega,by simp;omega,by omega,by simp;omega,?_⟩;refine⟨ob (by kernel_rfl),?_⟩;refine ah ?_;refine cC ?_
   repeat(refine⟨by omega,?_⟩)
   refine eX ?_;refine⟨⟨k+1,a8⟩,by simp;omega,?_⟩;refine zq rfl ?_ ?_;simp -dsimp only[simprocAttr,↓aa,zp,zc]
   ·exact Sub.int (by simp)
   rfl
  refine aF ?_;simp -dsimp only[bF,ne_eq,Nat.reduceEqDiff,reduceCtorEq];have ik:k=N:=by simp at h;omega
  subst ik;have e1:List.replicate k (-1:Int)++List.replicate (k-k) 0=(CR f).over:=by simp[CR,hN]
  have e2:(gm f).take k++List.replicate (k-k) 0=gm f:=by
   rw[List.take_of_length_le (by omega),Nat.sub_self,List.replicate_zero,List.append_nil]
  rw[e1,e2];have OG:=CS hw;have hW0:=uK hn;have SL:((bx f).map aI).drop 1=((bx f).drop 1).map aI:=by rw[List.map_drop]
  have qq:∀(j:Nat) z,((bx f).drop 1)[j]?=some z->cP f z=((1+j:Nat):Int):=fun j z hj=>by
   rw[List.getElem?_drop]at hj;exact hw.at_ _ _ hj
  obtain⟨L1,PW⟩:∃L1,L1=(bx f).drop 1:=⟨_,rfl⟩
  have Zi:L1.length<=128:=by rw[PW,List.length_drop];omega
  rw[<-PW]at SL qq;refine ck (ah ?_);refine ag (aM (ι:={x:Dm×Nat // kX f 1 x.1.over∧R=(EA f x.2 x.1).over∧(x.1.again=true->x.1.weight f<x.2)}) (fun x=>⟨116,[(1,.ip none [aI f.name,aw f.blocks]),(2,.mp 2 0),(4,a7 (bx f)),(6,.aB 1 ((eI f).map a7) .sh),(8,.mp 5 0),(10,.v (.bool x.1.1.again))],[.gone,.gone,.cells [.aB 1 [] .ex,.aB 1 [] .ex],.cells (x.1.1.over.map aI),.cells ((gm f).map aI),.cells [.ms 3 0 k k,.ms 4 0 k k]]⟩) (fun x=>x.1.1.weight f+if x.1.1.again then 1 else 0) ⟨(CR f,30000),OG,hR,fun _=>by simp only;omega⟩ ?_ ?_)
  ·refine zq rfl ?_ ?_;simp -dsimp only[simprocAttr,↓aa,zp,zc]
   all_goals first|rfl|exact Sub.refl _
  rintro⟨⟨S,q⟩,IY,Mi,QL⟩;simp only at IY Mi QL;refine ck (ah ?_);apply aP rfl<;>intro h
  ·refine ct ?_;have nh:S.again=true:=h;have QL:=QL nh;obtain⟨q,rfl⟩:∃q',q=q'+1:=⟨q-1,by omega⟩
   have IX:R=(EA f q (HA f ⟨S.over,false⟩)).over:=by
    rw[Mi];simp[EA,nh]
   have T7:=CQ hg hw (S:=⟨S.over,false⟩) IY;obtain⟨S1,PZ⟩:∃S1,S1=HA f ⟨S.over,false⟩:=⟨_,rfl⟩
   rw[<-PZ]at IX T7;obtain⟨Xk,Xl,Q1,_⟩:=T7;have Sa:(⟨S.over,false⟩:Dm).weight f=S.weight f:=rfl;rw[Sa]at Xl Q1;unfold HA at PZ;rw[<-PW]at PZ;refine ag ?_;refine az (ah ?_);refine aU ?_;simp -dsimp only[simprocAttr,↓aa,zp,SL]
   repeat(refine⟨by omega,?_⟩)
   refine ah ?_;refine ag (aM (ι:={y:Nat×Dm // y.1<=L1.length∧kX f (1+y.1:Nat) y.2.over∧S1=(L1.drop y.1).foldl (eG f) y.2}) (fun y=>⟨116,[(1,.ip none [aI f.name,aw f.blocks]),(2,.mp 2 0),(4,a7 (bx f)),(6,.aB 1 ((eI f).map a7) .sh),(8,.mp 5 0),(10,.v (.bool y.1.2.again)),(59,a7 L1),(60,aI L1.length),(61,aI y.1.1)],[.gone,.gone,.cells [.aB 1 [] .ex,.aB 1 [] .ex],.cells (y.1.2.over.map aI),.cells ((gm f).map aI),.cells [.ms 3 0 k k,.ms 4 0 k k]]⟩) (fun y=>L1.length-y.1.1) ⟨(0,⟨S.over,false⟩),by simp,IY,PZ⟩ ?_ ?_)
   ·refine zq rfl ?_ ?_;simp -dsimp only[simprocAttr,↓aa,zp,zc]
    all_goals rfl
   rintro⟨⟨y,T⟩,hy,Gc,xv⟩;simp only at hy Gc xv;refine az (ah ?_);apply ic rfl<;>intro h
   ·refine ct ?_;have a8:y<L1.length:=by simpa using h
    obtain⟨z,hz⟩:∃z,L1[y]?=some z:=⟨L1[y],by simp[a8]⟩
    have hpz:=qq y z hz;have xH:=hw.range z (by omega);have dG:=rY hg hw Gc hpz (by omega);rw[bA hz,List.foldl_cons]at xv;have hTl:=Gc.tr.len;obtain⟨ps,mO⟩:∃ps,(eI f)[z.toNat]?=some ps:=⟨(eI f)[z.toNat]'(by rw[x8];omega),List.getElem?_eq_getElem _⟩
    have qv:bB f z=ps:=by simp[bB,mO]
    have WI:∀p∈ps,0<=p∧p<f.blocks.length:=fun p hp=>(kz hg xH.1 (by rw[qv];exact hp)).1;obtain⟨o,ho⟩:∃o,T.over[z.toNat]?=some o:=⟨T.over[z.toNat]'(by omega),List.getElem?_eq_getElem _⟩
    have hoz:dP T.over z=o:=by simp[dP,ho]
    obtain⟨NX,VD⟩:∃NX,NX=il (gm f) T.over ps:=⟨_,rfl⟩
    have bG:eG f T z=if NX≠o then⟨T.over.set z.toNat NX,true⟩else T:=by
     unfold eG;rw[qv,hoz,<-VD]
    unfold il at VD;refine aG (ag ?_);refine aU ?_;simp -dsimp only[simprocAttr,↓aa,zp,hz];refine ah ?_;refine az (ah ?_);refine cK ?_;simp -dsimp only[simprocAttr,↓aa,zp,mO]
    repeat(refine⟨by omega,?_⟩)
    refine ah ?_;refine fh 68 rfl (fun WE=>?_);simp only[List.length_map]at WE;refine ag (aM (ι:={w:Nat×Int // w.1<=ps.length∧(w.2=-1∨j4 T.over w.2)∧NX=(ps.drop w.1).foldl (cU (gm f) T.over) w.2}) (fun w=>⟨116,[(1,.ip none [aI f.name,aw f.blocks]),(2,.mp 2 0),(4,a7 (bx f)),(6,.aB 1 ((eI f).map a7) .sh),(8,.mp 5 0),(10,.v (.bool T.again)),(59,a7 L1),(60,aI L1.length),(61,aI y),(12,aI z),(13,aI w.1.2),(68,a7 ps),(69,aI ps.length),(70,aI w.1.1)],[.gone,.gone,.cells [.aB 1 [] .ex,.aB 1 [] .ex],.cells (T.over.map aI),.cells ((gm f).map aI),.cells [.ms 3 0 k k,.ms 4 0 k k]]⟩) (fun w=>ps.length-w.1.1) ⟨(0,-1),by simp,.inl rfl,VD⟩ ?_ ?_)
    ·refine zq rfl ?_ ?_;simp -dsimp only[simprocAttr,↓aa,zp,zc]
     all_goals rfl
    rintro⟨⟨w,acc⟩,tF,r6,tR⟩;simp only at tF r6 tR;refine az (ah ?_);apply ic rfl<;>intro h
    ·refine ct ?_;have TJ:w<ps.length:=by simpa using h
     obtain⟨p,hp⟩:∃p,ps[w]?=some p:=⟨ps[w],by simp[TJ]⟩
     have MI:=WI p (List.mem_of_getElem? hp);have X2:=qg MI.1 MI.2;have Gh:=tY X2;obtain⟨x,hx⟩:∃x,T.over[p.toNat]?=some x:=⟨T.over[p.toNat]'(by omega),List.getElem?_eq_getElem _⟩
     have YE:dP T.over p=x:=by simp[dP,hx]
     have QO:=tY hx;rw[bA hp,List.foldl_cons]at tR;obtain⟨nx,EU⟩:∃nx,nx=cU (gm f) T.over acc p:=⟨_,rfl⟩
     have TP:nx=-1∨j4 T.over nx:=by
      rcases oS hw Gc.tr [p] acc (by simpa using MI) r6 with⟨a,_⟩|⟨a,_⟩
      ·exact .inl (EU.trans a)
      exact .inr (EU ▸ a)
     rw[<-EU]at tR;have Qv:=oo hw Gc.tr MI;have Tj:dP (gm f) p=cP f p:=by simp[dP,X2]
     rw[Tj,YE]at Qv;have Qw:cU (gm f) T.over acc p=if cP f p<0∨(p≠0∧x<0)then acc else if acc<0 then p else iM (gm f) T.over 300 acc p:=by
      unfold cU;rw[Tj,YE]
     refine km (⟨116,[(1,.ip none [aI f.name,aw f.blocks]),(2,.mp 2 0),(4,a7 (bx f)),(6,.aB 1 ((eI f).map a7) .sh),(8,.mp 5 0),(10,.v (.bool T.again)),(59,a7 L1),(60,aI L1.length),(61,aI y),(12,aI z),(13,aI nx),(68,a7 ps),(69,aI ps.length),(70,aI w)],[.gone,.gone,.cells [.aB 1 [] .ex,.aB 1 [] .ex],.cells (T.over.map aI),.cells ((gm f).map aI),.cells [.ms 3 0 k k,.ms 4 0 k k]]⟩) ?_ ?_
     ·refine ag ?_;refine aU ?_;simp -dsimp only[simprocAttr,↓aa,zp,hp];refine ah ?_;refine ag ?_;by_cases hA:j4 T.over p
      ·have Qm:=fun q=>Qv.1 q hA;have OE:decide (cP f p<0)=false:=decide_eq_false fun q=>Qm (.inl q);rw[if_neg Qm]at Qw;have AY:p=0∨(p≠0∧¬x<0):=by
        by_cases e:p=0
        ·exact .inl e
        exact .inr ⟨e,fun q=>Qm (.inr ⟨e,q⟩)⟩
       rcases r6 with SQ|SQ
       ·have OK:decide (acc<0)=true:=decide_eq_true (by omega);rw[if_pos (by omega)]at Qw;rw[Qw]at EU;rcases AY with B6|⟨B6,Dr⟩
        ·have ni:decide (p=0)=true:=decide_eq_true B6;refine aU ?_;simp -dsimp only[simprocAttr,↓aa,zp,Gh,OE,ni,Int.toNat_natCast,Nat.mul_one]
         repeat(refine⟨by omega,?_⟩)
         refine ah ?_;refine cm rfl ?_;refine aU ?_;simp -dsimp only[simprocAttr,↓aa,zp,OK];refine ah ?_;refine cY rfl ?_;refine fE hT hm ?_;simp -dsimp only[simprocAttr,↓aa,zp];refine aV ?_;show bj _ _;refine zq rfl ?_ ?_;simp -dsimp only[simprocAttr,↓aa,zp,zc]
         all_goals first|rfl|exact Sub.int (by omega)
        have ni:decide (p=0)=false:=decide_eq_false B6;have kW:decide (x<0)=false:=decide_eq_false Dr;refine aU ?_;simp -dsimp only[simprocAttr,↓aa,zp,Gh,OE,ni,kW,QO,Int.toNat_natCast,Nat.mul_one]
        repeat(refine⟨by omega,?_⟩)
        refine ah ?_;refine cm rfl ?_;refine aU ?_;simp -dsimp only[simprocAttr,↓aa,zp,OK];refine ah ?_;refine cY rfl ?_;refine fE hT hm ?_;simp -dsimp only[simprocAttr,↓aa,zp];refine aV ?_;show bj _ _;refine zq rfl ?_ ?_;simp -dsimp only[simprocAttr,↓aa,zp,zc]
        all_goals first|rfl|exact Sub.int (by omega)
       have Zy:=SQ.nn hw Gc.tr;have OK:decide (acc<0)=false:=decide_eq_false (by omega);rw[if_neg (by omega)]at Qw;rw[Qw]at EU;have Jg:=GP (O:=[.gone,.gone,.cells [.aB 1 [] .ex,.aB 1 [] .ex],.cells (T.over.map aI),.cells ((gm f).map aI),.cells [.ms 3 0 k k,.ms 4 0 k k]]) (by
        have:=AE f T.over k [.aB 1 [] .ex,.aB 1 [] .ex] (by simp[av,ae.upto]);exact this) (A:=3) (B:=4) (N:=k) hw rfl rfl hN Gc.tr SQ hA
       rw[<-EU]at Jg;rcases AY with B6|⟨B6,Dr⟩
       ·have ni:decide (p=0)=true:=decide_eq_true B6;refine aU ?_;simp -dsimp only[simprocAttr,↓aa,zp,Gh,OE,ni,Int.toNat_natCast,Nat.mul_one]
        repeat(refine⟨by omega,?_⟩)
        refine ah ?_;refine cm rfl ?_;refine aU ?_;simp -dsimp only[simprocAttr,↓aa,zp,OK];refine ah ?_;refine cm rfl ?_;refine fE hT hm ?_;simp -dsimp only[simprocAttr,↓aa,zp];refine .inr (.inr ⟨_,Jg,ao (zj ?_)⟩);refine aV ?_;show bj _ _;refine zq rfl ?_ ?_;simp -dsimp only[simprocAttr,↓aa,zp,zc]
        all_goals rfl
       have ni:decide (p=0)=false:=decide_eq_false B6;have kW:decide (x<0)=false:=decide_eq_false Dr;refine aU ?_;simp -dsimp only[simprocAttr,↓aa,zp,Gh,OE,ni,kW,QO,Int.toNat_natCast,Nat.mul_one]
       repeat(refine⟨by omega,?_⟩)
       refine ah ?_;refine cm rfl ?_;refine aU ?_;simp -dsimp only[simprocAttr,↓aa,zp,OK];refine ah ?_;refine cm rfl ?_;refine fE hT hm ?_;simp -dsimp only[simprocAttr,↓aa,zp];refine .inr (.inr ⟨_,Jg,ao (zj ?_)⟩);refine aV ?_;show bj _ _;refine zq rfl ?_ ?_;simp -dsimp only[simprocAttr,↓aa,zp,zc]
       all_goals rfl
      have Qm:=Qv.2 hA;rw[if_pos Qm]at Qw;rw[Qw]at EU;subst EU;by_cases T2:cP f p<0
      ·have OE:decide (cP f p<0)=true:=decide_eq_true T2;refine aU ?_;simp -dsimp only[simprocAttr,↓aa,zp,Gh,OE,Int.toNat_natCast,Nat.mul_one]
       repeat(refine⟨by omega,?_⟩)
       refine ah ?_;refine cY rfl ?_;refine ba ?_;show bj _ _;refine zq rfl ?_ ?_;simp -dsimp only[simprocAttr,↓aa,zp,zc]
       all_goals rfl
      have OE:decide (cP f p<0)=false:=decide_eq_false T2;have ni:decide (p=0)=false:=decide_eq_false fun e=>hA (.inl e);have kW:decide (x<0)=true:=decide_eq_true (by omega);refine aU ?_;simp -dsimp only[simprocAttr,↓aa,zp,Gh,OE,ni,kW,QO,Int.toNat_natCast,Nat.mul_one]
      repeat(refine⟨by omega,?_⟩)
      refine ah ?_;refine cY rfl ?_;refine ba ?_;show bj _ _;refine zq rfl ?_ ?_;simp -dsimp only[simprocAttr,↓aa,zp,zc]
      all_goals rfl
     refine cC ?_
     repeat(refine⟨by omega,?_⟩)
     refine eX ?_;refine⟨⟨(w+1,nx),TJ,TP,tR⟩,by simp;omega,?_⟩;refine zq rfl ?_ ?_;simp -dsimp only[simprocAttr,↓aa,zp,zc]
     all_goals first|rfl|exact Sub.refl _
    refine aF ?_;simp -dsimp only[bF,ne_eq,Nat.reduceEqDiff,reduceCtorEq];have Vb:w=ps.length:=by simp at h;omega
    subst Vb;rw[List.drop_length,List.foldl_nil]at tR;subst tR;have R3:=tY ho;have lP:=tZ (l:=T.over) (j:=z.toNat) (by omega) NX;by_cases bD:NX=o
    ·have vU:decide (NX=o)=true:=decide_eq_true bD;rw[if_neg (by simp[bD])]at bG;rw[bG]at dG xv;refine aU ?_;simp -dsimp only[simprocAttr,↓aa,zp,R3,vU,Nat.mul_one]
     repeat(refine⟨by omega,?_⟩)
     refine ah ?_;refine cm rfl ?_;refine lX ?_;refine cC ?_
     repeat(refine⟨by omega,?_⟩)
     refine eX ?_;refine⟨⟨(y+1,T),a8,by rw[show((1+(y+1):Nat):Int)=((1+y:Nat):Int)+1 by omega];exact dG.1,xv⟩,by simp;omega,?_⟩;refine zq rfl ?_ ?_;simp -dsimp only[simprocAttr,↓aa,zp,zc]
     all_goals first|rfl|exact Sub.refl _
    have vU:decide (NX=o)=false:=decide_eq_false bD;rw[if_pos bD]at bG;rw[bG]at dG xv;refine aU ?_;simp -dsimp only[simprocAttr,↓aa,zp,R3,vU,Nat.mul_one]
    repeat(refine⟨by omega,?_⟩)
    refine ah ?_;refine cY rfl ?_;refine jD ?_;simp -dsimp only[simprocAttr,↓aa,zp,lP,Nat.mul_one]
    repeat(refine⟨by omega,?_⟩)
    refine ah ?_;refine cC ?_
    repeat(refine⟨by omega,?_⟩)
    refine eX ?_;refine⟨⟨(y+1,⟨T.over.set z.toNat NX,true⟩),a8,by rw[show((1+(y+1):Nat):Int)=((1+y:Nat):Int)+1 by omega];exact dG.1,xv⟩,by simp;omega,?_⟩;refine zq rfl ?_ ?_;simp -dsimp only[simprocAttr,↓aa,zp,zc]
    all_goals first|rfl|exact Sub.refl _
   refine aF ?_;simp -dsimp only[bF,ne_eq,Nat.reduceEqDiff,reduceCtorEq];have Xa:y=L1.length:=by simp at h;omega
   subst Xa;rw[List.drop_length,List.foldl_nil]at xv;subst xv;have A6:S1.again=true->S1.weight f<q:=fun hh=>by
    rcases Q1 hh with r|r
    ·cases r
    omega
   refine⟨⟨(S1,q),pR hw Xk,IX,A6⟩,?_,?_⟩
   ·simp only[nh,if_true];cases Dn:S1.again
    ·simp;omega
    rcases Q1 Dn with r|r
    ·cases r
    simp;omega
   refine zq rfl ?_ ?_;simp -dsimp only[simprocAttr,↓aa,zp,zc]
   all_goals rfl
  refine aF ?_;simp -dsimp only[bF,ne_eq,Nat.reduceEqDiff,reduceCtorEq];have nh:S.again=false:=h;rw[AD nh]at Mi;subst Mi;refine az ?_
  repeat(refine⟨by omega,?_⟩)
  refine ah ?_;refine aq ?_;simp -dsimp only[simprocAttr,↓aa,zp,zr,Tryz.results92];exact⟨AE f S.over k [.ms 3 0 k k,.ms 4 0 k k] ⟨show 3<6 by omega,show 4<6 by omega,trivial⟩,⟨⟨show 3<6 by omega,show 4<6 by omega,trivial⟩,trivial,trivial⟩,rfl⟩
 exact bY.mp rfl rfl

theorem Hs(f:Func)(bJ:f.fit)(hc:aN f=0):bq Tryz.prog 62 [f.enc] (.cx [a7 (dn f),aI 0]):=by
 have hb:=AA f bJ hc;have hg:=(cA bJ hc).gr;have hl:=(kg hg).tr.len;unfold UL at hb;generalize dn f=O at *;obtain⟨N,hN⟩:∃N,N=f.blocks.length:=⟨_,rfl⟩
 rw[<-hN]at hb hl;refine zf true 0 Tryz.func62 Tryz.ntmps62 ?_;dsimp only[Tmp,TypeId,slotsOf];refine az (ah ?_);refine aC 1 0 (.ip none [aI f.name,aw f.blocks]) rfl (by simp[ai.aD]) trivial rfl ?_ ?_;rotate_left;simp -dsimp only[simprocAttr,↓aa,zp]
 ·refine az ?_;refine .inr (.inl ⟨_,_,hb,.inl (ao (zj ?_))⟩);refine ah ?_;refine az (ah ?_);refine aC 2 3 (o:=.cells (O.map aI)) (a7 O) rfl (by simp[ai.aD]) trivial rfl (bY.ms (cs:=O.map aI) rfl (fun x hx=>by obtain⟨v,_,rfl⟩:=List.mem_map.1 hx;rfl) (by simpa using hl) (by rw[List.drop_zero,List.take_of_length_le (by simp;omega),jF])) ?_;simp -dsimp only[simprocAttr,↓aa,zp];refine aq ?_;simp -dsimp only[simprocAttr,↓aa,zp,zr,Tryz.results62];exact⟨⟨ax _ _,trivial⟩,trivial,trivial⟩
 exact bY.mp rfl rfl
theorem DE{f:Func}(hw:gg f){ov:List Int}(ht:Tr f ov){a b:Int}(ha:0<=a)(hb:j4 ov b):bq Tryz.prog 63 [a7 ov,aI a,aI b] (.v (.bool (ph ov a b))):=by
 obtain⟨R,hR⟩:∃R,R=ph ov a b:=⟨_,rfl⟩
 rw[<-hR];refine zf true 0 Tryz.func63 Tryz.ntmps63 ?_;dsimp only[Tmp,TypeId,slotsOf];refine az (ah ?_);refine aG (ag (aM (ι:={x:Int // (j4 ov x∧R=ph ov a x)∨(x=-1∧R=false)}) (fun x=>⟨21,[(0,a7 ov),(1,aI a),(2,aI x.1)],[]⟩) (fun x=>if 0<=x.1 then(cP f x.1).toNat+1 else 0) ⟨b,.inl ⟨hb,hR⟩⟩ ?_ ?_))
 ·refine zq rfl ?_ ?_;simp -dsimp only[simprocAttr,↓aa,zp,zc];rfl
 rintro⟨x,hx⟩;rcases hx with⟨yV,UP⟩|⟨EY,UP⟩
 ·have Dr:=yV.nn hw ht;have ni:decide (0<=x)=true:=decide_eq_true Dr;have hpx:=ht.v7 hw yV;have Ju:=hw.range x hpx;by_cases xG:x=a
  ·have kW:decide (x=a)=true:=decide_eq_true xG;have ZL:decide (a=x)=true:=decide_eq_true xG.symm;have Zs:R=true:=by rw[UP,xG];exact FK hw ht (xG ▸ yV)
   refine cK ?_;simp -dsimp only[simprocAttr,↓aa,zp,ni,kW];refine ah ?_;refine cm rfl ?_;refine aF ?_;simp -dsimp only[bF,ne_eq,Nat.reduceEqDiff,reduceCtorEq];refine aU ?_;simp -dsimp only[simprocAttr,↓aa,zp,ZL];refine ah ?_;rw[Zs];refine aq ?_;simp -dsimp only[simprocAttr,↓aa,zp,zr,Tryz.results63]
  have kW:decide (x=a)=false:=decide_eq_false xG;obtain⟨y,hy⟩:∃y,ov[x.toNat]?=some y:=⟨ov[x.toNat]'(by rw[ht.len];omega),List.getElem?_eq_getElem _⟩
  have MM:dP ov x=y:=by simp[dP,hy]
  have dG:=HT hw ht yV xG;rw[MM,<-UP]at dG;refine cK ?_;simp -dsimp only[simprocAttr,↓aa,zp,ni,kW];refine ah ?_;refine cY rfl ?_;refine ct ?_;refine ag ?_;refine jD ?_;simp -dsimp only[simprocAttr,↓aa,zp,hy]
  repeat(refine⟨by omega,?_⟩)
  refine RA ?_;rcases dG with⟨s1,s2,s3,s4⟩|⟨s1,s2⟩
  ·refine⟨⟨y,.inl ⟨s2,s4⟩⟩,by simp only;rw[if_pos s1,if_pos Dr];have:=ht.v7 hw s2;omega,?_⟩;refine zq rfl ?_ ?_;simp -dsimp only[simprocAttr,↓aa,zp,zc];rfl
  refine⟨⟨y,.inr ⟨s1,s2⟩⟩,by simp only;rw[if_neg (by omega),if_pos Dr];omega,?_⟩;refine zq rfl ?_ ?_;simp -dsimp only[simprocAttr,↓aa,zp,zc];rfl
 have ni:decide (0<=x)=false:=decide_eq_false (by omega);have kW:decide (a=x)=false:=decide_eq_false (by omega);refine cK ?_;simp -dsimp only[simprocAttr,↓aa,zp,ni];refine ah ?_;refine cm rfl ?_;refine aF ?_;simp -dsimp only[bF,ne_eq,Nat.reduceEqDiff,reduceCtorEq];refine aU ?_;simp -dsimp only[simprocAttr,↓aa,zp,kW];refine ah ?_;rw[UP];refine aq ?_;simp -dsimp only[simprocAttr,↓aa,zp,zr,Tryz.results63]
def tv(p:Int×Int):ae:=.agg [aI p.1,aI p.2]
theorem c9(n:Nat)(l:List (Int×Int)):av n (l.map tv):=by
 rw[aQ];intro x hx;obtain⟨p,_,rfl⟩:=List.mem_map.1 hx;exact⟨trivial,trivial,trivial⟩
def ug(f:Func)(k:Int)(l:List Edge):List (Int×Int):=(l.filter fun x=>ph (dn f) x.block k).map fun x=>(k,x.block)
theorem Cu{f:Func}{k:Int}{x:Edge}{l:List Edge}:ug f k (x::l)=if ph (dn f) x.block k then(k,x.block)::ug f k l else ug f k l:=by
 unfold ug;cases h:ph (dn f) x.block k<;>simp[h]
def Ak(f:Func):ae:=if aN f=0 then .cx [.aB 2 ((dd f).map tv) .sh,aI 0]else .cx [.aB 2 [] .sh,aI (aN f)]
theorem pJ(f:Func)(bJ:f.fit):bq Tryz.prog 37 [f.enc] (Ak f):=by
 have B7:=kQ f bJ;unfold J8 at B7;unfold Ak;by_cases hc:aN f=0
 ·rw[if_pos hc]at B7 ⊢;have hg:=(cA bJ hc).gr;have hw:=cE hg;have ht:=kg hg;have qw:=Hs f bJ hc;have hn:f.blocks.length<=128:=hg.few;have OF:(dw f).length<=128:=by rw[ru];exact hw.few
  have Zj:∀k∈dw f,0<=cP f k:=fun k hk=>cD.1 hk;have XW:=oK hg;obtain⟨R,hR⟩:∃R,R=dd f:=⟨_,rfl⟩
  rw[<-hR]at XW ⊢;unfold dd at hR;generalize dw f=L at *;refine zf true 0 Tryz.func37 Tryz.ntmps37 ?_;dsimp only[Tmp,TypeId,slotsOf];refine az (ah ?_);refine aC 1 0 (.ip none [aI f.name,aw f.blocks]) rfl (by simp[ai.aD]) trivial rfl ?_ ?_;rotate_left;simp -dsimp only[simprocAttr,↓aa,zp]
  ·refine az ?_;refine zi B7 ?_;refine ah ?_;refine ck (ah ?_);apply aP rfl<;>intro h
   ·cases h
   refine ct ?_;refine az ?_;refine zi qw ?_;refine ah ?_;refine az (ah ?_);refine Ev 8 rfl ?_;simp -dsimp only[simprocAttr,↓aa,zp];refine ck (ah ?_);refine ag (aM (ι:={x:Nat×List (Int×Int) // x.1<=L.length∧R=x.2++(L.drop x.1).flatMap (sE f)}) (fun x=>⟨59,[(1,.ip none [aI f.name,aw f.blocks]),(6,a7 (dn f)),(8,.aB 2 (x.1.2.map tv) (.tok 1)),(26,a7 L),(27,aI L.length),(28,aI x.1.1)],[.gone,.spare x.1.2.length]⟩) (fun x=>L.length-x.1.1) ⟨(0,[]),by simp,by simpa using hR⟩ ?_ ?_)
   ·refine zq rfl ?_ ?_;simp -dsimp only[simprocAttr,↓aa,zp,zc]
    all_goals rfl
   rintro⟨⟨i,acc⟩,hi,pk⟩;simp only at hi pk;refine az (ah ?_);apply ic rfl<;>intro h
   ·refine ct ?_;have a8:i<L.length:=by simpa using h
    obtain⟨k,hk⟩:∃k,L[i]?=some k:=⟨L[i],by simp[a8]⟩
    have Yd:=Zj k (List.mem_of_getElem? hk);have qu:=hw.range k Yd;rw[bA hk,List.flatMap_cons,<-List.append_assoc]at pk;obtain⟨B,hB⟩:∃B,f.blocks[k.toNat]?=some B:=⟨f.blocks[k.toNat]'(by omega),List.getElem?_eq_getElem _⟩
    have xE:eA f k=B.term.to:=by simp[eA,aY,hB]
    have SK:=List.mem_of_getElem? hB;have Mu:=hg.ee B SK;have SJ:=hg.to B SK;have xx:sE f k=ug f k B.term.to:=by rw[<-xE];rfl
    obtain⟨A,hA⟩:∃A,A=acc++sE f k:=⟨_,rfl⟩
    rw[<-hA]at pk;rw[xx]at hA;have wC:=ht.v8 hw Yd;refine aG (ag ?_);refine aU ?_;simp -dsimp only[simprocAttr,↓aa,zp,hk];refine ah ?_;refine aU ?_;simp -dsimp only[simprocAttr,↓aa,zp,hB]
    repeat(refine⟨by omega,?_⟩)
    refine ah ?_;refine ag (aM (ι:={y:Nat×List (Int×Int) // y.1<=B.term.to.length∧A=y.2++ug f k (B.term.to.drop y.1)}) (fun y=>⟨59,[(1,.ip none [aI f.name,aw f.blocks]),(6,a7 (dn f)),(8,.aB 2 (y.1.2.map tv) (.tok 1)),(26,a7 L),(27,aI L.length),(28,aI i),(10,aI k),(38,aH B.term.to),(39,aI B.term.to.length),(40,aI y.1.1)],[.gone,.spare y.1.2.length]⟩) (fun y=>B.term.to.length-y.1.1) ⟨(0,acc),by simp,by simpa using hA⟩ ?_ ?_)
    ·refine zq rfl ?_ ?_;simp -dsimp only[simprocAttr,↓aa,zp,zc]
     all_goals rfl
    rintro⟨⟨z,a2⟩,hz,Mg⟩;simp only at hz Mg;refine az (ah ?_);apply ic rfl<;>intro h
    ·refine ct ?_;have mf:z<B.term.to.length:=by simpa using h
     obtain⟨x,hx⟩:∃x,B.term.to[z]?=some x:=⟨B.term.to[z],by simp[mf]⟩
     have Ju:=Mu x (List.mem_of_getElem? hx);rw[bA hx,Cu]at Mg;have Wq:=DE hw ht.tr (a:=x.block) (b:=k) (by omega) wC;have C9:a2.length<=33000:=by
      have h1:=congrArg List.length pk;have h2:=congrArg List.length Mg;simp only[List.length_append]at h1 h2;omega
     refine aG (ag ?_);refine aU ?_;simp -dsimp only[simprocAttr,↓aa,zp,hx];refine ah ?_;show cn Tryz.prog _ _ _ ⟨_,_,[.gone,.spare a2.length]++[.cells [aI x.block,a7 x.args]]⟩;refine aK 12 ([aI x.block,a7 x.args]) [(1,.ip none [aI f.name,aw f.blocks]),(6,a7 (dn f)),(8,.aB 2 (a2.map tv) (.tok 1)),(26,a7 L),(27,aI L.length),(28,aI i),(10,aI k),(38,aH B.term.to),(39,aI B.term.to.length),(40,aI z),(12,.ip none [aI x.block,a7 x.args])] (by simp[bt,bc,Go.Av.look]) (by rfl) (by omega) (by simp[bt,bc,Go.Av.look]) ?_ ?_ ?_
     ·simp[ai.upto]
     ·simp[ae.upto,av,ax,Edge.ak,Ins.ak,Block.ak,c9]
     refine az ?_;refine zi Wq ?_;refine ah ?_;cases OI:ph (dn f) x.block k with
     | true =>
      rw[if_pos OI]at Mg;refine cY rfl ?_;refine cC ?_
      repeat(refine⟨by omega,?_⟩)
      refine ah ?_;refine cC ?_
      repeat(refine⟨by omega,?_⟩)
      refine eX ?_;refine⟨⟨(z+1,a2++[(k,x.block)]),mf,by rw[Mg];simp⟩,by simp;omega,?_⟩;refine zq rfl ?_ ?_;simp -dsimp only[simprocAttr,↓aa,zp,zc]
      ·exact⟨Sub.aB (by simp[tv]),Sub.int (by simp)⟩
      simp
     | false =>
      rw[if_neg (by simp[OI])]at Mg;refine cm rfl ?_;refine lX ?_;refine cC ?_
      repeat(refine⟨by omega,?_⟩)
      refine eX ?_;refine⟨⟨(z+1,a2),mf,Mg⟩,by simp;omega,?_⟩;refine zq rfl ?_ ?_;simp -dsimp only[simprocAttr,↓aa,zp,zc]
      ·exact Sub.int (by simp)
      rfl
    refine aF ?_;simp -dsimp only[bF,ne_eq,Nat.reduceEqDiff,reduceCtorEq];have rM:B.term.to.length<=z:=by simpa using h
    rw[List.drop_of_length_le rM]at Mg;have Vu:A=a2:=by rw[Mg];simp[ug]
    subst Vu;refine cC ?_
    repeat(refine⟨by omega,?_⟩)
    refine eX ?_;refine⟨⟨(i+1,A),a8,pk⟩,by simp;omega,?_⟩;refine zq rfl ?_ ?_;simp -dsimp only[simprocAttr,↓aa,zp,zc]
    ·exact Sub.int (by simp)
    rfl
   refine aF ?_;simp -dsimp only[bF,ne_eq,Nat.reduceEqDiff,reduceCtorEq];have Gl:L.length<=i:=by simpa using h
   rw[List.drop_of_length_le Gl]at pk;have PY:R=acc:=by rw[pk];simp
   subst PY;refine az (ah ?_);refine aq ?_;simp -dsimp only[simprocAttr,↓aa,zp,zr,Tryz.results37];exact⟨⟨c9 _ _,trivial⟩,trivial,trivial⟩
  exact bY.mp rfl rfl
 rw[if_neg hc]at B7 ⊢;obtain⟨e,he⟩:∃e,e=aN f:=⟨_,rfl⟩
 rw[<-he]at hc B7 ⊢;have oW:decide (e=0)=false:=decide_eq_false hc;refine zf true 0 Tryz.func37 Tryz.ntmps37 ?_;dsimp only[Tmp,TypeId,slotsOf];refine az (ah ?_);refine aC 1 0 (.ip none [aI f.name,aw f.blocks]) rfl (by simp[ai.aD]) trivial rfl ?_ ?_;rotate_left;simp -dsimp only[simprocAttr,↓aa,zp]
 ·refine az ?_;refine zi B7 ?_;refine ah ?_;refine cK ?_;simp -dsimp only[simprocAttr,↓aa,zp,oW];refine ah ?_;refine cY rfl ?_;refine az (ah ?_);refine aq ?_;simp -dsimp only[simprocAttr,↓aa,zp,zr,Tryz.results37];simp[av,ae.upto]
 exact bY.mp rfl rfl
theorem GW{O:List ai}(br:∀o∈O,o.upto O.length){id:Nat}{l:List bd}(ho:O[id]?=some (.cells (kp l)))(yS:l.length<=1000)(nu:∀x∈l,x.parent=-1) :
  bh Tryz.prog 41 O [.os id l.length 3] (fun r O'=>r=.cx []∧O'=O.set id (.cells (kp (og l)))):=by
 have Gu:=I ho;have eE:O.set id (.cells (kp l))=O:=jW ho;have B5:∀x,(O.set id x)[id]?=some x:=fun x=>List.getElem?_set_self Gu;have ZW:∀x Z,(O.set id x++Z)[id]?=some x:=fun x Z=>bS (B5 x);have jf:∀m:List bd,(O.set id (.cells (kp m))).take O.length=O.set id (.cells (kp m)):=fun m=>b6;have fg:∀m:List bd,∀o∈O.set id (.cells (kp m)),o.upto O.length:=fun m=>bg br (u7 _ _);have TC:∀x,(O.set id x).length=O.length:=fun x=>by simp
 have wM:∀m:List bd,∀o∈O.set id (.cells (kp m)),o.upto (O.set id (.cells (kp m))).length:=fun m=>by rw[TC];exact fg m
 have h0:ix l l:=⟨rfl,fun x hx=>by
  have:=nu x hx;omega⟩
 obtain⟨R,hR⟩:∃R,R=og l:=⟨_,rfl⟩
 unfold og at hR;obtain⟨n,hn⟩:∃n,n=l.length:=⟨_,rfl⟩
 have RM:og l=R:=by rw[hR];rfl
 rw[RM,<-hn];rw[<-hn]at hR;refine zf true O.length Tryz.func41 Tryz.ntmps41 ?_;dsimp only[Tmp,TypeId,slotsOf];refine az (ah ?_);refine ag (aM (ι:={x:Nat×List bd // x.1<=n∧ix l x.2∧R=Bm n (n-x.1) x.1 x.2}) (fun x=>⟨58,[(0,.os id n 3),(7,aI n),(8,aI x.1.1)],O.set id (.cells (kp x.1.2))⟩) (fun x=>n-x.1.1) ⟨(0,l),by simp,h0,by simpa using hR⟩ ?_ ?_)
 ·refine zq rfl ?_ ?_;simp -dsimp only[simprocAttr,↓aa,zp,zc];exact eE.symm
 rintro⟨⟨i,m⟩,hi,mg,pk⟩;simp only at hi mg pk;refine az (ah ?_);apply ic rfl<;>intro h
 ·refine ct ?_;have a8:i<n:=by simpa using h
  obtain⟨M,hM⟩:∃M,M=xO i n 0 m:=⟨_,rfl⟩
  have PY:R=Bm n (n-(i+1)) (i+1) M:=by
   rw[pk,show n-i=(n-(i+1))+1 by omega,hM];rfl
  have VC:ix l M:=by rw[hM];exact vb i n 0 mg (by omega)
  refine aG (ag ?_);refine az (ah ?_);refine az (ah ?_);refine ag (aM (ι:={y:Nat×List bd // y.1<=n∧ix l y.2∧M=xO i (n-y.1) y.1 y.2}) (fun y=>⟨58,[(0,.os id n 3),(7,aI n),(8,aI i),(2,aI i),(11,.os id n 3),(12,aI n),(13,aI y.1.1)],O.set id (.cells (kp y.1.2))⟩) (fun y=>n-y.1.1) ⟨(0,m),by simp,mg,by simpa using hM⟩ ?_ ?_)
  ·refine zq rfl ?_ ?_;simp -dsimp only[simprocAttr,↓aa,zp,zc];rfl
  rintro⟨⟨k,c⟩,hk,Li,VA⟩;simp only at hk Li VA;have hZ:=Li.len;refine az (ah ?_);apply ic rfl<;>intro h
  ·refine ct ?_;have Gp:k<n:=by simpa using h
   have Da:M=xO i (n-(k+1)) (k+1) (mo c i k):=by
    rw[VA,show n-k=(n-(k+1))+1 by omega];rfl
   have bG:=sY Li i k (by omega);obtain⟨b,hb⟩:∃b,c[k]?=some b:=⟨c[k]'(by omega),List.getElem?_eq_getElem _⟩
   obtain⟨a,ha⟩:∃a,c[i]?=some a:=⟨c[i]'(by omega),List.getElem?_eq_getElem _⟩
   obtain⟨b1,b2,b3,b4⟩:=DF hb;obtain⟨a1,a2,a3,a4⟩:=DF ha;have Mp:(kp c).length=n*3:=by rw[oY];omega
   have qv:=Li.2 a (List.mem_of_getElem? ha);have ga:=MP ha (k:Int);have OJ:=ju b.blocks a.head;have tC:mo c i k=if k=i∨gj b.blocks a.head=false then c else if a.parent<0∨b.blocks.length<((c[a.parent.toNat]?.map fun y=>y.blocks.length).getD 0)then c.set i ⟨a.head,a.blocks,k⟩else c:=by
    simp only[mo,ha,hb]
   refine aG (ag ?_);refine aU ?_;simp -dsimp only[simprocAttr,↓aa,zp,B5,Mp,b4]
   repeat(refine⟨by omega,?_⟩)
   refine ah ?_;refine aK 4 ([aI b.head,a7 b.blocks,aI b.parent]) [(0,.os id n 3),(7,aI n),(8,aI i),(2,aI i),(11,.os id n 3),(12,aI n),(13,aI k),(3,aI k),(4,.ip none [aI b.head,a7 b.blocks,aI b.parent])] (by simp[bt,bc,Go.Av.look]) (by rfl) (by simp) (by simp[bt,bc,Go.Av.look]) ?_ ?_ ?_
   ·exact wM c
   ·simp[ae.upto,av,ax,Gu]
   by_cases OQ:k=i
   ·have hd:decide ((k:Int)=(i:Int))=true:=decide_eq_true (by omega);rw[if_pos (.inl OQ)]at tC;refine cK ?_;simp -dsimp only[simprocAttr,↓aa,zp,hd];refine⟨ob (by kernel_rfl),?_⟩;refine ah ?_;refine cY rfl ?_;refine aF ?_;simp -dsimp only[bF,ne_eq,Nat.reduceEqDiff,reduceCtorEq];refine cC ?_
    repeat(refine⟨by omega,?_⟩)
    refine eX ?_;refine⟨⟨(k+1,c),Gp,Li,by rw[Da,tC]⟩,by simp;omega,?_⟩;refine zq rfl ?_ ?_;simp -dsimp only[simprocAttr,↓aa,zp,zc]
    ·exact Sub.int (by simp)
    rfl
   have hd:decide ((k:Int)=(i:Int))=false:=decide_eq_false (by omega);refine cK ?_;simp -dsimp only[simprocAttr,↓aa,zp,hd,B5,Mp,a1,b2]
   repeat(refine⟨by omega,?_⟩)
   refine .inl ⟨_,OJ,by simp only[av,ae.upto,zt,zu,ax,u7],ao ?_⟩;simp -dsimp only[simprocAttr,↓aa,zp];refine⟨bP [id] O.length [.pure,.pure,.pure,.pure,.pure,.pure,.pure,.pure,.pure,.pure,.rd 0,.pure,.pure,.pure] (by simp) (by simp;omega) rfl rfl (by kernel_rfl),aV ?_⟩;simp -dsimp only[bF,ne_eq,Nat.reduceEqDiff,reduceCtorEq];cases hh:gj b.blocks a.head with
   | false =>
    rw[if_pos (.inr hh)]at tC;refine cY rfl ?_;refine aF ?_;simp -dsimp only[bF,ne_eq,Nat.reduceEqDiff,reduceCtorEq];refine cC ?_
    repeat(refine⟨by omega,?_⟩)
    refine eX ?_;refine⟨⟨(k+1,c),Gp,Li,by rw[Da,tC]⟩,by simp;omega,?_⟩;refine zq rfl ?_ ?_;simp -dsimp only[simprocAttr,↓aa,zp,zc]
    ·exact Sub.int (by simp)
    rfl
   | true =>
    rw[if_neg (by simp[OQ,hh])]at tC;apply aP rfl<;>intro h
    ·cases h
    refine ct ?_;refine aU ?_;simp -dsimp only[simprocAttr,↓aa,zp,B5,Mp,a3]
    repeat(refine⟨by omega,?_⟩)
    refine ah ?_;by_cases hp:a.parent<0
    ·have xA:decide (a.parent<0)=true:=decide_eq_true hp;rw[if_pos (.inl hp)]at tC;rw[tC]at bG Da;refine aU ?_;simp -dsimp only[simprocAttr,↓aa,zp,xA];refine⟨ob (by kernel_rfl),?_⟩;refine ah ?_;refine cY rfl ?_;refine jD ?_;simp -dsimp only[simprocAttr,↓aa,zp,B5,Mp]
     repeat(refine⟨by omega,?_⟩)
     refine ah ?_;rw[ga,List.set_set];refine cC ?_
     repeat(refine⟨by omega,?_⟩)
     refine eX ?_;refine⟨⟨(k+1,c.set i ⟨a.head,a.blocks,k⟩),Gp,bG,Da⟩,by simp;omega,?_⟩;refine zq rfl ?_ ?_;simp -dsimp only[simprocAttr,↓aa,zp,zc]
     ·exact Sub.int (by simp)
     rfl
    have xA:decide (a.parent<0)=false:=decide_eq_false hp;obtain⟨q,hq⟩:∃q:Nat,a.parent=(q:Int):=⟨a.parent.toNat,by omega⟩
    have hqn:q<n:=by omega
    obtain⟨pp,Ys⟩:∃pp,c[q]?=some pp:=⟨c[q]'(by omega),List.getElem?_eq_getElem _⟩
    obtain⟨p1,p2,p3,p4⟩:=DF Ys;have Z7:((c[a.parent.toNat]?.map fun y=>y.blocks.length).getD 0)=pp.blocks.length:=by
     rw[hq,Int.toNat_natCast,Ys];rfl
    rw[Z7]at tC;rw[hq]at xA;refine aU ?_;simp -dsimp only[simprocAttr,↓aa,zp,xA,B5,Mp,hq,p2]
    repeat(refine⟨by omega,?_⟩)
    refine⟨bP [id] O.length [.pure,.pure,.pure,.pure,.pure,.pure,.pure,.pure,.pure,.pure,.rd 0,.pure,.pure,.pure] (by simp) (by simp;omega) rfl rfl (by kernel_rfl),aV ?_⟩;simp -dsimp only[bF,ne_eq,Nat.reduceEqDiff,reduceCtorEq];apply aP rfl<;>intro h
    ·have A6:b.blocks.length<pp.blocks.length:=by
      have:=of_decide_eq_true h;omega
     rw[if_pos (.inr A6)]at tC;rw[tC]at bG Da;refine jD ?_;simp -dsimp only[simprocAttr,↓aa,zp,B5,Mp]
     repeat(refine⟨by omega,?_⟩)
     refine ah ?_;rw[ga,List.set_set];refine cC ?_
     repeat(refine⟨by omega,?_⟩)
     refine eX ?_;refine⟨⟨(k+1,c.set i ⟨a.head,a.blocks,k⟩),Gp,bG,Da⟩,by simp;omega,?_⟩;refine zq rfl ?_ ?_;simp -dsimp only[simprocAttr,↓aa,zp,zc]
     ·exact Sub.int (by simp)
     rfl
    have A6:¬b.blocks.length<pp.blocks.length:=by
     have:=of_decide_eq_false h;omega
    rw[if_neg (by omega)]at tC;refine lX ?_;refine cC ?_
    repeat(refine⟨by omega,?_⟩)
    refine eX ?_;refine⟨⟨(k+1,c),Gp,Li,by rw[Da,tC]⟩,by simp;omega,?_⟩;refine zq rfl ?_ ?_;simp -dsimp only[simprocAttr,↓aa,zp,zc]
    ·exact Sub.int (by simp)
    rfl
  refine aF ?_;simp -dsimp only[bF,ne_eq,Nat.reduceEqDiff,reduceCtorEq];have Yc:k=n:=by
   have:=of_decide_eq_false h;omega
  subst Yc;have Zm:M=c:=by rw[VA,Nat.sub_self];rfl
  subst Zm;refine cC ?_
  repeat(refine⟨by omega,?_⟩)
  refine eX ?_;refine⟨⟨(i+1,M),a8,VC,PY⟩,by simp;omega,?_⟩;refine zq rfl ?_ ?_;simp -dsimp only[simprocAttr,↓aa,zp,zc]
  ·exact Sub.int (by simp)
  rfl
 refine aF ?_;simp -dsimp only[bF,ne_eq,Nat.reduceEqDiff,reduceCtorEq];have sN:i=n:=by
  have:=of_decide_eq_false h;omega
 subst sN;have Zr:R=m:=by rw[pk,Nat.sub_self];rfl
 subst Zr
 skip
 simp -dsimp only[simprocAttr,↓aa,zp,zr,Tryz.results41,jf,List.length_set];exact⟨fg _,trivial⟩
theorem JJ:bq Tryz.prog 41 [.aB 3 [] .sh] (.cx []):=by
 refine zf true 0 Tryz.func41 Tryz.ntmps41 ?_;dsimp only[Tmp,TypeId,slotsOf];refine az (ah ?_);refine ag (aM (ι:=Unit) (fun x=>⟨58,[(7,aI 0),(8,aI 0)],[]⟩) (fun x=>0) () ?_ ?_)
 ·refine zq rfl ?_ ?_;simp -dsimp only[simprocAttr,↓aa,zp,zc];rfl
 rintro⟨⟩;refine az (ah ?_);refine YP rfl ?_;refine aF ?_;simp -dsimp only[bF,ne_eq,Nat.reduceEqDiff,reduceCtorEq]
 skip
 simp -dsimp only[simprocAttr,↓aa,zp,zr,Tryz.results41];trivial
def EH(f:Func):ae:=if aN f=0 then .cx [.aB 3 ((gk f).map iE) .sh,aI 0]else .cx [.aB 3 [] .sh,aI (aN f)]
structure Fs where
 h:Nat
 acc:List bd
 oid:Nat
 O:List ai
structure Fw where
 z:Nat
 w:List Int
 wid:Nat
 O:List ai
structure Fz where
 S:Wl
 wid:Nat
 xc:Nat
 O:List ai
 gb:List ae
theorem si(wid:Nat)(w:List Int){O:List ai}(h:w≠[]->O[wid]?=some (.cells (w.map aI))):(kq wid w).upto O.length:=by
 by_cases q:w=[]
 ·rw[show kq wid w=.aB 1 [] .ex from if_pos q];exact⟨trivial,trivial⟩
 rw[show kq wid w=.os wid w.length 1 from if_neg q];exact I (h q)
theorem o6(n:Nat)(w:List Int)(x:Int):kq n (w++[x])=.os n (w.length+1) 1:=by
 have:w++[x]≠[]:=by simp
 rw[kq,if_neg this,List.length_append];rfl
theorem find_spec(f:Func)(bJ:f.fit):bq Tryz.prog 13 [f.enc] (EH f):=by
 have xx:=pJ f bJ;unfold Ak at xx;unfold EH;by_cases hc:aN f=0
 ·rw[if_pos hc]at xx ⊢;have B7:=kQ f bJ;have kc:=vu f bJ;unfold J8 at B7;unfold zk at kc;rw[if_pos hc]at B7 kc;have hg:=(cA bJ hc).gr;have hw:=cE hg;have hn:f.blocks.length<=128:=hg.few;have OF:(dw f).length<=128:=by rw[ru];exact hw.few
  have Zk:=zF (bx f);have Vy:dw f≠[]:=List.ne_nil_of_mem (cD.2 (by rw[hw.zero];omega:0<=cP f 0));have US:=fun k=>yr Vy (by omega) Zk k;have Lh:=oK hg;have Y4:∀p∈dd f,0<=p.1∧p.1<f.blocks.length:=fun p hp=>hw.range p.1 (kv.1 (show(p.1,p.2)∈dd f from hp)).1;obtain⟨N,hN⟩:∃N,N=f.blocks.length:=⟨_,rfl⟩
  obtain⟨L,hL⟩:∃L,L=dw f:=⟨_,rfl⟩
  obtain⟨B,hB⟩:∃B,B=dd f:=⟨_,rfl⟩
  obtain⟨R,hR⟩:∃R,R=vv f:=⟨_,rfl⟩
  have iJ:gk f=og R:=by rw[hR];rfl
  rw[iJ];have WX:∀h:Int,kr f h=((B.filter fun p=>decide (p.2=h)).map (·.1)):=fun h=>by rw[hB];rfl
  have yU:=fun h z p (hp:B[z]?=some p)=>Eb (f:=f) (h:=h) (z:=z) (p:=p) (by rw[<-hB];exact hp);rw[<-hB]at yU xx Lh Y4;rw[<-hL]at B7 US Vy OF;unfold vv at hR;rw[<-hN]at hR hn;have aaa:=x8 f;refine zf true 0 Tryz.func13 Tryz.ntmps13 ?_;dsimp only[Tmp,TypeId,slotsOf];refine az (ah ?_);refine aC 1 0 (.ip none [aI f.name,aw f.blocks]) rfl (by simp[ai.aD]) trivial rfl ?_ ?_;rotate_left;simp -dsimp only[simprocAttr,↓aa,zp]
  ·refine az ?_;refine zi xx ?_;refine ah ?_;refine ck (ah ?_);apply aP rfl<;>intro h
   ·cases h
   refine ct ?_;refine az ?_;refine zi B7 ?_;refine ah ?_;refine az ?_;refine zi kc ?_;refine ah ?_;refine az (ah ?_);refine cK ?_;simp -dsimp only[simprocAttr,↓aa,zp,<-hN];refine ah ?_;refine ag (aM (ι:={X:Fs // X.h<=N∧FO X.acc X.oid X.O∧X.acc.length<=X.h∧(∀x∈X.acc,x.parent=-1)∧R=X.acc++((List.range N).drop X.h).flatMap (zm f)}) (fun X=>⟨113,[(1,.ip none [aI f.name,aw f.blocks]),(4,.aB 2 (B.map tv) .sh),(6,a7 L),(8,.aB 1 ((eI f).map a7) .sh),(10,sg X.1.oid X.1.acc),(39,aI N),(40,aI X.1.h)],X.1.O⟩) (fun X=>N-X.1.h) ⟨⟨0,[],0,[.gone]⟩,by simp,⟨by simp[ai.upto],fun q=>absurd rfl q⟩,by simp,by simp,by simpa using hR⟩ ?_ ?_)
   ·refine zq rfl ?_ ?_;simp -dsimp only[simprocAttr,↓aa,zp,zc]
    all_goals first|rfl|exact Sub.refl _
   rintro⟨⟨hd,acc,oid,O⟩,hh,hF,lN,nu,pk⟩;simp only at hh hF lN nu pk;refine az (ah ?_);apply ic rfl<;>intro h
   ·refine ct ?_;have a8:hd<N:=by simpa using h
    have Lo:(List.range N)[hd]?=some hd:=by simp[a8]
    rw[bA Lo,List.flatMap_cons,<-List.append_assoc]at pk;have tE:=WX (hd:Int);obtain⟨src,Dp⟩:∃src,src=kr f (hd:Int):=⟨_,rfl⟩
    have WR:=Fy hg (hd:Int);rw[<-Dp]at tE WR;have Mn:=yU (hd:Int);refine aG (ag ?_);refine az (ah ?_);refine az (ah ?_);refine ck (ah ?_);refine ag (aM (ι:={y:Fw // y.z<=B.length∧FO acc oid y.O∧(y.w≠[]->y.O[y.wid]?=some (.cells (y.w.map aI))∧(acc≠[]->y.wid≠oid))∧src=y.w++(((B.drop y.z).filter fun p=>decide (p.2=(hd:Int))).map (·.1))}) (fun y=>⟨113,[(1,.ip none [aI f.name,aw f.blocks]),(4,.aB 2 (B.map tv) .sh),(6,a7 L),(8,.aB 1 ((eI f).map a7) .sh),(10,sg oid acc),(39,aI N),(40,aI hd),(11,aI hd),(12,kq y.1.wid y.1.w),(43,.aB 2 (B.map tv) .sh),(44,aI B.length),(45,aI y.1.z)],y.1.O⟩) (fun y=>B.length-y.1.z) ⟨⟨0,[],0,O⟩,by simp,hF,fun q=>absurd rfl q,by simpa using tE⟩ ?_ ?_)
    ·refine zq rfl ?_ ?_;simp -dsimp only[simprocAttr,↓aa,zp,zc]
     all_goals first|rfl|exact Sub.refl _
    rintro⟨⟨z,w,wid,O⟩,hz,hF,B9,r8⟩;simp only at hz hF B9 r8;refine az (ah ?_);apply ic rfl<;>intro h
    ·refine ct ?_;have mf:z<B.length:=by simpa using h
     obtain⟨p,hp⟩:∃p,B[z]?=some p:=⟨B[z],by simp[mf]⟩
     rw[Mn z p hp,<-List.append_assoc]at r8;have Va:w.length<=33000:=by
      have:=congrArg List.length r8;simp only[List.length_append]at this;omega
     refine aG (ag ?_);refine aU ?_;simp -dsimp only[simprocAttr,↓aa,zp,hp,tv];refine ah ?_;refine aK 14 ([aI p.1,aI p.2]) [(1,.ip none [aI f.name,aw f.blocks]),(4,.aB 2 (B.map tv) .sh),(6,a7 L),(8,.aB 1 ((eI f).map a7) .sh),(10,sg oid acc),(39,aI N),(40,aI hd),(11,aI hd),(12,kq wid w),(43,.aB 2 (B.map tv) .sh),(44,aI B.length),(45,aI z),(14,.ip none [aI p.1,aI p.2])] (by simp[bt,bc,Go.Av.look]) (by rfl) (by omega) (by simp[bt,bc,Go.Av.look]) ?_ ?_ ?_
     ·exact hF.up
     ·have U6:=hF.Xi;have nw:=si wid w (O:=O) fun q=>(B9 q).1;simp[ae.upto,av,ax,c9,F0,Edge.ak,Ins.ak,Block.ak,U6,nw]
     by_cases Jo:p.2=hd
     ·have xA:decide (p.2=(hd:Int))=true:=decide_eq_true Jo;rw[if_pos Jo]at r8;refine aU ?_;simp -dsimp only[simprocAttr,↓aa,zp,xA];refine ah ?_;refine cY rfl ?_;by_cases B8:w=[]
      ·have jx:kq wid w=.aB 1 [] .ex:=if_pos B8;refine Lt ?_;simp -dsimp only[simprocAttr,↓aa,zp,jx,c4,c8];refine ah ?_;refine cC ?_
       repeat(refine⟨by omega,?_⟩)
       refine eX ?_;refine⟨⟨⟨z+1,w++[p.1],O.length,O++[ai.cells [aI p.1]]⟩,mf,hF.push ⟨trivial,trivial⟩,fun _=>⟨by rw[B8];exact dI _ _,fun q e=>?_⟩,r8⟩,by simp;omega,?_⟩
       ·have h1:=I (hF.out q);have h2:O.length=oid:=e;omega
       refine zq rfl ?_ ?_;simp -dsimp only[simprocAttr,↓aa,zp,zc]
       ·exact⟨by rw[o6,B8];exact Sub.refl _,Sub.int (by simp)⟩
       rfl
      obtain⟨w1,w2⟩:=B9 B8;have jx:kq wid w=.os wid w.length 1:=if_neg B8;have zV:(w.map aI).take (w.length*1)=w.map aI:=List.take_of_length_le (by simp);have B5:(O.set wid .gone++[ai.cells (w.map aI++[aI p.1])])[O.length]?=some (.cells ((w++[p.1]).map aI)):=by
       have h1:=dI (O.set wid .gone) (ai.cells (w.map aI++[aI p.1]));rw[List.length_set]at h1;rw[h1,List.map_append];rfl
      refine jD ?_;simp -dsimp only[simprocAttr,↓aa,zp,jx,w1,c4,c8,zV]
      repeat(refine⟨by omega,?_⟩)
      refine ah ?_;refine cC ?_
      repeat(refine⟨by omega,?_⟩)
      refine eX ?_;refine⟨⟨⟨z+1,w++[p.1],O.length,O.set wid .gone++[ai.cells (w.map aI++[aI p.1])]⟩,mf,hF.move w2 ?_,fun _=>⟨B5,fun q e=>?_⟩,r8⟩,by simp;omega,?_⟩
      ·have:=ax (O.length+1) (w++[p.1]);simpa using this
      ·have h1:=I (hF.out q);have h2:O.length=oid:=e;omega
      refine zq rfl ?_ ?_;simp -dsimp only[simprocAttr,↓aa,zp,zc]
      ·exact⟨by rw[o6];exact Sub.refl _,Sub.int (by simp)⟩
      rfl
     have xA:decide (p.2=(hd:Int))=false:=decide_eq_false Jo;rw[if_neg Jo,List.append_nil]at r8;refine aU ?_;simp -dsimp only[simprocAttr,↓aa,zp,xA];refine ah ?_;refine cm rfl ?_;refine lX ?_;refine cC ?_
     repeat(refine⟨by omega,?_⟩)
     refine eX ?_;refine⟨⟨⟨z+1,w,wid,O⟩,mf,hF,B9,r8⟩,by simp;omega,?_⟩;refine zq rfl ?_ ?_;simp -dsimp only[simprocAttr,↓aa,zp,zc]
     ·exact Sub.int (by simp)
     rfl
    refine aF ?_;simp -dsimp only[bF,ne_eq,Nat.reduceEqDiff,reduceCtorEq];have rM:B.length<=z:=by
     have:=of_decide_eq_false h;omega
    rw[List.drop_of_length_le rM]at r8;have WZ:src=w:=by rw[r8];simp
    subst WZ;by_cases MK:src=[]
    ·have jx:kq wid src=.aB 1 [] .ex:=if_pos MK;have nT:zm f hd=[]:=if_pos (by rw[<-Dp];exact MK);rw[nT,List.append_nil]at pk;refine cK ?_;simp -dsimp only[simprocAttr,↓aa,zp,jx];refine ah ?_;refine cY rfl ?_;refine aF ?_;simp -dsimp only[bF,ne_eq,Nat.reduceEqDiff,reduceCtorEq];refine cC ?_
     repeat(refine⟨by omega,?_⟩)
     refine eX ?_;refine⟨⟨⟨hd+1,acc,oid,O⟩,a8,hF,by simp only;omega,nu,pk⟩,by simp;omega,?_⟩;refine zq rfl ?_ ?_;simp -dsimp only[simprocAttr,↓aa,zp,zc]
     ·exact Sub.int (by simp)
     rfl
    obtain⟨w1,w2⟩:=B9 MK;have jx:kq wid src=.os wid src.length 1:=if_neg MK;have nT:zm f hd=[⟨hd,gR (nz f hd),-1⟩]:=if_neg (by rw[<-Dp];exact MK);rw[nT]at pk;have iY:0<src.length:=List.length_pos_iff.2 MK;have mN:decide ((src.length:Int)=0)=false:=decide_eq_false (by omega);refine cK ?_;simp -dsimp only[simprocAttr,↓aa,zp,jx,mN];refine ah ?_;apply aP rfl<;>intro h
    ·cases h
    refine ct ?_;refine aG (mF ⟨false,false⟩ hT 1 rfl rfl rfl (by simp) ?_);simp -dsimp only[simprocAttr,↓aa,zp];refine u9 hT rfl rfl (by simp) rfl rfl rfl (by simp) rfl (by intro p hp;simp at hp;subst hp;trivial) rfl rfl (by intro x hx;simp at hx;subst hx;rfl) (by simp) (by simp) ?_;simp -dsimp only[simprocAttr,↓aa,zp];refine ah ?_;have ZY:0<=(hd:Int)∧(hd:Int)<f.blocks.length:=⟨by omega,by omega⟩
    obtain⟨s1,s2⟩:=xN hg ZY;rw[<-Dp]at s1 s2;have Y9:FO acc oid (O++[ai.cells (al [aI (hd:Int)])]):=hF.push ⟨trivial,trivial⟩;have U':∀(S:Wl),tg f (hd:Int) src S->∀k∈S.work,0<=cP f k->bB f k≠[]:=fun S hS k h1 h2=>La hg (h:=(hd:Int)) (by rw[<-Dp];exact MK) (by rw[<-Dp];exact hS) h1 h2;have Wt:nz f (hd:Int)=(oD f 10000000 ⟨src,[(hd:Int)]⟩).all:=by rw[Dp];rfl
    have g1:(O++[ai.cells (al [aI (hd:Int)])])[wid]?=some (.cells (src.map aI++[])):=by
     rw[List.append_nil];exact bS w1
    have g2:(O++[ai.cells (al [aI (hd:Int)])])[O.length]?=some (.cells ([(hd:Int)].map aI)):=dI _ _;have hwO:=I w1;refine aG (ag (aM (ι:={y:Fz // tg f hd src y.S∧FO acc oid y.O∧y.O[y.wid]?=some (.cells (y.S.work.map aI++y.gb))∧y.O[y.xc]?=some (.cells (y.S.all.map aI))∧(acc≠[]->y.wid≠oid∧y.xc≠oid)∧y.wid≠y.xc∧∃n,y.S.weight f<n∧n<=10000000∧nz f hd=(oD f n y.S).all}) (fun y=>⟨113,[(1,.ip none [aI f.name,aw f.blocks]),(4,.aB 2 (B.map tv) .sh),(6,a7 L),(8,.aB 1 ((eI f).map a7) .sh),(10,sg oid acc),(39,aI N),(40,aI hd),(11,aI hd),(12,.os y.1.wid y.1.S.work.length 1),(15,.os y.1.xc y.1.S.all.length 1)],y.1.O⟩) (fun y=>y.1.S.weight f) ⟨⟨⟨src,[(hd:Int)]⟩,wid,O.length,_,[]⟩,s1,Y9,g1,g2,fun q=>⟨w2 q,by have:=I (hF.out q);simp only;omega⟩,by simp only;omega,10000000,s2,Nat.le_refl _,Wt⟩ ?_ ?_))
    ·refine zq rfl ?_ ?_;simp -dsimp only[simprocAttr,↓aa,zp,zc]
     all_goals rfl
    rintro⟨⟨S,wid,xc,O,gb⟩,hS,hF,k1,k2,k3,k4,n,z7,ET,bD⟩;simp only at hS hF k1 k2 k3 k4 z7 ET bD;by_cases tR:S.work=[]
    ·have Di:S.work.length=0:=by rw[tR];rfl
     rw[Em tR]at bD;refine cK ?_;simp -dsimp only[simprocAttr,↓aa,zp,Di];refine ah ?_;refine cm rfl ?_;refine aF ?_;simp -dsimp only[bF,ne_eq,Nat.reduceEqDiff,reduceCtorEq];have X5:=hS.few;have Lp:=yd (O:=O) (id:=xc) (zs:=S.all) k2 (by omega);have h3:(O.set xc (.cells ((gR S.all).map aI)))[xc]?=some (.cells ((gR S.all).map aI)):=ja k2;have iY:=(fJ S.all).length_eq;rw[bD]at pk;refine az ?_;refine .inr (.inl ⟨_,_,Lp,.inl (ao (zj ?_))⟩);refine ah ?_;refine aC 15 xc (o:=.cells ((gR S.all).map aI)) (a7 (gR S.all)) h3 (by simp[ai.aD]) trivial rfl (bY.os (cs:=(gR S.all).map aI) h3 ?_ ?_ ?_) ?_
     ·intro x hx;obtain⟨c,_,rfl⟩:=List.mem_map.1 hx;rfl
     ·simp[iY]
     ·rw[List.drop_zero,List.take_of_length_le (by simp[iY])];exact jF _
     simp -dsimp only[simprocAttr,↓aa,zp,List.set_set];have Vx:FO acc oid (O.set xc .gone):=hF.set (fun q=>(k3 q).2) trivial;have Jc:(O.set xc ai.gone).length=O.length:=by simp
     generalize O.set xc ai.gone=O3 at *;obtain⟨ss,R7⟩:∃ss,ss=gR S.all:=⟨_,rfl⟩
     rw[<-R7]at pk ⊢;by_cases SU:acc=[]
     ·have jx:sg oid acc=.aB 3 [] .ex:=if_pos SU;refine Lt ?_;simp -dsimp only[simprocAttr,↓aa,zp,jx,c8];refine ah ?_;refine cC ?_
      repeat(refine⟨by omega,?_⟩)
      refine eX ?_;refine⟨⟨⟨hd+1,acc++[⟨hd,ss,-1⟩],O3.length,O3++[ai.cells (bd.cells ⟨hd,ss,-1⟩)]⟩,a8,⟨?_,fun _=>?_⟩,by simp;omega,fun x hx=>?_,by rw[pk]⟩,by simp;omega,?_⟩
      ·exact(Vx.push (cs:=bd.cells ⟨hd,ss,-1⟩) ⟨trivial,⟨ax _ _,trivial⟩,trivial,trivial⟩).up
      ·rw[SU];exact dI _ _
      ·rcases List.mem_append.1 hx with q|q
       ·exact nu x q
       simp only[List.mem_singleton]at q;rw[q]
      refine zq rfl ?_ ?_;simp -dsimp only[simprocAttr,↓aa,zp,zc]
      ·exact⟨by rw[xS,SU];exact Sub.refl _,Sub.int (by simp)⟩
      rfl
     have jx:sg oid acc=.os oid acc.length 3:=if_neg SU;have ho:=Vx.out SU;have Zv:(kp acc).take (acc.length*3)=kp acc:=List.take_of_length_le (by rw[oY];omega);refine jD ?_;simp -dsimp only[simprocAttr,↓aa,zp,jx,ho,Zv,c8];refine⟨by rw[oY];omega,by omega,by omega,?_⟩;refine ah ?_;refine cC ?_
     repeat(refine⟨by omega,?_⟩)
     refine eX ?_;refine⟨⟨⟨hd+1,acc++[⟨hd,ss,-1⟩],O3.length,O3.set oid .gone++[ai.cells (kp acc++bd.cells ⟨hd,ss,-1⟩)]⟩,a8,⟨?_,fun _=>?_⟩,by simp;omega,fun x hx=>?_,by rw[pk]⟩,by simp;omega,?_⟩
     ·have br:=fL (x:=ai.cells (kp acc++bd.cells ⟨hd,ss,-1⟩)) (bg (k:=oid) (x:=.gone) (fun o ho=>ai.bK (show O3.length<=O3.length+1 by omega) (Vx.up o ho)) trivial) (by
       have h1:=u7 (O3.length+1) (acc++[⟨hd,ss,-1⟩]);rw[Bg]at h1;exact h1)
      intro o ho;have:=br o ho;simpa using this
     ·have h1:=dI (O3.set oid .gone) (ai.cells (kp acc++bd.cells ⟨hd,ss,-1⟩));rw[List.length_set]at h1;rw[Bg];exact h1
     ·rcases List.mem_append.1 hx with q|q
      ·exact nu x q
      simp only[List.mem_singleton]at q;rw[q]
     refine zq rfl ?_ ?_;simp -dsimp only[simprocAttr,↓aa,zp,zc]
     ·exact⟨by rw[xS];exact Sub.refl _,Sub.int (by simp)⟩
     rfl
    obtain⟨n,rfl⟩:∃n',n=n'+1:=⟨n-1,by omega⟩
    have Dk:nz f hd=(oD f n (oE f S)).all:=by
     rw[bD];simp only[oD];rw[if_neg (by simpa using tR)]
    have bG:=sy hg hS;have Sb:=pF hg hS tR;obtain⟨k,hk⟩:∃k,S.work.getLast?=some k:=⟨S.work.getLast tR,List.getLast?_eq_some_getLast tR⟩
    have A4:=lJ hk;obtain⟨r,hr⟩:∃r,r=S.work.dropLast:=⟨_,rfl⟩
    rw[<-hr]at A4;have Qi:k∈S.work:=by rw[A4];simp
    have qu:=hS.wk k Qi;have yS:S.work.length=r.length+1:=by rw[A4];simp
    have HE:S.work.length<=10000000:=by
     simp only[Wl.weight]at z7;omega
    have xw:=hS.few;have A8:((r.length+1:Nat):Int)-1=(r.length:Nat):=by omega
    obtain⟨cs,fw⟩:∃cs,cs=S.work.map aI++gb:=⟨_,rfl⟩
    have wE:cs=r.map aI++(aI k::gb):=by rw[fw,A4];simp
    have B4:cs[r.length]?=some (aI k):=by
     rw[wE,List.getElem?_append_right (by simp)];simp
    have hZ:r.length+1<=cs.length:=by rw[wE];simp
    rw[<-fw]at k1;have VP:=US k;have Gx:oE f S=if k∈L∧k ∉ S.all then⟨r++bB f k,S.all++[k]⟩else⟨r,S.all⟩:=by
     simp only[oE,hk,<-hL,<-hr]
    refine cK ?_;simp -dsimp only[simprocAttr,↓aa,zp,yS];refine ah ?_;apply aP rfl<;>intro h
    ·refine ct ?_;refine ag ?_;refine aU ?_;simp -dsimp only[simprocAttr,↓aa,zp,A8,k1,B4,Nat.mul_one]
     repeat(refine⟨by omega,?_⟩)
     refine ah ?_;refine aU ?_;simp -dsimp only[simprocAttr,↓aa,zp,A8,k1,Nat.mul_one]
     repeat(refine⟨by omega,?_⟩)
     refine ah ?_;refine az ?_;refine zi VP ?_;refine ah ?_;by_cases Tw:k∈L
     ·have UU:decide (k∈L)=true:=decide_eq_true Tw;have OJ:=bq.os (ju S.all k) k2;cases P7:gj S.all k with
      | true =>
       have sN:k∈S.all:=qX.1 P7;rw[if_neg (fun q=>q.2 sN)]at Gx;rw[Gx]at bG Sb Dk;rw[P7]at OJ;refine aU ?_;simp -dsimp only[simprocAttr,↓aa,zp,UU];refine .inr (.inr ⟨_,OJ,ao (zj ?_)⟩);refine ah ?_;refine cm rfl ?_;refine Xs ?_;have oV:O[wid]?=some (.cells (r.map aI++(aI k::gb))):=by rw[k1,wE]
       refine⟨⟨⟨⟨r,S.all⟩,wid,xc,O,aI k::gb⟩,bG,hF,oV,k2,k3,k4,n,by simp only;omega,by omega,Dk⟩,by simp only;omega,?_⟩;refine zq rfl ?_ ?_;simp -dsimp only[simprocAttr,↓aa,zp,zc]
       all_goals rfl
      | false =>
       have sN:k ∉ S.all:=fun q=>by rw[qX.2 q]at P7;cases P7
       rw[if_pos ⟨Tw,sN⟩]at Gx;rw[Gx]at bG Sb Dk;rw[P7]at OJ;refine aU ?_;simp -dsimp only[simprocAttr,↓aa,zp,UU];refine .inr (.inr ⟨_,OJ,ao (zj ?_)⟩);refine ah ?_;refine cY rfl ?_;have Y2:(S.all.map aI).take (S.all.length*1)=S.all.map aI:=List.take_of_length_le (by simp);obtain⟨ps,mO⟩:∃ps,(eI f)[k.toNat]?=some ps:=⟨(eI f)[k.toNat]'(by omega),List.getElem?_eq_getElem _⟩
       have qv:bB f k=ps:=by simp[bB,mO]
       have T3:=U' S hS k Qi (cD.1 (by rw[<-hL];exact Tw));have T0:=x7 hg k;rw[qv]at T3 T0 bG Sb Dk;have tQ:ps.length≠0:=fun q=>T3 (List.eq_nil_of_length_eq_zero q);have xz:cs.take (r.length*1)=r.map aI:=by
        rw[wE,Nat.mul_one,List.take_left' (by simp)]
       have VW:cs.take r.length=r.map aI:=by
        rw[wE,List.take_left' (by simp)]
       refine aU ?_;simp -dsimp only[simprocAttr,↓aa,zp,k2,c4,c8,Y2]
       repeat(refine⟨by omega,?_⟩)
       refine ah ?_;have Y':FO acc oid (O.set xc .gone++[ai.cells (S.all.map aI++[aI k])]):=hF.move (fun q=>(k3 q).2) (by
        have:=ax (O.length+1) (S.all++[k]);simpa using this)
       have kw1:(O.set xc .gone++[ai.cells (S.all.map aI++[aI k])])[wid]?=some (.cells cs):=bS (aW k1 (Ne.symm k4));have ka1:(O.set xc .gone++[ai.cells (S.all.map aI++[aI k])])[O.length]?=some (.cells ((S.all++[k]).map aI)):=by
        have h1:=dI (O.set xc .gone) (ai.cells (S.all.map aI++[aI k]));rw[List.length_set]at h1;rw[h1,List.map_append];rfl
       have VE:(O.set xc .gone++[ai.cells (S.all.map aI++[aI k])]).length=O.length+1:=by simp
       have hwO:=I k1;generalize (O.set xc .gone++[ai.cells (S.all.map aI++[aI k])])=O1 at *;refine jD ?_;simp -dsimp only[simprocAttr,↓aa,zp,mO,kw1,xz,VW,jt]
       repeat(refine⟨by omega,?_⟩)
       refine RA ?_;have g1:(O1.set wid .gone++[ai.cells (r.map aI++ps.map aI)])[O1.length]?=some (.cells ((r++ps).map aI++[])):=by
        have h1:=dI (O1.set wid .gone) (ai.cells (r.map aI++ps.map aI));rw[List.length_set]at h1;rw[h1,List.map_append,List.append_nil]
       have br:av (O1.length+1) (r.map aI++ps.map aI):=by
        have:=ax (O1.length+1) (r++ps);simpa using this
       refine⟨⟨⟨⟨r++ps,S.all++[k]⟩,O1.length,O.length,O1.set wid .gone++[ai.cells (r.map aI++ps.map aI)],[]⟩,bG,Y'.move (fun q=>(k3 q).1) br,g1,bS (aW ka1 (show wid≠O.length by omega)),fun q=>?_,by simp only;omega,n,by simp only;omega,by omega,Dk⟩,by simp only;omega,?_⟩
       ·have h1:=I (hF.out q);simp only;omega
       refine zq rfl ?_ ?_;simp -dsimp only[simprocAttr,↓aa,zp,zc]
       all_goals rfl
     have UU:decide (k∈L)=false:=decide_eq_false Tw;rw[if_neg (fun q=>Tw q.1)]at Gx;rw[Gx]at bG Sb Dk;refine aU ?_;simp -dsimp only[simprocAttr,↓aa,zp,UU];refine ah ?_;refine cm rfl ?_;refine Xs ?_;have oV:O[wid]?=some (.cells (r.map aI++(aI k::gb))):=by rw[k1,wE]
     refine⟨⟨⟨⟨r,S.all⟩,wid,xc,O,aI k::gb⟩,bG,hF,oV,k2,k3,k4,n,by simp only;omega,by omega,Dk⟩,by simp only;omega,?_⟩;refine zq rfl ?_ ?_;simp -dsimp only[simprocAttr,↓aa,zp,zc]
     all_goals rfl
    exact af h (by omega)
   refine aF ?_;simp -dsimp only[bF,ne_eq,Nat.reduceEqDiff,reduceCtorEq];have ZX:hd=N:=by
    have:=of_decide_eq_false h;omega
   subst ZX;rw[List.drop_of_length_le (by simp)]at pk;have Zq:R=acc:=by rw[pk];simp
   subst Zq;by_cases RM:R=[]
   ·have jx:sg oid R=.aB 3 [] .ex:=if_pos RM;refine aU ?_;simp -dsimp only[simprocAttr,↓aa,zp,jx];refine zi JJ ?_;refine ah ?_;refine aU ?_;simp -dsimp only[simprocAttr,↓aa,zp,jx];refine ah ?_;rw[RM];refine aq ?_;simp -dsimp only[simprocAttr,↓aa,zp,zr,Tryz.results13];exact⟨⟨⟨trivial,trivial⟩,trivial,trivial⟩,rfl⟩
   have jx:sg oid R=.os oid R.length 3:=if_neg RM;have ho:=hF.out RM;have TR:=GW hF.up ho (by omega) nu;have Gt:=(Bo nu).len;have h3:(O.set oid (.cells (kp (og R))))[oid]?=some (.cells (kp (og R))):=ja ho;generalize O.set oid (.cells (kp (og R)))=O2 at *;obtain⟨m,OW⟩:∃m,m=og R:=⟨_,rfl⟩
   rw[<-OW]at Gt h3 ⊢;rw[<-Gt]at jx TR;refine aU ?_;simp -dsimp only[simprocAttr,↓aa,zp,jx];refine .inr (.inl ⟨_,_,TR,.inl (ao (zj ?_))⟩);refine ah ?_;refine aU ?_;simp -dsimp only[simprocAttr,↓aa,zp,jx];refine ah ?_;refine aC 2 oid (o:=.cells (kp m)) (.aB 3 (m.map iE) .sh) h3 (by simp[ai.aD]) trivial rfl (bY.os (cs:=kp m) h3 ?_ ?_ ?_) ?_
   ·intro x hx;obtain⟨y,_,rfl⟩:=List.mem_map.1 hx;rfl
   ·simp
   ·rw[List.drop_zero,List.take_of_length_le (by rw[oY];omega)];exact GO m
   simp -dsimp only[simprocAttr,↓aa,zp];refine aq ?_;simp -dsimp only[simprocAttr,↓aa,zp,zr,Tryz.results13];exact⟨⟨CV _ _,trivial⟩,trivial,trivial⟩
  exact bY.mp rfl rfl
 rw[if_neg hc]at xx ⊢;obtain⟨e,he⟩:∃e,e=aN f:=⟨_,rfl⟩
 rw[<-he]at hc xx ⊢;have oW:decide (e=0)=false:=decide_eq_false hc;refine zf true 0 Tryz.func13 Tryz.ntmps13 ?_;dsimp only[Tmp,TypeId,slotsOf];refine az (ah ?_);refine aC 1 0 (.ip none [aI f.name,aw f.blocks]) rfl (by simp[ai.aD]) trivial rfl ?_ ?_;rotate_left;simp -dsimp only[simprocAttr,↓aa,zp]
 ·refine az ?_;refine zi xx ?_;refine ah ?_;refine cK ?_;simp -dsimp only[simprocAttr,↓aa,zp,oW];refine ah ?_;refine cY rfl ?_;refine az (ah ?_);refine aq ?_;simp -dsimp only[simprocAttr,↓aa,zp,zr,Tryz.results13];simp[av,ae.upto]
 exact bY.mp rfl rfl
def Sf(p:Nat)(k:Int)(es:List Edge):List Int:=(es.filter fun e=>decide (e.block=k)).map fun _=>(p:Int)
def HI(k:Int):Nat->List Block->List Int
 | _,[]=>[]
 | p,b::r=>Sf p k b.term.to++HI k (p+1) r
def HJ(f:Func)(k:Int):List Int:=HI k 0 f.blocks
theorem Na(p:Nat)(k:Int)(es:List Edge):(Sf p k es).length<=es.length:=by
 unfold Sf;rw[List.length_map];exact List.length_filter_le _ _
theorem zw(k:Int):∀(bs:List Block) (p:Nat),(∀b∈bs,b.term.to.length<=257)->(HI k p bs).length<=bs.length*257
 | [],_,_=>by simp[HI]
 | b::r,p,h=>by
  have h1:=zw k r (p+1) fun x hx=>h x (List.mem_cons_of_mem _ hx);have h2:=Na p k b.term.to;have h3:=h b List.mem_cons_self;simp only[HI,List.length_append,List.length_cons];omega
structure Xv where
 z:Nat
 w:List Int
 wid:Nat
 O:List ai
theorem wV(f:Func)(hg:fv f)(k:Int):bq Tryz.prog 20 [f.enc,aI k] (a7 (HJ f k)):=by
 have hn:f.blocks.length<=128:=hg.few;obtain⟨R,hR⟩:∃R,R=HJ f k:=⟨_,rfl⟩
 have IW:R.length<=33000:=by
  have:=zw k f.blocks 0 hg.to;rw[hR];unfold HJ;omega
 rw[<-hR];unfold HJ at hR;obtain⟨N,hN⟩:∃N,N=f.blocks.length:=⟨_,rfl⟩
 refine zf true 0 Tryz.func20 Tryz.ntmps20 ?_;dsimp only[Tmp,TypeId,slotsOf];refine az (ah ?_);refine aC 2 0 (.ip none [aI f.name,aw f.blocks]) rfl (by simp[ai.aD]) trivial rfl ?_ ?_;rotate_left;simp -dsimp only[simprocAttr,↓aa,zp]
 ·refine az (ah ?_);refine cK ?_;simp -dsimp only[simprocAttr,↓aa,zp,<-hN];refine ah ?_;refine ag (aM (ι:={X:Xv // X.z<=N∧FO [] 0 X.O∧(X.w≠[]->X.O[X.wid]?=some (.cells (X.w.map aI)))∧R=X.w++HI k X.z (f.blocks.drop X.z)}) (fun X=>⟨37,[(1,aI k),(2,.ip none [aI f.name,aw f.blocks]),(5,kq X.1.wid X.1.w),(11,aw f.blocks),(12,aI N),(13,aI X.1.z)],X.1.O⟩) (fun X=>N-X.1.z) ⟨⟨0,[],0,[.gone]⟩,by simp,⟨by simp[ai.upto],fun q=>absurd rfl q⟩,fun q=>absurd rfl q,by simpa using hR⟩ ?_ ?_)
  ·refine zq rfl ?_ ?_;simp -dsimp only[simprocAttr,↓aa,zp,zc]
   all_goals first|rfl|exact Sub.refl _
  rintro⟨⟨i,w,wid,O⟩,hi,hF,B9,r8⟩;simp only at hi hF B9 r8;refine az (ah ?_);apply ic rfl<;>intro h
  ·refine ct ?_;have a8:i<N:=by simpa using h
   obtain⟨b,hb⟩:∃b,f.blocks[i]?=some b:=⟨f.blocks[i]'(by omega),List.getElem?_eq_getElem _⟩
   rw[bA hb]at r8;simp only[HI]at r8;obtain⟨T,XR⟩:∃T,T=HI k (i+1) (f.blocks.drop (i+1)):=⟨_,rfl⟩
   rw[<-XR,<-List.append_assoc]at r8;obtain⟨P,hP⟩:∃P,P=w++Sf i k b.term.to:=⟨_,rfl⟩
   rw[<-hP]at r8;unfold Sf at hP;have VH:P.length<=33000:=by
    have:=congrArg List.length r8;rw[List.length_append]at this;omega
   have xE:=hg.to b (List.mem_of_getElem? hb);refine aG (ag ?_);refine aU ?_;simp -dsimp only[simprocAttr,↓aa,zp,hb];refine ah ?_;refine aK 7 ([a7 b.params,bW b.ins,aI b.term.kind,aI b.term.arg,aI b.term.n,a7 b.term.cases,aH b.term.to]) [(1,aI k),(2,.ip none [aI f.name,aw f.blocks]),(5,kq wid w),(11,aw f.blocks),(12,aI N),(13,aI i),(6,aI i),(7,.ip none [a7 b.params,bW b.ins,aI b.term.kind,aI b.term.arg,aI b.term.n,a7 b.term.cases,aH b.term.to])] (by simp[bt,bc,Go.Av.look]) (by rfl) (by omega) (by simp[bt,bc,Go.Av.look]) ?_ ?_ ?_
   ·exact hF.up
   ·have nw:=si wid w (O:=O) B9;simp[ae.upto,av,ax,Edge.ak,Ins.ak,Block.ak,nw]
   refine az (ah ?_);refine ag (aM (ι:={X:Xv // X.z<=b.term.to.length∧FO [] 0 X.O∧(X.w≠[]->X.O[X.wid]?=some (.cells (X.w.map aI)))∧P=X.w++((b.term.to.drop X.z).filter fun e=>decide (e.block=k)).map fun _=>(i:Int)}) (fun X=>⟨37,[(1,aI k),(2,.ip none [aI f.name,aw f.blocks]),(5,kq X.1.wid X.1.w),(11,aw f.blocks),(12,aI N),(13,aI i),(6,aI i),(20,aH b.term.to),(21,aI b.term.to.length),(22,aI X.1.z)],X.1.O⟩) (fun X=>b.term.to.length-X.1.z) ⟨⟨0,w,wid,O⟩,by simp,hF,B9,by simpa using hP⟩ ?_ ?_)
   ·refine zq rfl ?_ ?_;simp -dsimp only[simprocAttr,↓aa,zp,zc]
    all_goals rfl
   rintro⟨⟨z,w,wid,O⟩,hz,hF,B9,wK⟩;simp only at hz hF B9 wK;refine az (ah ?_);apply ic rfl<;>intro h
   ·refine ct ?_;have mf:z<b.term.to.length:=by simpa using h
    obtain⟨e,he⟩:∃e,b.term.to[z]?=some e:=⟨b.term.to[z],by simp[mf]⟩
    rw[bA he,List.filter_cons]at wK;have Va:w.length<=33000:=by
     have:=congrArg List.length wK;rw[List.length_append]at this;omega
    refine aG (ag ?_);refine aU ?_;simp -dsimp only[simprocAttr,↓aa,zp,he];refine ah ?_;refine aK 9 ([aI e.block,a7 e.args]) [(1,aI k),(2,.ip none [aI f.name,aw f.blocks]),(5,kq wid w),(11,aw f.blocks),(12,aI N),(13,aI i),(6,aI i),(20,aH b.term.to),(21,aI b.term.to.length),(22,aI z),(9,.ip none [aI e.block,a7 e.args])] (by simp[bt,bc,Go.Av.look]) (by rfl) (by omega) (by simp[bt,bc,Go.Av.look]) ?_ ?_ ?_
    ·exact hF.up
    ·have nw:=si wid w (O:=O) B9;simp[ae.upto,av,ax,Edge.ak,Ins.ak,Block.ak,nw]
    by_cases Jo:e.block=k
    ·have xA:decide (e.block=k)=true:=decide_eq_true Jo;rw[xA,if_pos rfl,List.map_cons,List.append_cons]at wK;refine aU ?_;simp -dsimp only[simprocAttr,↓aa,zp,xA];refine ah ?_;refine cY rfl ?_;by_cases B8:w=[]
     ·have jx:kq wid w=.aB 1 [] .ex:=if_pos B8;refine Lt ?_;simp -dsimp only[simprocAttr,↓aa,zp,jx,c4,c8];refine ah ?_;refine cC ?_
      repeat(refine⟨by omega,?_⟩)
      refine eX ?_;refine⟨⟨⟨z+1,w++[(i:Int)],O.length,O++[ai.cells [aI (i:Int)]]⟩,mf,hF.push ⟨trivial,trivial⟩,fun _=>by rw[B8];exact dI _ _,wK⟩,by simp;omega,?_⟩;refine zq rfl ?_ ?_;simp -dsimp only[simprocAttr,↓aa,zp,zc]
      ·exact⟨by rw[o6,B8];exact Sub.refl _,Sub.int (by simp)⟩
      rfl
     have w1:=B9 B8;have jx:kq wid w=.os wid w.length 1:=if_neg B8;have zV:(w.map aI).take (w.length*1)=w.map aI:=List.take_of_length_le (by simp);have B5:(O.set wid .gone++[ai.cells (w.map aI++[aI (i:Int)])])[O.length]?=some (.cells ((w++[(i:Int)]).map aI)):=by
      have h1:=dI (O.set wid .gone) (ai.cells (w.map aI++[aI (i:Int)]));rw[List.length_set]at h1;rw[h1,List.map_append];rfl
     refine jD ?_;simp -dsimp only[simprocAttr,↓aa,zp,jx,w1,c4,c8,zV]
     repeat(refine⟨by omega,?_⟩)
     refine ah ?_;refine cC ?_
     repeat(refine⟨by omega,?_⟩)
     refine eX ?_;refine⟨⟨⟨z+1,w++[(i:Int)],O.length,O.set wid .gone++[ai.cells (w.map aI++[aI (i:Int)])]⟩,mf,hF.move (fun q=>absurd rfl q) ?_,fun _=>B5,wK⟩,by simp;omega,?_⟩
     ·have:=ax (O.length+1) (w++[(i:Int)]);simpa using this
     refine zq rfl ?_ ?_;simp -dsimp only[simprocAttr,↓aa,zp,zc]
     ·exact⟨by rw[o6];exact Sub.refl _,Sub.int (by simp)⟩
     rfl
    have xA:decide (e.block=k)=false:=decide_eq_false Jo;rw[xA,if_neg (by simp)]at wK;refine aU ?_;simp -dsimp only[simprocAttr,↓aa,zp,xA];refine ah ?_;refine cm rfl ?_;refine lX ?_;refine cC ?_
    repeat(refine⟨by omega,?_⟩)
    refine eX ?_;refine⟨⟨⟨z+1,w,wid,O⟩,mf,hF,B9,wK⟩,by simp;omega,?_⟩;refine zq rfl ?_ ?_;simp -dsimp only[simprocAttr,↓aa,zp,zc]
    ·exact Sub.int (by simp)
    rfl
   refine aF ?_;simp -dsimp only[bF,ne_eq,Nat.reduceEqDiff,reduceCtorEq];have rM:b.term.to.length<=z:=by
    have:=of_decide_eq_false h;omega
   rw[List.drop_of_length_le rM]at wK;have WZ:P=w:=by rw[wK];simp
   subst WZ;refine cC ?_
   repeat(refine⟨by omega,?_⟩)
   refine eX ?_;refine⟨⟨⟨i+1,P,wid,O⟩,a8,hF,B9,by simp only;rw[r8,XR]⟩,by simp;omega,?_⟩;refine zq rfl ?_ ?_;simp -dsimp only[simprocAttr,↓aa,zp,zc]
   ·exact Sub.int (by simp)
   rfl
  refine aF ?_;simp -dsimp only[bF,ne_eq,Nat.reduceEqDiff,reduceCtorEq];have Wa:N<=i:=by
   have:=of_decide_eq_false h;omega
  rw[List.drop_of_length_le (by omega)]at r8;simp only[HI,List.append_nil]at r8;subst r8;by_cases B8:R=[]
  ·have jx:kq wid R=.aB 1 [] .ex:=if_pos B8;refine aU ?_;simp -dsimp only[simprocAttr,↓aa,zp,jx];refine ah ?_;rw[B8];refine aq ?_;simp -dsimp only[simprocAttr,↓aa,zp,zr,Tryz.results20];exact⟨trivial,rfl⟩
  have w1:=B9 B8;have jx:kq wid R=.os wid R.length 1:=if_neg B8;refine aU ?_;simp -dsimp only[simprocAttr,↓aa,zp,jx];refine ah ?_;refine aC 4 wid (o:=.cells (R.map aI)) (a7 R) w1 (by simp[ai.aD]) trivial rfl (bY.os (cs:=R.map aI) w1 (fun x hx=>by obtain⟨v,_,rfl⟩:=List.mem_map.1 hx;rfl) (by simp) (by rw[List.drop_zero,List.take_of_length_le (by simp),jF])) ?_;simp -dsimp only[simprocAttr,↓aa,zp];refine aq ?_;simp -dsimp only[simprocAttr,↓aa,zp,zr,Tryz.results20]
 exact bY.mp rfl rfl

end Go.Proofs.YtjdnhamngpafmaaGreat
namespace Go.Proofs.YtjdnhamngpafmaaGreat
open Go.Av
section
variable {f:Func}
end
end Go.Proofs.YtjdnhamngpafmaaGreat
namespace Go.Proofs.YtjdnhamngpafmaaGreat
open Go.Av
section
variable {f:Func}
end
end Go.Proofs.YtjdnhamngpafmaaGreat
namespace Go.Proofs.YtjdnhamngpafmaaGreat
open Go.Av

end Go.Proofs.YtjdnhamngpafmaaGreat
namespace Go.Proofs.YtjdnhamngpafmaaGreat
open Go.Av
section
variable {f:Func}
end
end Go.Proofs.YtjdnhamngpafmaaGreat
namespace Go.Proofs.YtjdnhamngpafmaaGreat
open Go.Av
def kJ(f:Func)(k:Int):List Int:=((eA f k).map fun e=>e.block).filter fun t=>!decide ((k,t)∈dd f)
def j6(f:Func):List Int:=(dw f).flatMap (kJ f)
structure Kh where
 many:List Int
 work:List Int
def kO(many:List Int)(t:Int):List Int:=many.set t.toNat (many[t.toNat]?.getD 0+1)
def n6(S:Kh)(t:Int):Kh:=⟨S.many.set t.toNat (S.many[t.toNat]?.getD 0-1),if S.many[t.toNat]?.getD 0-1=0 then S.work++[t]else S.work⟩
theorem tK{g:Int->List Int}{t:Int}:∀(l m:List Int),l.Nodup->(∀x∈l,x∈m)->(l.flatMap g).count t<=(m.flatMap g).count t
 | [],m,_,_=>by simp
 | a::l,m,hn,hs=>by
  rw[List.nodup_cons]at hn;have ha:=hs a List.mem_cons_self;have hp:=((List.perm_cons_erase ha).flatMap_right g).count_eq t;rw[hp,List.flatMap_cons,List.flatMap_cons,List.count_append,List.count_append];have:=tK (g:=g) (t:=t) l (m.erase a) hn.2 fun x hx=>(List.mem_erase_of_ne (show x≠a from fun e=>hn.1 (by rw[<-e];exact hx))).2 (hs x (List.mem_cons_of_mem _ hx));omega
theorem Ij{g:Int->List Int}{t:Int}:∀(l m:List Int),l.Nodup->m.Nodup->(∀x∈l,x∈m)->(∀p∈m,p ∉ l->t ∉ g p)->(l.flatMap g).count t=(m.flatMap g).count t
 | [],m,_,_,_,h=>by
  have:t ∉ m.flatMap g:=fun q=>by
   obtain⟨p,h1,h2⟩:=List.mem_flatMap.1 q;exact h p h1 (by simp) h2
  rw[List.count_eq_zero.2 this];simp
 | a::l,m,hn,hm,hs,h=>by
  rw[List.nodup_cons]at hn;have ha:=hs a List.mem_cons_self;have hp:=((List.perm_cons_erase ha).flatMap_right g).count_eq t;rw[hp,List.flatMap_cons,List.flatMap_cons,List.count_append,List.count_append];have:=Ij (g:=g) (t:=t) l (m.erase a) hn.2 (hm.erase a) (fun x hx=>(List.mem_erase_of_ne (show x≠a from fun e=>hn.1 (by rw[<-e];exact hx))).2 (hs x (List.mem_cons_of_mem _ hx))) fun p hp hl=>by
   refine h p (List.mem_of_mem_erase hp) fun q=>?_;rcases List.mem_cons.1 q with e|q
   ·subst e;exact(List.Nodup.not_mem_erase hm) hp
   exact hl q
  omega
theorem GH(l:List Int)(t:Int):(kO l t).length=l.length:=by unfold kO;rw[List.length_set]
theorem p8:∀(ts:List Int) (l:List Int),(∀t∈ts,0<=t)->(ts.foldl kO l).length=l.length∧∀(t:Nat) (c:Int),l[t]?=some c->(ts.foldl kO l)[t]?=some (c+(ts.count (t:Int):Nat))
 | [],l,_=>⟨rfl,fun t c h=>by simpa using h⟩
 | a::r,l,h=>by
  obtain⟨h1,h2⟩:=p8 r (kO l a) fun t ht=>h t (List.mem_cons_of_mem _ ht);have ha:=h a List.mem_cons_self;rw[List.foldl_cons];refine⟨by rw[h1,GH],fun t c hc=>?_⟩;rw[List.count_cons];by_cases e:a=(t:Int)
  ·subst e;rw[h2 t (c+1) (by
    unfold kO;rw[Int.toNat_natCast,hc,List.getElem?_set_self (I hc)];rfl)]
   simp;omega
  rw[h2 t c (by
   unfold kO;rw[List.getElem?_set_ne (by omega),hc])]
  simp[e]
structure w7(f:Func)(ps Q:List Int)(S:Kh):Prop where
 nd:(ps++S.work).Nodup
 rn:∀k∈ps++S.work,k∈dw f
 len:S.many.length=f.blocks.length
 UJ:∀t:Nat,t<f.blocks.length->S.many[t]?=some (((j6 f).count (t:Int):Int)-(Q.count (t:Int):Int))
 zero:∀t∈dw f,(j6 f).count t=Q.count t↔t∈ps++S.work
 ord:∀(j:Nat) t,ps[j]?=some t->∀p∈dw f,t∈kJ f p->p∈ps.take j
theorem eU{f:Func}(hg:fv f){t:Int}(h:t∈dw f):0<=t∧t<f.blocks.length:=(cE hg).range t (cD.1 h)
theorem kK{f:Func}{k t:Int}:t∈kJ f k↔qz f k t∧(k,t) ∉ dd f:=by
 unfold kJ qz;rw[List.mem_filter,List.mem_map];simp
theorem lL{f:Func}(hg:fv f){k t:Int}(hk:k∈dw f)(ht:t∈kJ f k):t∈dw f :=
 cD.2 ((cE hg).next k t (cD.1 hk) (kK.1 ht).1)
theorem w7.dec{f:Func}(hg:fv f){ps Q:List Int}{S:Kh}(h:w7 f ps Q S){t:Int}(ht:t∈dw f)(hc:(Q++[t]).count t<=(j6 f).count t):w7 f ps (Q++[t]) (n6 S t):=by
 have qw:=eU hg ht;have hq:Q.count t+1<=(j6 f).count t:=by
  rw[List.count_append]at hc;simpa using hc
 have Wv:t ∉ ps++S.work:=fun q=>by
  have:=(h.zero t ht).2 q;omega
 have e9:S.many[t.toNat]?.getD 0-1=((j6 f).count t:Int)-(Q.count t:Int)-1:=by
  have:=h.UJ t.toNat (by omega)
  rw[Int.toNat_of_nonneg qw.1]at this;rw[this];rfl
 have I0:∀r:Int,(Q++[t]).count r=Q.count r+if t=r then 1 else 0:=fun r=>by
  rw[List.count_append];by_cases e:t=r
  ·subst e;simp
  simp[e]
 have hw:(n6 S t).work=if(j6 f).count t=Q.count t+1 then S.work++[t]else S.work:=by
  unfold n6;rw[e9];by_cases e:(j6 f).count t=Q.count t+1
  ·rw[if_pos e];simp only;rw[if_pos (by omega)]
  rw[if_neg e];simp only;rw[if_neg (by omega)]
 have iw:∀k,k∈ps++(n6 S t).work↔k∈ps++S.work∨(k=t∧(j6 f).count t=Q.count t+1):=fun k=>by
  rw[hw];split
  ·rename_i e;simp[e,or_assoc]
  rename_i e;simp[e]
 refine⟨?_,fun k hk=>?_,?_,fun r hr=>?_,fun r hr=>?_,h.ord⟩
 ·rw[hw];split
  ·rw[<-List.append_assoc,List.nodup_append];refine⟨h.nd,by simp,fun a ha b hb=>?_⟩;rw[List.mem_singleton]at hb;subst hb;exact fun e=>Wv (e ▸ ha)
  exact h.nd
 ·rcases(iw k).1 hk with q|⟨rfl,_⟩
  ·exact h.rn k q
  exact ht
 ·show(S.many.set _ _).length=_;rw[List.length_set,h.len]
 ·show(S.many.set _ _)[r]?=_;have ZJ:=h.UJ r hr;rw[e9,I0];by_cases e:t=(r:Int)
  ·subst e;rw[Int.toNat_natCast,List.getElem?_set_self (by rw[h.len];omega)];simp;omega
  rw[List.getElem?_set_ne (by omega),ZJ,if_neg e];simp
 rw[I0,iw,<-h.zero r hr];by_cases e:t=r
 ·subst e;rw[if_pos rfl];constructor
  ·exact fun q=>.inr ⟨rfl,q⟩
  rintro(q|⟨_,q⟩)
  ·omega
  exact q
 rw[if_neg e];constructor
 ·exact fun q=>.inl (by omega)
 rintro(q|⟨q,_⟩)
 ·omega
 exact absurd q.symm e
theorem w7.fold{f:Func}(hg:fv f){ps:List Int}:∀(l:List Int) {Q:List Int} {S:Kh},w7 f ps Q S->(∀t∈l,t∈dw f)->(∀t,(Q++l).count t<=(j6 f).count t)->w7 f ps (Q++l) (l.foldl n6 S)
 | [],Q,S,h,_,_=>by simpa using h
 | a::r,Q,S,h,hr,hc=>by
  have h1:=h.dec hg (hr a List.mem_cons_self) (by
   have:=hc a;simp only[List.count_append,List.count_cons]at this ⊢;simp at this ⊢;omega)
  have h2:=w7.fold hg r h1 (fun t ht=>hr t (List.mem_cons_of_mem _ ht)) fun t=>by
   have:=hc t;rw[List.append_assoc];exact this
  rw[List.append_assoc]at h2;exact h2
theorem w7.pop{f:Func}{ps:List Int}{S:Kh}{w:List Int}{k:Int}(h:w7 f ps (ps.flatMap (kJ f)) S)(hw:S.work=w++[k]):w7 f (ps++[k]) (ps.flatMap (kJ f)) ⟨S.many,w⟩:=by
 have hp:(ps++S.work).Perm ((ps++[k])++w):=by
  rw[hw,List.append_assoc];exact List.Perm.append_left ps List.perm_append_comm
 have Tz:k∈ps++S.work:=by rw[hw];simp
 have qu:=h.rn k Tz;have mO:ps.Nodup:=(List.nodup_append.1 h.nd).1;have Yc:k ∉ ps:=fun q=>(List.nodup_append.1 h.nd).2.2 k q k (by rw[hw];simp) rfl;refine⟨(hp.nodup_iff).1 h.nd,fun x hx=>h.rn x (hp.mem_iff.2 hx),h.len,h.UJ,fun t ht=>(h.zero t ht).trans hp.mem_iff,fun j t hj p kc Yt=>?_⟩;rw[List.getElem?_append]at hj;split at hj
 ·rename_i a8;rw[List.take_append_of_le_length (by omega)];exact h.ord j t hj p kc Yt
 rename_i pY;have Z0:j=ps.length:=by
  have:=I hj;simp at this;omega
 subst Z0;have jf:t=k:=by simpa using hj.symm
 subst jf;rw[List.take_left];refine Classical.byContradiction fun hn=>?_;have h1:=(h.zero t qu).2 Tz;have h2:=tK (g:=kJ f) (t:=t) (ps++[p]) (dw f) (by
  rw[List.nodup_append];refine⟨mO,by simp,fun a ha b hb=>?_⟩;rw[List.mem_singleton]at hb;subst hb;exact fun e=>hn (e ▸ ha)) (fun x hx=>by
  rcases List.mem_append.1 hx with q|q
  ·exact h.rn x (List.mem_append_left _ q)
  rw[List.mem_singleton.1 q];exact kc)
 rw[List.flatMap_append,List.count_append]at h2;have h3:0<(kJ f p).count t:=List.count_pos_iff.2 Yt;have h4:([p].flatMap (kJ f)).count t=(kJ f p).count t:=by simp
 unfold j6 at h1;omega
theorem w7.step{f:Func}(hg:fv f){ps:List Int}{S:Kh}{w:List Int}{k:Int}(h:w7 f ps (ps.flatMap (kJ f)) S)(hw:S.work=w++[k]):w7 f (ps++[k]) ((ps++[k]).flatMap (kJ f)) ((kJ f k).foldl n6 ⟨S.many,w⟩):=by
 have h1:=h.pop hw;have qu:=h1.rn k (by simp);have he:(ps++[k]).flatMap (kJ f)=ps.flatMap (kJ f)++kJ f k:=by simp
 rw[he];refine h1.fold hg _ (fun t ht=>lL hg qu ht) fun t=>?_;rw[<-he];exact tK _ _ (List.nodup_append.1 h1.nd).1 fun x hx=>h1.rn x (List.mem_append_left _ hx)
def Py(f:Func):Prop:=∃r:Int->Nat,∀p∈dw f,∀t∈kJ f p,r p<r t
theorem MO{f:Func}(hg:fv f){ps:List Int}{S:Kh}(h:w7 f ps (ps.flatMap (kJ f)) S)(hw:S.work=[]):ps.length=(dw f).length↔Py f:=by
 have vV:=h.nd;have hr:=h.rn;have hz:=h.zero;rw[hw,List.append_nil]at vV hr hz;have Yz:=DY (cE hg);constructor
 ·intro hl;have cB:∀x∈dw f,x∈ps:=fun x hx=>by
   refine Classical.byContradiction fun hn=>?_;have h1:(x::ps).Nodup:=List.nodup_cons.2 ⟨hn,vV⟩;have h2:=h1.length_le_of_subset (l₂:=dw f) (fun y hy=>by
    rcases List.mem_cons.1 hy with e|q
    ·rw[e];exact hx
    exact hr y q)
   rw[List.length_cons]at h2;omega
  refine⟨fun x=>ps.findIdx (· == x),fun p hp t ht=>?_⟩;have R8:=cB t (lL hg hp ht);obtain⟨j,hj⟩:=List.mem_iff_getElem?.1 R8;have Pd:ps.findIdx (· == t)<ps.length:=List.findIdx_lt_length.2 ⟨t,R8,by simp⟩;have Uk:ps[ps.findIdx (· == t)]?=some t:=by
   rw[List.getElem?_eq_getElem Pd];have:=List.findIdx_getElem (w:=Pd);simpa using this
  have h3:=h.ord _ t Uk p hp ht;obtain⟨i,hi⟩:=List.mem_iff_getElem?.1 h3;have Gl:=I hi;rw[List.length_take]at Gl;rw[List.getElem?_take_of_lt (by omega)]at hi;show ps.findIdx (· == p)<ps.findIdx (· == t);refine Nat.lt_of_le_of_lt ?_ (show i<ps.findIdx (· == t) by omega);refine Classical.byContradiction fun hn=>?_;have:=List.not_of_lt_findIdx (p:=(· == p)) (xs:=ps) (i:=i) (by omega);rw[List.getElem?_eq_getElem (by omega),Option.some.injEq]at hi;simp[hi]at this
 rintro⟨r,U8⟩;have key:∀n:Nat,∀t∈dw f,r t=n->t∈ps:=fun n=>by
  induction n using Nat.strongRecOn with
  | _ n ih =>
   intro t ht hn;refine(hz t ht).1 ?_;unfold j6;refine(Ij ps (dw f) vV Yz hr fun p hp ko=>?_).symm;intro q;exact ko (ih _ (by rw[<-hn];exact U8 p hp t q) p hp rfl)
 have h1:=Yz.length_le_of_subset (l₂:=ps) fun x hx=>key _ x hx rfl;have h2:=vV.length_le_of_subset (l₂:=dw f) fun x hx=>hr x hx;omega
theorem Ma{f:Func}(hg:fv f){t:Int}(ht:t∈dw f)(h0:t≠0):∃p∈dw f,t∈kJ f p:=by
 have hw:=cE hg;have qw:=kg hg;have h1:=cD.1 ht;obtain⟨p,q1,q2,q3⟩:=hw.fwd t (by
  rcases Int.lt_or_eq_of_le h1 with q|q
  ·omega
  exact absurd (hw.inj t 0 h1 (by rw[hw.zero,<-q])) h0)
 refine⟨p,cD.2 q2,kK.2 ⟨q1,fun q=>?_⟩⟩;have ha:=(iy hw qw.tr (qw.v8 hw q2)).1 (kv.1 q).2.2;have:=(gB.pl hw qw.tr (qw.v8 hw q2) ha).1;omega
theorem JB{f:Func}(hv:Ld f):w7 f [] [] ⟨(j6 f).foldl kO (List.replicate f.blocks.length 0),[0]⟩:=by
 have hg:=hv.fn.gr;have hw:=cE hg;have h0:(0:Int)∈dw f:=cD.2 (by rw[hw.zero];exact Int.le_refl 0);have mi:∀t∈j6 f,1<=t:=fun t ht=>by
  obtain⟨p,hp,h1⟩:=List.mem_flatMap.1 ht;obtain⟨⟨e,he,rfl⟩,_⟩:=kK.1 h1;have kc:=eU hg hp;exact(hv.ee _ (dY kc.1 kc.2) e he).1
 obtain⟨k1,k2⟩:=p8 (j6 f) (List.replicate f.blocks.length 0) fun t ht=>by have:=mi t ht;omega
 refine⟨by simp,fun k hk=>?_,by rw[k1];simp,fun t ht=>?_,fun t ht=>?_,fun j t h=>by simp at h⟩
 ·rw[show k=0 by simpa using hk];exact h0
 ·rw[k2 t 0 (by rw[List.getElem?_replicate,if_pos ht])];simp
 show _↔t∈[]++[0]
 rw[List.count_nil,List.nil_append,List.mem_singleton,List.count_eq_zero];constructor
 ·intro h;refine Classical.byContradiction fun hn=>?_;obtain⟨p,hp,h1⟩:=Ma hg ht hn;exact h (List.mem_flatMap.2 ⟨p,hp,h1⟩)
 rintro rfl h;have:=mi 0 h;omega
theorem wT {P : Program} {t e : TypeId} {k : IntKind} {f0 f1 : Field} (hs : P.underlying t = some (.struct #[f0, f1])) (h0 : f0.name ≠ "_" ∧ f0.type = e ∧ f0.offset = 0) (h1 : f1.name ≠ "_" ∧ f1.type = e ∧ f1.offset = 1)
  (hu:P.underlying e=some (.int k)) (hg:P.eqGuardType P.depth t=false) (hh:P.stoodInHeld t=false):pG P t k:=by
 refine⟨hg,fun w a0 a1 b0 b1=>?_⟩;have hf:P.fieldsOf t = #[f0,f1]:=by
  unfold Program.fieldsOf;rw[hs]
 have e0:∃d,Op.equal t (.agg #[.int k a0,.int k a1]) (.agg #[.int k b0,.int k b1])=Op.equalIn (d+2) t (.agg #[.int k a0,.int k a1]) (.agg #[.int k b0,.int k b1]):=⟨9998,rfl⟩
 obtain⟨d,e0⟩:=e0;rw[e0,run_equalIn_struct w (d+1) t _ _ (by rw[hf];exact hs) hh,hf];have hi:∀(p q:Int),(Op.equalIn (d+1) e (.int k p) (.int k q)).run P w=.ok (decide (p=q)) w:=fun p q=>by
  have WH:(p == q)=decide (p=q):=by
   by_cases hq:p=q
   ·simp[hq]
   simp[hq]
  rw[run_equalIn_int w d e k k p q hu,WH]
 have p0:=jV hu #[.int k a0,.int k a1] 0 (.int k a0) rfl w;have p1:=jV hu #[.int k a0,.int k a1] 1 (.int k a1) rfl w;have s0:=jV hu #[.int k b0,.int k b1] 0 (.int k b0) rfl w;have s1:=jV hu #[.int k b0,.int k b1] 1 (.int k b1) rfl w;simp only[Op.eqFields,h0,h1,p0,s0,p1,s1,hi,ne_eq,not_false_eq_true,if_true,Sem.run_bind,Result.andThen_ok];by_cases q0:a0=b0
 ·subst q0;by_cases q1:a1=b1
  ·subst q1;simp[s1,hi]
  simp[p1,s1,hi,q1]
 simp[q0]
theorem G1:pG Tryz.prog 87 .i64:=wT Tryz.underlying87 ⟨by decide,rfl,rfl⟩ ⟨by decide,rfl,rfl⟩ Tryz.underlying3 (by kernel_rfl) (by kernel_rfl)
def wN(k t:Int)(x:Int×Int):Bool:=decide (k=x.1)&&decide (t=x.2)
theorem JA(k t:Int)(L:List (Int×Int)):L.any (wN k t)=decide ((k,t)∈L):=by
 rw[Bool.eq_iff_iff,List.any_eq_true,decide_eq_true_eq];constructor
 ·rintro⟨⟨a,b⟩,h,q⟩;unfold wN at q;simp at q;obtain⟨rfl,rfl⟩:=q;exact h
 intro h;exact⟨_,h,by simp[wN]⟩
theorem Bd(L:List (Int×Int))(k t:Int)(hl:L.length<=2 ^ 40):bq Tryz.prog 69 [.aB 2 (L.map tv) .sh,.agg [aI k,aI t]] (aI (yX (wN k t) L 0)):=by
 obtain⟨R,hR⟩:∃R,R=yX (wN k t) L 0:=⟨_,rfl⟩
 rw[<-hR];refine zf true 0 Tryz.func69 Tryz.ntmps69 ?_;dsimp only[Tmp,TypeId,slotsOf];refine az (ah ?_);refine aC 3 0 (.ip none [aI k,aI t]) rfl (by simp[ai.aD]) trivial rfl ?_ ?_;rotate_left;simp -dsimp only[simprocAttr,↓aa,zp];rotate_left
 ·exact bY.mp rfl rfl
 refine ck (ah ?_);refine ag (aM (ι:={j:Nat // j<=L.length∧R=yX (wN k t) (L.drop j) j}) (fun j=>⟨19,[(0,.aB 2 (L.map tv) .sh),(3,.ip none [aI k,aI t]),(7,aI L.length),(8,aI j.1)],[.gone]⟩) (fun j=>L.length-j.1) ⟨0,by omega,hR⟩ ?_ ?_)
 ·refine zq rfl ?_ ?_;simp -dsimp only[simprocAttr,↓aa,zp,zc]
  all_goals rfl
 rintro⟨j,hj,de⟩;refine az (ah ?_);apply ic rfl<;>intro h
 ·refine ct ?_;have a8:j<L.length:=by simpa using h
  obtain⟨x,hx⟩:∃x,L[j]?=some x:=⟨L[j],by simp[a8]⟩
  rw[bA hx,yX]at de;refine aG (ag ?_);refine az (ah ?_);refine aU ?_;simp -dsimp only[simprocAttr,↓aa,zp,hx,tv]
  repeat(refine⟨by omega,?_⟩)
  refine⟨G1,?_⟩;refine⟨ob (by kernel_rfl),?_⟩;refine ah ?_;apply aP rfl<;>intro h
  ·have hb:wN k t x=true:=h;rw[if_pos hb]at de;refine az (ah ?_);refine aq ?_;simp -dsimp only[simprocAttr,↓aa,zp,zr,Tryz.results69];rw[de]
  refine lX ?_;have hb:wN k t x=false:=h;rw[if_neg (by rw[hb];decide)]at de;refine cC ?_
  repeat(refine⟨by omega,?_⟩)
  refine eX ?_;refine⟨⟨j+1,a8,de⟩,by simp;omega,?_⟩;refine zq rfl ?_ ?_;simp -dsimp only[simprocAttr,↓aa,zp,zc]
  ·exact Sub.int (by simp)
  rfl
 refine aF ?_;simp -dsimp only[bF,ne_eq,Nat.reduceEqDiff,reduceCtorEq];have ik:j=L.length:=by simp at h;omega
 subst ik;rw[List.drop_length,yX]at de;refine az (ah ?_);refine aq ?_;simp -dsimp only[simprocAttr,↓aa,zp,zr,Tryz.results69];rw[de]
theorem uI(L:List (Int×Int))(k t:Int)(hl:L.length<=2 ^ 40):bq Tryz.prog 47 [.aB 2 (L.map tv) .sh,.agg [aI k,aI t]] (.v (.bool (decide ((k,t)∈L)))):=by
 have Ja:=Bd L k t hl;have hd:=Bc (wN k t) L 0;rw[JA]at hd;generalize yX (wN k t) L 0=r at *;refine zf true 0 Tryz.func47 Tryz.ntmps47 ?_;dsimp only[Tmp,TypeId,slotsOf];refine az (ah ?_);refine aC 3 0 (.ip none [aI k,aI t]) rfl (by simp[ai.aD]) trivial rfl ?_ ?_;rotate_left;simp -dsimp only[simprocAttr,↓aa,zp];rotate_left
 ·exact bY.mp rfl rfl
 refine az ?_;refine .inl ⟨_,Ja,by simp only[av,ae.upto,zt,zu,ax,c9],ao ?_⟩;simp -dsimp only[simprocAttr,↓aa,zp,hd];refine ah ?_;refine aq ?_;simp -dsimp only[simprocAttr,↓aa,zp,zr,Tryz.results47]
structure RE(N:Nat)(many:List Int)(O:List ai):Prop where
 len:many.length=N
 m2:O[2]?=some (.cells (many.map aI))
 m3:O[3]?=some (.cells [.ms 2 0 N N])
 up:∀o∈O,o.upto O.length
theorem GI{N:Nat}{many:List Int}{O:List ai}(h:RE N many O){t:Int}(h0:0<=t∧t<N){c:Int}(hc:many[t.toNat]?=some c)(hb:0<=c∧c<=1000000)(hN:N<=128) :
  bh Tryz.prog 48 O [aI t,.mp 3 0] (fun r O'=>r=.cx []∧RE N (kO many t) O'∧O'.length=O.length):=by
 have hl:=h.len;have h2:=h.m2;have h3:=h.m3;have br:=h.up;obtain⟨m,rfl⟩:∃m:Nat,t=(m:Int):=⟨t.toNat,by omega⟩
 rw[Int.toNat_natCast]at hc;have lP:=tZ (l:=many) (j:=m) (by omega) (c+1);have W3:(many.map aI)[m]?=some (aI c):=by rw[List.getElem?_map,hc];rfl
 have OQ:kO many m=many.set m (c+1):=by
  unfold kO;rw[Int.toNat_natCast,hc];rfl
 rw[OQ];refine oN hT Tryz.func48 rfl (by kernel_rfl) (by simp[Tryz.ntmps48]) ?_;show cn Tryz.prog _ _ _ ⟨9,_,_⟩;dsimp only[Tmp,TypeId,slotsOf];refine jD ?_;simp -dsimp only[simprocAttr,↓aa,zp,h2,h3,W3,lP,hl,Int.toNat_natCast,Nat.mul_one]
 repeat(refine⟨by omega,?_⟩)
 refine aV ?_;simp -dsimp only[simprocAttr,↓aa,zp,rN,Tryz.results48,en,kS,gE,gq,eY,fH];refine⟨⟨by rw[List.length_set,hl],ja h2,aW h3 (by decide),?_⟩,by simp⟩;have:=bg (k:=2) (x:=.cells ((many.set m (c+1)).map aI)) br (by exact ax _ _);simpa using this
structure RF(N:Nat)(S:Kh)(O:List ai):Prop where
 c:RE N S.many O
 ex:∃(wid:Nat) (gb:List ae),O[5]?=some (.cells [.os wid S.work.length 1])∧O[wid]?=some (.cells (S.work.map aI++gb))∧wid≠2∧wid≠3∧wid≠5
theorem GF{N:Nat}{S:Kh}{O:List ai}(h:RF N S O){t:Int}(h0:0<=t∧t<N){c:Int}(hc:S.many[t.toNat]?=some c)(hb:1<=c∧c<=1000000)(hN:N<=128)(hw:S.work.length<=128) :
  bh Tryz.prog 49 O [aI t,.mp 3 0,.mp 5 0] (fun r O'=>r=.cx []∧RF N (n6 S t) O'∧O.length<=O'.length):=by
 obtain⟨⟨hl,h2,h3,br⟩,wid,gb,h5,Js,n2,n3,n5⟩:=h;obtain⟨m,rfl⟩:∃m:Nat,t=(m:Int):=⟨t.toNat,by omega⟩
 rw[Int.toNat_natCast]at hc;have lP:=tZ (l:=S.many) (j:=m) (by omega) (c-1);have W3:(S.many.map aI)[m]?=some (aI c):=by rw[List.getElem?_map,hc];rfl
 have zY:n6 S m=⟨S.many.set m (c-1),if c-1=0 then S.work++[(m:Int)]else S.work⟩:=by
  unfold n6;rw[Int.toNat_natCast,hc];rfl
 rw[zY];have Yi:(O.set 2 (.cells ((S.many.set m (c-1)).map aI))).length=O.length:=List.length_set;have YV:=I h2;have YY:=I h5;have Va:=I Js;refine oN hT Tryz.func49 rfl (by kernel_rfl) (by simp[Tryz.ntmps49]) ?_;show cn Tryz.prog _ _ _ ⟨19,_,_⟩;dsimp only[Tmp,TypeId,slotsOf];refine aU ?_;simp -dsimp only[simprocAttr,↓aa,zp,h2,h3,W3,lP,hl,Int.toNat_natCast,Nat.mul_one]
 repeat(refine⟨by omega,?_⟩)
 refine ah ?_;have g2:(O.set 2 (.cells ((S.many.set m (c-1)).map aI)))[2]?=some (.cells ((S.many.set m (c-1)).map aI)):=ja h2;have g3:(O.set 2 (.cells ((S.many.set m (c-1)).map aI)))[3]?=some (.cells [.ms 2 0 N N]):=aW h3 (by decide);have g5:(O.set 2 (.cells ((S.many.set m (c-1)).map aI)))[5]?=some (.cells [.os wid S.work.length 1]):=aW h5 (by decide);have gw:(O.set 2 (.cells ((S.many.set m (c-1)).map aI)))[wid]?=some (.cells (S.work.map aI++gb)):=aW Js (Ne.symm n2);have XC:∀o∈O.set 2 (.cells ((S.many.set m (c-1)).map aI)),o.upto (O.set 2 (.cells ((S.many.set m (c-1)).map aI))).length:=by
  have:=bg (k:=2) (x:=.cells ((S.many.set m (c-1)).map aI)) br (by exact ax _ _);simpa using this
 have W4:((S.many.set m (c-1)).map aI)[m]?=some (aI (c-1)):=by
  rw[List.getElem?_map,List.getElem?_set_self (by omega)];rfl
 have yR:(S.many.set m (c-1)).length=N:=by rw[List.length_set,hl]
 generalize O.set 2 (.cells ((S.many.set m (c-1)).map aI))=O1 at *;generalize S.many.set m (c-1)=many at *;refine aU ?_;simp -dsimp only[simprocAttr,↓aa,zp,g2,g3,W4,yR,Int.toNat_natCast,Nat.mul_one]
 repeat(refine⟨by omega,?_⟩)
 refine ah ?_;have w1l:=I gw;have w5l:=I g5;have w3l:=I g3;apply aP rfl<;>intro h
 ·have VX:c-1=0:=by simpa using h
  rw[if_pos VX];have zV:(S.work.map aI++gb).take (S.work.length*1)=S.work.map aI:=List.take_left' (by simp);have VI:(S.work.map aI++gb).take S.work.length=S.work.map aI:=List.take_left' (by simp);have k5:(O1.set wid .gone++[ai.cells (S.work.map aI++[aI m])])[5]?=some (.cells [.os wid S.work.length 1]):=bS (aW g5 n5);refine fE hT hm ?_;simp -dsimp only[simprocAttr,↓aa,zp,g5,gw,c4,c8,zV,VI,k5]
  repeat(refine⟨by omega,?_⟩)
  refine⟨trivial,?_⟩;refine aV ?_;simp -dsimp only[simprocAttr,↓aa,zp,rN,Tryz.results49,en,kS,gE,gq,eY,fH];refine⟨⟨⟨yR,?_,?_,?_⟩,O1.length,[],?_,?_,by omega,by omega,by omega⟩,?_⟩
  ·exact aW (bS (aW g2 n2)) (by decide)
  ·exact aW (bS (aW g3 n3)) (by decide)
  ·intro o ho;have mj:=bg (k:=5) (x:=.cells [.os O1.length (S.work.length+1) 1]) (fL (x:=ai.cells (S.work.map aI++[aI m])) (bg (k:=wid) (x:=.gone) (fun o ho=>ai.bK (show O1.length<=O1.length+1 by omega) (XC o ho)) trivial) (by
    have:=ax (O1.length+1) (S.work++[(m:Int)]);rw[List.map_append]at this;exact this)) (show ai.upto (O1.length+1) (.cells [.os O1.length (S.work.length+1) 1]) from⟨show O1.length<O1.length+1 by omega,trivial⟩) o ho
   simpa using mj
  ·rw[ja k5,List.length_append];rfl
  ·have h9:=dI (O1.set wid .gone) (ai.cells (S.work.map aI++[aI m]));rw[List.length_set]at h9;rw[aW h9 (by omega),List.map_append,List.append_nil];rfl
  simp;omega
 have VX:c-1≠0:=by simpa using h
 rw[if_neg VX];refine ba ?_;simp -dsimp only[simprocAttr,↓aa,zp,rN,Tryz.results49,en,kS,gE,gq,eY,fH];exact⟨⟨⟨yR,g2,g3,XC⟩,wid,gb,g5,gw,n2,n3,n5⟩,by omega⟩
def C6(f:Func)(k:Int)(es:List Edge):List Int:=(es.map fun e=>e.block).filter fun t=>!decide ((k,t)∈dd f)
theorem EK(f:Func)(k:Int):kJ f k=C6 f k (eA f k):=rfl
theorem yL(f:Func)(k:Int)(a b:List Edge):C6 f k (a++b)=C6 f k a++C6 f k b:=by
 unfold C6;rw[List.map_append,List.filter_append]
structure Fq where
 z:Nat
 O:List ai
theorem qV{f:Func}(hg:fv f)(P:List Int->List ai->Prop)(uid:Nat)(BU:List ae){O0:List ai}(br:∀p O,P p O->(∀o∈O,o.upto O.length)∧av O.length BU∧O0.length<=O.length){k:Int}(hk:0<=k∧k<f.blocks.length)
  (B4:∀p t q O,kJ f k=p++t::q->P p O->bh Tryz.prog uid O (aI t::BU) (fun r O'=>r=.cx []∧P (p++[t]) O')) (h0:P [] O0) :
  bh Tryz.prog 46 O0 [aI k,.fn (.func uid) [] BU,.ip none [aI f.name,aw f.blocks],.ip none [.aB 2 ((dd f).map tv) .sh]] (fun r O'=>r=.cx []∧P (kJ f k) O'):=by
 have XW:=oK hg;obtain⟨B,hB⟩:∃B,f.blocks[k.toNat]?=some B:=⟨f.blocks[k.toNat]'(by omega),List.getElem?_eq_getElem _⟩
 have xE:eA f k=B.term.to:=by simp[eA,aY,hB]
 have SK:=List.mem_of_getElem? hB;have Mu:=hg.ee B SK;have SJ:=hg.to B SK;have xz:=fun t=>uI (dd f) k t (by omega);have nv:∀z x,B.term.to[z]?=some x->kJ f k=C6 f k (B.term.to.take z)++(C6 f k [x]++C6 f k (B.term.to.drop (z+1))):=fun z x hx=>by
  rw[EK,xE,<-yL,<-yL,List.singleton_append,<-bA hx,List.take_append_drop]
 have dG:∀z x,B.term.to[z]?=some x->C6 f k (B.term.to.take (z+1))=C6 f k (B.term.to.take z)++C6 f k [x]:=fun z x hx=>by
  rw[List.take_add_one,hx,Option.toList_some,yL]
 have X8:∀x:Edge,C6 f k [x]=if decide ((k,x.block)∈dd f)=true then []else [x.block]:=fun x=>by
  unfold C6;cases h:decide ((k,x.block)∈dd f)<;>simp[h]
 have lO:C6 f k B.term.to=kJ f k:=by rw[EK,xE]
 obtain⟨L,hL⟩:∃L,L=dd f:=⟨_,rfl⟩
 rw[<-hL]at xz X8 ⊢;refine oN hT Tryz.func46 rfl (by kernel_rfl) (by simp[Tryz.ntmps46]) ?_;show cn Tryz.prog _ _ _ ⟨32,_,_⟩;dsimp only[Tmp,TypeId,slotsOf];refine aU ?_;simp -dsimp only[simprocAttr,↓aa,zp,hB]
 repeat(refine⟨by omega,?_⟩)
 refine ah ?_;refine ag (aM (ι:={X:Fq // X.z<=B.term.to.length∧P (C6 f k (B.term.to.take X.z)) X.O}) (fun X=>⟨32,[(0,aI k),(1,.fn (.func uid) [] BU),(2,.ip none [aI f.name,aw f.blocks]),(3,.ip none [.aB 2 (L.map tv) .sh]),(14,aH B.term.to),(15,aI B.term.to.length),(16,aI X.1.z)],X.1.O⟩) (fun X=>B.term.to.length-X.1.z) ⟨⟨0,O0⟩,Nat.zero_le _,h0⟩ ?_ ?_)
 ·refine zq rfl ?_ ?_;simp -dsimp only[simprocAttr,↓aa,zp,zc]
  all_goals rfl
 rintro⟨⟨z,O⟩,hz,hP⟩;simp only at hz hP;obtain⟨u1,u2,u3⟩:=br _ _ hP;refine az (ah ?_);apply ic rfl<;>intro h
 ·refine ct ?_;have mf:z<B.term.to.length:=by simpa using h
  obtain⟨x,hx⟩:∃x,B.term.to[z]?=some x:=⟨B.term.to[z],by simp[mf]⟩
  have Ju:=Mu x (List.mem_of_getElem? hx);have P9:=xz x.block;have W0:=nv z x hx;have Jq:=dG z x hx;rw[X8]at W0 Jq;refine aG (ag ?_);refine aU ?_;simp -dsimp only[simprocAttr,↓aa,zp,hx];refine ah ?_;refine aK 7 ([aI x.block,a7 x.args]) [(0,aI k),(1,.fn (.func uid) [] BU),(2,.ip none [aI f.name,aw f.blocks]),(3,.ip none [.aB 2 (L.map tv) .sh]),(14,aH B.term.to),(15,aI B.term.to.length),(16,aI z),(7,.ip none [aI x.block,a7 x.args])] (by simp[bt,bc,Go.Av.look]) (by rfl) (by omega) (by simp[bt,bc,Go.Av.look]) ?_ ?_ ?_
  ·exact u1
  ·simp[ae.upto,av,ax,Edge.ak,Ins.ak,Block.ak,c9,u2]
  cases hd:decide ((k,x.block)∈L)with
  | true =>
   rw[hd]at P9;rw[if_pos hd,List.append_nil]at Jq;refine az ?_;refine .inl ⟨_,P9,by simp only[av,ae.upto,zt,zu,ax,c9],ao ?_⟩;simp -dsimp only[simprocAttr,↓aa,zp];refine ah ?_;refine cm rfl ?_;refine lX ?_;refine cC ?_
   repeat(refine⟨by omega,?_⟩)
   refine eX ?_;refine⟨⟨⟨z+1,O⟩,mf,by simp only;rw[Jq];exact hP⟩,by simp;omega,?_⟩;refine zq rfl ?_ ?_;simp -dsimp only[simprocAttr,↓aa,zp,zc]
   ·exact Sub.int (by simp)
   rfl
  | false =>
   rw[hd]at P9;rw[if_neg (by rw[hd];decide)]at Jq W0;have VQ:=B4 _ _ _ O W0 hP;refine az ?_;refine .inl ⟨_,P9,by simp only[av,ae.upto,zt,zu,ax,c9],ao ?_⟩;simp -dsimp only[simprocAttr,↓aa,zp];refine ah ?_;refine cY rfl ?_;refine lg ⟨false,false⟩ hT 3 rfl rfl rfl (by simp) ?_;simp -dsimp only[simprocAttr,↓aa,zp];refine⟨_,ll rfl (by simp) rfl rfl VQ,fun r O' hR=>?_⟩;obtain⟨hr,Zo⟩:=hR;subst hr;refine ah ?_;refine cC ?_
   repeat(refine⟨by omega,?_⟩)
   refine eX ?_;refine⟨⟨⟨z+1,O'⟩,mf,by simp only;rw[Jq];exact Zo⟩,by simp;omega,?_⟩;refine zq rfl ?_ ?_;simp -dsimp only[simprocAttr,↓aa,zp,zc]
   ·exact Sub.int (by simp)
   rfl
 refine aF ?_;simp -dsimp only[bF,ne_eq,Nat.reduceEqDiff,reduceCtorEq];have rM:z=B.term.to.length:=by
  have:=of_decide_eq_false h;omega
 subst rM;rw[List.take_length,lO]at hP
 skip
 simp -dsimp only[simprocAttr,↓aa,zp,rN,Tryz.results46,en,kS,gE,gq,eY,fH];exact hP
theorem Ad{f:Func}(hg:fv f):(j6 f).length<=33000:=by
 have h1:∀l:List Int,(∀k∈l,k∈dw f)->(l.flatMap (kJ f)).length<=l.length*257:=by
  intro l;induction l with
  | nil=>simp
  | cons a r ih =>
   intro hl;have h2:=ih fun k hk=>hl k (List.mem_cons_of_mem _ hk);have hr:=eU hg (hl a List.mem_cons_self);have h3:(kJ f a).length<=257:=by
    have h4:=hg.to _ (dY (f:=f) (k:=a) hr.1 hr.2);have h5:(kJ f a).length<=(eA f a).length:=by
     unfold kJ;refine Nat.le_trans (List.length_filter_le _ _) ?_;rw[List.length_map];exact Nat.le_refl _
    unfold eA at h5;omega
   rw[List.flatMap_cons,List.length_append,List.length_cons];omega
 have h2:=h1 (dw f) fun k hk=>hk;have h3:=(cE hg).few;have h4:(dw f).length=(bx f).length:=(fJ _).length_eq;unfold j6;omega
theorem w7.get{f:Func}{ps Q:List Int}{S:Kh}(h:w7 f ps Q S)(hg:fv f){t:Int}(ht:t∈dw f)(hc:(Q++[t]).count t<=(j6 f).count t):∃c,S.many[t.toNat]?=some c∧1<=c∧c<=1000000:=by
 have qw:=eU hg ht;have h1:=h.UJ t.toNat (by omega)
 rw[Int.toNat_of_nonneg qw.1]at h1;have h2:=List.count_le_length (a:=t) (l:=j6 f);have h3:=Ad hg;rw[List.count_append]at hc;simp at hc;exact⟨_,h1,by omega,by omega⟩
theorem w7.few{f:Func}{ps Q:List Int}{S:Kh}(h:w7 f ps Q S)(hg:fv f):ps.length+S.work.length<=f.blocks.length:=by
 have:=mW (n:=f.blocks.length) h.nd fun x hx=>eU hg (h.rn x hx);rw[List.length_append]at this;exact this
structure Rk where
 ps:List Int
 S:Kh
 O:List ai
theorem oq(f:Func)(bJ:f.fit)(hc:aN f=0)(b:Bool)(hb:b=true↔Py f):bq Tryz.prog 18 [f.enc] (.cx [.v (.bool b),aI 0]):=by
 have xx:=pJ f bJ;have B7:=kQ f bJ;unfold Ak at xx;unfold J8 at B7;rw[if_pos hc]at xx B7;have hv:=ig bJ hc;have hg:=hv.fn.gr;have hn:f.blocks.length<=128:=hg.few;have lN:=Ad hg;have dG:=JB hv;have OF:(dw f).length<=128:=by rw[ru];exact(cE hg).few
 obtain⟨N,hN⟩:∃N,N=f.blocks.length:=⟨_,rfl⟩
 have I9:∀k∈dw f,∀t∈kJ f k,t∈dw f:=fun k hk t ht=>lL hg hk ht;have Lo:∀t∈dw f,0<=t∧t<N:=fun t ht=>by rw[hN];exact eU hg ht
 obtain⟨L,hL⟩:∃L,L=dw f:=⟨_,rfl⟩
 have yU:∀i k,L[i]?=some k->j6 f=(L.take i).flatMap (kJ f)++(kJ f k++(L.drop (i+1)).flatMap (kJ f)):=fun i k hk=>by
  rw[<-List.flatMap_cons,<-bA hk,<-List.flatMap_append,List.take_append_drop,hL];rfl
 rw[<-hL]at B7 OF Lo I9;rw[<-hN]at dG;refine zf true 0 Tryz.func18 Tryz.ntmps18 ?_;dsimp only[Tmp,TypeId,slotsOf];refine az (ah ?_);refine aC 1 0 (.ip none [aI f.name,aw f.blocks]) rfl (by simp[ai.aD]) trivial rfl ?_ ?_;rotate_left;simp -dsimp only[simprocAttr,↓aa,zp];rotate_left
 ·exact bY.mp rfl rfl
 refine az ?_;refine .inl ⟨_,xx,by simp only[av,ae.upto,zt,zu,ax,c9],ao ?_⟩;simp -dsimp only[simprocAttr,↓aa,zp];refine ah ?_;refine aC 4 1 (.ip none [.aB 2 ((dd f).map tv) .sh]) rfl (by simp[ai.aD]) trivial rfl ?_ ?_;rotate_left;simp -dsimp only[simprocAttr,↓aa,zp];rotate_left
 ·exact bY.mp rfl rfl
 refine ck (ah ?_);apply aP rfl<;>intro h
 ·cases h
 refine ct ?_;refine az ?_;refine .inl ⟨_,B7,by simp only[av,ae.upto,zt,zu,ax,c9],ao ?_⟩;simp -dsimp only[simprocAttr,↓aa,zp];refine ah ?_;refine aU ?_;simp -dsimp only[simprocAttr,↓aa,zp,oH,<-hN]
 repeat(refine⟨by omega,?_⟩)
 refine ah ?_;refine az (ah ?_);refine ck (ah ?_);have Zf:RE N (List.replicate N 0) [.gone,.gone,.cells ((List.replicate N 0).map aI),.cells [.ms 2 0 N N]]:=by
  refine⟨by simp,rfl,rfl,?_⟩;have:=ax 4 (List.replicate N 0);intro o ho;simp only[List.mem_cons,List.not_mem_nil,or_false]at ho;rcases ho with rfl|rfl|rfl|rfl
  ·trivial
  ·trivial
  ·exact this
  exact⟨show 2<4 by decide,trivial⟩
 refine ag (aM (ι:={X:Fq // X.z<=L.length∧RE N (((L.take X.z).flatMap (kJ f)).foldl kO (List.replicate N 0)) X.O∧X.O.length=4}) (fun X=>⟨69,[(1,.ip none [aI f.name,aw f.blocks]),(4,.ip none [.aB 2 ((dd f).map tv) .sh]),(6,a7 L),(8,.mp 3 0),(9,.fn (.func 46) [] [.ip none [aI f.name,aw f.blocks],.ip none [.aB 2 ((dd f).map tv) .sh]]),(33,a7 L),(34,aI L.length),(35,aI X.1.z)],X.1.O⟩) (fun X=>L.length-X.1.z) ⟨⟨0,_⟩,Nat.zero_le _,Zf,rfl⟩ ?_ ?_)
 ·refine zq rfl ?_ ?_;simp -dsimp only[simprocAttr,↓aa,zp,zc]
  all_goals rfl
 rintro⟨⟨i,O⟩,hi,hK,PX⟩;simp only at hi hK PX;refine az (ah ?_);apply ic rfl<;>intro h
 ·refine ct ?_;have a8:i<L.length:=by simpa using h
  obtain⟨k,hk⟩:∃k,L[i]?=some k:=⟨L[i]'(by omega),List.getElem?_eq_getElem _⟩
  have Tz:=List.mem_of_getElem? hk;have qu:=Lo k Tz;have QG:=yU i k hk;have jf:(L.take (i+1)).flatMap (kJ f)=(L.take i).flatMap (kJ f)++kJ f k:=by
   rw[List.take_add_one,hk,Option.toList_some,List.flatMap_append];simp
  obtain⟨A,hA⟩:∃A,A=(L.take i).flatMap (kJ f):=⟨_,rfl⟩
  rw[<-hA]at hK QG jf;have V6:=qV hg (fun p O=>RE N (p.foldl kO (A.foldl kO (List.replicate N 0))) O∧O.length=4) 48 [.mp 3 0] (O0:=O) (k:=k) (fun p O h=>⟨h.1.up,⟨by show 3<O.length;rw[h.2];decide,trivial⟩,by rw[h.2,PX];exact Nat.le_refl _⟩) (by rw[<-hN];exact qu) (fun p t q O hq hP=>by
   have R8:t∈kJ f k:=by rw[hq];simp
   have qw:=Lo t (I9 k Tz t R8);have mi:∀x∈A++p,0<=x:=fun x hx=>by
    have yV:x∈j6 f:=by
     rw[QG,hq];rcases List.mem_append.1 hx with h|h
     ·exact List.mem_append_left _ h
     exact List.mem_append_right _ (List.mem_append_left _ (List.mem_append_left _ h))
    obtain⟨y,hy,hxy⟩:=List.mem_flatMap.1 yV;rw[<-hL]at hy;exact(Lo x (I9 y hy x hxy)).1
   obtain⟨f1,f2⟩:=p8 (A++p) (List.replicate N 0) mi;have Ge:=f2 t.toNat 0 (by rw[List.getElem?_replicate,if_pos (by omega)]);rw[Int.toNat_of_nonneg qw.1,List.foldl_append]at Ge;have hZ:=List.count_le_length (a:=t) (l:=A++p);have cB:(A++p).length<=(j6 f).length:=by
    rw[QG,hq];simp only[List.length_append,List.length_cons];omega
   have:=GI hP.1 qw Ge (by omega) (by omega);rw[List.foldl_append,List.foldl_cons,List.foldl_nil];refine this.mono fun r O' hr=>⟨hr.1,hr.2.1,by rw[hr.2.2];exact hP.2⟩) ⟨hK,PX⟩
  refine aG (ag ?_);refine aU ?_;simp -dsimp only[simprocAttr,↓aa,zp,hk]
  repeat(refine⟨by omega,?_⟩)
  refine ah ?_;refine lg ⟨false,false⟩ hT 3 rfl rfl rfl (by simp) ?_;simp -dsimp only[simprocAttr,↓aa,zp];refine⟨_,ll rfl (by simp) rfl rfl V6,fun r O' hR=>?_⟩;obtain⟨hr,Ze,VF⟩:=hR;subst hr;refine ah ?_;refine cC ?_
  repeat(refine⟨by omega,?_⟩)
  refine eX ?_;refine⟨⟨⟨i+1,O'⟩,a8,by simp only;rw[jf,List.foldl_append];exact Ze,VF⟩,by simp;omega,?_⟩;refine zq rfl ?_ ?_;simp -dsimp only[simprocAttr,↓aa,zp,zc]
  ·exact Sub.int (by simp)
  rfl
 refine aF ?_;simp -dsimp only[bF,ne_eq,Nat.reduceEqDiff,reduceCtorEq];have Gl:i=L.length:=by
  have:=of_decide_eq_false h;omega
 subst Gl;rw[List.take_length]at hK;have SS:L.flatMap (kJ f)=j6 f:=by rw[hL];rfl
 rw[SS]at hK;obtain⟨XL,XK,Zg,Zh⟩:=hK;refine aG (mF ⟨false,false⟩ hT 0 rfl rfl rfl (by simp) ?_);simp -dsimp only[simprocAttr,↓aa,zp];refine u9 hT rfl rfl (by simp) rfl rfl rfl (by simp) rfl (by intro p hp;simp at hp;subst hp;trivial) rfl rfl (by intro x hx;simp at hx;subst hx;rfl) (by simp) (by simp) ?_;simp -dsimp only[simprocAttr,↓aa,zp];refine⟨trivial,rfl,?_⟩;refine ah ?_;rw[PX];refine az (ah ?_);obtain⟨M0,Zl⟩:∃M,M=(j6 f).foldl kO (List.replicate N 0):=⟨_,rfl⟩
 rw[<-Zl]at dG XL XK;have Y6:RF N ⟨M0,[0]⟩ (O++[ai.cells [aI 0],.cells [.os 4 1 1]]):=by
  refine⟨⟨XL,bS XK,bS Zg,?_⟩,4,[],?_,?_,by omega,by omega,by omega⟩
  ·intro o ho;rw[List.length_append];rcases List.mem_append.1 ho with q|q
   ·exact ai.bK (by simp) (Zh o q)
   simp only[List.mem_cons,List.not_mem_nil,or_false]at q;rcases q with rfl|rfl
   ·exact⟨trivial,trivial⟩
   exact⟨show 4<_ by rw[PX];decide,trivial⟩
  ·rw[List.getElem?_append_right (by omega),PX];rfl
  rw[List.getElem?_append_right (by omega),PX];rfl
 refine aG (ag (aM (ι:={X:Rk // w7 f X.ps (X.ps.flatMap (kJ f)) X.S∧RF N X.S X.O}) (fun X=>⟨69,[(1,.ip none [aI f.name,aw f.blocks]),(4,.ip none [.aB 2 ((dd f).map tv) .sh]),(6,a7 L),(8,.mp 3 0),(9,.fn (.func 46) [] [.ip none [aI f.name,aw f.blocks],.ip none [.aB 2 ((dd f).map tv) .sh]]),(12,.mp 5 0),(13,aI X.1.ps.length)],X.1.O⟩) (fun X=>N-X.1.ps.length) ⟨⟨[],⟨M0,[0]⟩,O++[ai.cells [aI 0],.cells [.os 4 1 1]]⟩,dG,Y6⟩ ?_ ?_))
 ·refine zq rfl ?_ ?_;simp -dsimp only[simprocAttr,↓aa,zp,zc]
  all_goals rfl
 rintro⟨⟨ps,S,O⟩,hI,hD⟩;simp only at hI hD;have Gj:=hI.few hg;obtain⟨⟨hl,h2,h3,br⟩,wid,gb,h5,Js,n2,n3,n5⟩:=hD;by_cases tR:S.work=[]
 ·have Di:S.work.length=0:=by rw[tR];rfl
  rw[Di]at h5;refine cK ?_;simp -dsimp only[simprocAttr,↓aa,zp,h5];refine ah ?_;refine cm rfl ?_;refine aF ?_;simp -dsimp only[bF,ne_eq,Nat.reduceEqDiff,reduceCtorEq];have vU:=MO hg hI tR;have I7:decide ((ps.length:Int)=(L.length:Int))=b:=by
   rw[Bool.eq_iff_iff,decide_eq_true_eq,hb,<-vU,hL];omega
  refine aU ?_;simp -dsimp only[simprocAttr,↓aa,zp,I7];refine ah ?_;refine aq ?_;simp -dsimp only[simprocAttr,↓aa,zp,zr,Tryz.results18];exact⟨trivial,trivial,trivial⟩
 obtain⟨w,k,hk⟩:∃w k,S.work=w++[k]:=⟨S.work.dropLast,S.work.getLast tR,(List.dropLast_concat_getLast tR).symm⟩
 have yS:S.work.length=w.length+1:=by rw[hk];simp
 have qu:=hI.rn k (by rw[hk];simp);rw[yS]at h5;have A8:((w.length+1:Nat):Int)-1=(w.length:Nat):=by omega
 obtain⟨cs,fw⟩:∃cs,cs=S.work.map aI++gb:=⟨_,rfl⟩
 have wE:cs=w.map aI++(aI k::gb):=by rw[fw,hk];simp
 have B4:cs[w.length]?=some (aI k):=by
  rw[wE,List.getElem?_append_right (by simp)];simp
 have hZ:w.length+1<=cs.length:=by rw[wE];simp
 rw[<-fw]at Js;have YY:=I h5;have Va:=I Js;refine cK ?_;simp -dsimp only[simprocAttr,↓aa,zp,h5];refine ah ?_;apply aP rfl<;>intro h
 ·refine ct ?_;refine ag ?_;refine aU ?_;simp -dsimp only[simprocAttr,↓aa,zp,h5,A8,Js,B4,Nat.mul_one]
  repeat(refine⟨by omega,?_⟩)
  refine ah ?_;refine aU ?_;simp -dsimp only[simprocAttr,↓aa,zp,h5,A8,Js,Nat.mul_one]
  repeat(refine⟨by omega,?_⟩)
  refine⟨trivial,rfl,?_⟩;refine ah ?_;have WW:bp [ae.os wid (w.length+1) 1] 0 (ae.os wid w.length 1).cells=[ae.os wid w.length 1]:=rfl;rw[WW];have Y7:RF N ⟨S.many,w⟩ (O.set 5 (.cells [.os wid w.length 1])):=by
   refine⟨⟨hl,aW h2 (by decide),aW h3 (by decide),?_⟩,wid,aI k::gb,ja h5,?_,n2,n3,n5⟩
   ·have:=bg (k:=5) (x:=.cells [.os wid w.length 1]) br ⟨Va,trivial⟩;simpa using this
   rw[aW Js (Ne.symm n5),wE]
  have VE:(O.set 5 (.cells [.os wid w.length 1])).length=O.length:=List.length_set;generalize O.set 5 (.cells [.os wid w.length 1])=O1 at *;have Ty:k∈dw f:=qu;have Qz:=hI.pop hk;have bG:=hI.step hg hk;have Dq:∀t,((ps.flatMap (kJ f))++kJ f k).count t<=(j6 f).count t:=fun t=>by
   have h1:=tK (g:=kJ f) (t:=t) (ps++[k]) (dw f) (List.nodup_append.1 Qz.nd).1 fun x hx=>Qz.rn x (List.mem_append_left _ hx);rw[List.flatMap_append]at h1;unfold j6;simpa using h1
  have V6:=qV hg (fun p O=>RF N (p.foldl n6 ⟨S.many,w⟩) O∧O1.length<=O.length) 49 [.mp 3 0,.mp 5 0] (O0:=O1) (k:=k) (fun p O h=>by
   obtain⟨⟨⟨a1,a2,a3,a4⟩,_,_,a5,_⟩,a6⟩:=h;have:=I a3;have:=I a5;exact⟨a4,⟨by assumption,by assumption,trivial⟩,a6⟩) (eU hg Ty) (fun p t q O hq hP=>by
   have R8:t∈kJ f k:=by rw[hq];simp
   have qw:=lL hg Ty R8;have XI:=Qz.fold hg p (fun x hx=>lL hg Ty (by rw[hq];exact List.mem_append_left _ hx)) fun x=>by
    have:=Dq x;rw[hq]at this;simp only[List.count_append]at this ⊢;omega
   obtain⟨c,c1,c2,c3⟩:=XI.get hg qw (by
    have:=Dq t;rw[hq]at this;simp only[List.count_append,List.count_cons,List.count_nil]at this ⊢;simp at this ⊢;omega)
   have ZU:=XI.few hg;have hrt:=eU hg qw;have:=GF hP.1 (t:=t) (by omega) c1 ⟨c2,c3⟩ (by omega) (by omega);rw[List.foldl_append,List.foldl_cons,List.foldl_nil];exact this.mono fun r O' hr=>⟨hr.1,hr.2.1,Nat.le_trans hP.2 hr.2.2⟩) ⟨Y7,Nat.le_refl _⟩
  refine az ?_
  repeat(refine⟨by omega,?_⟩)
  refine ah ?_;refine lg ⟨false,false⟩ hT 3 rfl rfl rfl (by simp) ?_;simp -dsimp only[simprocAttr,↓aa,zp];refine⟨_,ll rfl (by simp) rfl rfl V6,fun r O' hR=>?_⟩;obtain⟨hr,Y5,Wm⟩:=hR;subst hr;refine RA ?_;refine⟨⟨⟨ps++[k],(kJ f k).foldl n6 ⟨S.many,w⟩,O'⟩,bG,Y5⟩,by simp;omega,?_⟩;refine zq rfl ?_ ?_;simp -dsimp only[simprocAttr,↓aa,zp,zc]
  ·exact Sub.int (by simp)
  rfl
 exact af h (by omega)
def pr(k:Nat)(s:List Bool)(e:Edge):List Bool:=if s[k]?.getD false=true then s.set e.block.toNat true else s
def Bz(k:Nat)(s:List Bool)(b:Block):List Bool:=b.term.to.foldl (pr k) s
def mr:List Block->Nat->List Bool->List Bool
 | [],_,s=>s
 | b::r,k,s=>mr r (k+1) (Bz k s b)
def mu(f:Func):Nat->List Bool->List Bool
 | 0,s=>s
 | n+1,s=>mu f n (mr f.blocks 0 s)
def lT(f:Func):List Bool:=mu f f.blocks.length ((List.replicate f.blocks.length false).set 0 true)
theorem vx(k:Nat)(s:List Bool)(e:Edge):(pr k s e).length=s.length:=by
 unfold pr;split<;>simp
theorem rp(k:Nat)(s:List Bool)(b:Block):(Bz k s b).length=s.length:=by
 unfold Bz;generalize b.term.to=l;induction l generalizing s with
 | nil=>rfl
 | cons e r ih=>rw[List.foldl_cons,ih,vx]
theorem rq:∀(l:List Block) (k:Nat) (s:List Bool),(mr l k s).length=s.length
 | [],_,_=>rfl
 | b::r,k,s=>by rw[mr,rq r,rp]
theorem rr(f:Func):∀(n:Nat) (s:List Bool),(mu f n s).length=s.length
 | 0,_=>rfl
 | n+1,s=>by rw[mu,rr f n,rq]
theorem vy(f:Func):(lT f).length=f.blocks.length:=by
 unfold lT;rw[rr];simp
end Go.Proofs.YtjdnhamngpafmaaGreat
