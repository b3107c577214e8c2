/-
  Texts bound together by a program of mine: YtjdnhamngpafmaaGreatPc, YtjdnhamngpafmaaGreatPun, YtjdnhamngpafmaaGreatPuo, YtjdnhamngpafmaaGreatPuq, YtjdnhamngpafmaaGreatPur, YtjdnhamngpafmaaGreatPux, YtjdnhamngpafmaaGreatPxa, YtjdnhamngpafmaaGreatPxb, YtjdnhamngpafmaaGreatPza, YtjdnhamngpafmaaGreatPui, YtjdnhamngpafmaaGreatPzb, YtjdnhamngpafmaaGreatPus, YtjdnhamngpafmaaGreatPut, YtjdnhamngpafmaaGreatPva, YtjdnhamngpafmaaGreatPvb, YtjdnhamngpafmaaGreatPzc, YtjdnhamngpafmaaGreatPzd, YtjdnhamngpafmaaGreatPze, YtjdnhamngpafmaaGreatPuu, YtjdnhamngpafmaaGreatPvc, YtjdnhamngpafmaaGreatPzf, YtjdnhamngpafmaaGreatPvd, YtjdnhamngpafmaaGreatPi, YtjdnhamngpafmaaGreatPda, YtjdnhamngpafmaaGreatPzg, YtjdnhamngpafmaaGreatPzh, YtjdnhamngpafmaaGreatPzi, YtjdnhamngpafmaaGreatPzj, YtjdnhamngpafmaaGreatPue, YtjdnhamngpafmaaGreatPuf, YtjdnhamngpafmaaGreatPud, YtjdnhamngpafmaaGreatT49, YtjdnhamngpafmaaGreatT50, YtjdnhamngpafmaaGreatPh, YtjdnhamngpafmaaGreatT51, YtjdnhamngpafmaaGreatPde, YtjdnhamngpafmaaGreatT59, YtjdnhamngpafmaaGreatT52, YtjdnhamngpafmaaGreatT38, YtjdnhamngpafmaaGreatT53, YtjdnhamngpafmaaGreatPdf, YtjdnhamngpafmaaGreatPdg, YtjdnhamngpafmaaGreatPdh, YtjdnhamngpafmaaGreatT101, YtjdnhamngpafmaaGreatT102, YtjdnhamngpafmaaGreatT103, YtjdnhamngpafmaaGreatT107, YtjdnhamngpafmaaGreatT55, YtakdmelemfnmdaaAvv, YtjdnhamngpafmaaGreatT56, YtjdnhamngpafmaaGreatT63, YtjdnhamngpafmaaGreatT57, YtjdnhamngpafmaaGreatT111, YtjdnhamngpafmaaGreatT112, YtjdnhamngpafmaaGreatT113, YtjdnhamngpafmaaGreatT117, YtjdnhamngpafmaaGreatPzk, YtjdnhamngpafmaaGreatPzl, YtjdnhamngpafmaaGreatPzm, YtjdnhamngpafmaaGreatPzn, YtjdnhamngpafmaaGreatPzo, YtjdnhamngpafmaaGreatPy, YtjdnhamngpafmaaGreatPz, YtjdnhamngpafmaaGreatPwa, YtjdnhamngpafmaaGreatPzp, YtjdnhamngpafmaaGreatPuv, YtjdnhamngpafmaaGreatPwb, YtjdnhamngpafmaaGreatPwc, YtjdnhamngpafmaaGreatPzq.
-/
import Derived.Test.YtjdnhamngpafmaaGreatA4
import Derived.Test.YtjdnhamngpafmaaGreatChecked
import Derived.KernelRfl
import Derived.Shelf.Slices.SearchI
import Derived.Shelf.Slices.In.SortNone
import Derived.Shelf.Sort.Plain
set_option linter.all false
set_option maxRecDepth 100000
set_option maxHeartbeats 4000000

namespace Go.Proofs.YtjdnhamngpafmaaGreat
open Go.Av
def iy(k:Int)(l:List Int):Defs:=l.map fun p=>(p,(k,0))
def jb(k:Int):Int->List Ins->Defs
 | _,[]=>[]
 | n,i::r=>(i.to,(k,n+1))::jb k (n+1) r
def jQ(k:Int)(b:Block):Defs:=iy k b.params++jb k 0 b.ins
def iX:Int->List Block->Defs
 | _,[]=>[]
 | k,b::r=>jQ k b++iX (k+1) r
theorem lU{ds:Defs}{v:Int}{p:Int×Int}(h:(cZ ds v p).1=0):(cZ ds v p).2=ds++[(v,p)]:=by
 unfold cZ at h ⊢;split at h
 ·simp at h
 rename_i h1;rw[if_neg h1];split at h
 ·simp at h
 rename_i h2;rw[if_neg h2]
theorem pw(k:Int):∀(l:List Int) (ds:Defs),(dr k ds l).1=0->(dr k ds l).2=ds++iy k l
 | [],ds,_=>by simp[dr,iy]
 | p::r,ds,h=>by
  simp only[dr]at h ⊢;split at h
  ·rename_i bI;exact absurd h bI
  rename_i he;rw[if_neg he,pw k r _ h,lU (by simpa using he)];simp[iy]
theorem E4(k:Int):∀(l:List Ins) (n:Int) (ds:Defs),(l7 k n ds l).1=0->(l7 k n ds l).2=ds++jb k n l
 | [],n,ds,_=>by simp[l7,jb]
 | i::r,n,ds,h=>by
  simp only[l7]at h ⊢;split at h
  ·rename_i bI;exact absurd h bI
  rename_i he;split at h
  ·rename_i hf;exact absurd h hf
  rename_i hf;rw[if_neg he,if_neg hf,E4 k r _ _ h,lU (by simpa using he)];simp[jb]
theorem wA{f:Func}{ds:Defs}{k:Int}(h:(fq f ds k).1=0):(fq f ds k).2=ds++jQ k (aF f k):=by
 unfold fq at h ⊢;split at h
 ·rename_i bI;exact absurd h bI
 rename_i hp;split at h
 ·rename_i bI;exact absurd h bI
 rename_i hi;rw[if_neg hp,if_neg hi];simp only;rw[E4 k _ _ _ (by simpa using hi),pw k _ _ (by simpa using hp),jQ,List.append_assoc]
theorem oZ{f:Func}:∀(n k:Nat) (ds:Defs),k+n=f.blocks.length->(cO f n k ds).1=0->(cO f n k ds).2=ds++iX k (f.blocks.drop k)
 | 0,k,ds,hk,_=>by
  rw[List.drop_of_length_le (by omega)];simp[cO,iX]
 | n+1,k,ds,hk,h=>by
  simp only[cO]at h ⊢;split at h
  ·rename_i bI;exact absurd h bI
  rename_i he;rw[if_neg he];have hb:f.blocks[k]?=some f.blocks[k]:=List.getElem?_eq_getElem (by omega);have ih:=oZ n (k+1) (fq f ds k).2 (by omega) h;have e:((k+1:Nat):Int)=(k:Int)+1:=by omega
  rw[e]at ih;rw[ih,wA (by simpa using he),bQ hb,iX,List.append_assoc];congr 3;simp[aF,hb]
def BO(f:Func):Defs:=iX 0 f.blocks
theorem Rc.ds{f:Func}(bt:f.fit)(h:aN f=0):(cO f f.blocks.length 0 []).2=BO f∧mO f.blocks.length (BO f):=by
 have he:(cO f f.blocks.length 0 []).1=0:=by
  unfold aN at h;split at h
  ·simp at h
  split at h
  ·simp at h
  split at h
  ·simp at h
  split at h
  ·rename_i h4;exact absurd h h4
  rename_i h4;simpa using h4
 have e:=oZ f.blocks.length 0 [] (by omega) he;rw[List.drop_zero,List.nil_append]at e;have hw:=(lQ f.blocks.length 0 [] (.nil _) (by omega) (by simp) he).1;have e':(cO f f.blocks.length 0 []).2=BO f:=e;rw[e']at hw;exact⟨e',hw⟩
theorem GX{ds:Defs}(hn:(ds.map (·.1)).Nodup){v:Int}{p:Int×Int}:fk ds v=some p↔(v,p)∈ds:=by
 induction ds with
 | nil=>simp[fk]
 | cons e r ih =>
  obtain⟨a,q⟩:=e;simp only[List.map_cons,List.nodup_cons,List.mem_map,not_exists,not_and]at hn;have ih:=ih hn.2;simp only[fk,List.mem_cons,Prod.mk.injEq];by_cases h:a=v
  ·subst h;rw[if_pos rfl];constructor
   ·intro h;simp only[Option.some.injEq]at h;exact .inl ⟨rfl,h.symm⟩
   rintro(⟨_,h⟩|h)
   ·rw[h]
   exact absurd rfl (hn.1 _ h)
  rw[if_neg h,ih];constructor
  ·exact .inr
  rintro(⟨h1,_⟩|h1)
  ·exact absurd h1.symm h
  exact h1
theorem nf{k:Int}{v:Int}{p:Int×Int}:∀(l:List Ins) (n:Int),(v,p)∈jb k n l↔∃(j:Nat) (i:Ins),l[j]?=some i∧i.to=v∧p=(k,n+j+1)
 | [],n=>by simp[jb]
 | i::r,n=>by
  simp only[jb,List.mem_cons,Prod.mk.injEq];rw[nf r (n+1)];constructor
  ·rintro(⟨h1,h2⟩|⟨j,x,h1,h2,h3⟩)
   ·exact⟨0,i,rfl,h1.symm,by simpa using h2⟩
   exact⟨j+1,x,h1,h2,by rw[h3];congr 1;omega⟩
  rintro⟨j,x,h1,h2,h3⟩;cases j with
  | zero =>
   simp only[List.getElem?_cons_zero,Option.some.injEq]at h1;subst h1;exact .inl ⟨h2.symm,by simpa using h3⟩
  | succ j=>exact .inr ⟨j,x,h1,h2,by rw[h3];congr 1;omega⟩
theorem sf{v:Int}{p:Int×Int}:∀(l:List Block) (k:Int),(v,p)∈iX k l↔∃(j:Nat) (b:Block),l[j]?=some b∧(v,p)∈jQ (k+j) b
 | [],k=>by simp[iX]
 | b::r,k=>by
  rw[iX,List.mem_append,sf r (k+1)];constructor
  ·rintro(h|⟨j,x,h1,h2⟩)
   ·exact⟨0,b,rfl,by simpa using h⟩
   exact⟨j+1,x,h1,by rw[show k+((j+1:Nat):Int)=k+1+j by omega];exact h2⟩
  rintro⟨j,x,h1,h2⟩;cases j with
  | zero =>
   simp only[List.getElem?_cons_zero,Option.some.injEq]at h1;subst h1;exact .inl (by simpa using h2)
  | succ j=>exact .inr ⟨j,x,h1,by rw[show k+((j+1:Nat):Int)=k+1+j by omega]at h2;exact h2⟩
def zl(f:Func)(v:Int)(p:Int×Int):Prop:=∃(k:Nat) (b:Block),f.blocks[k]?=some b∧p.1=k∧((p.2=0∧v∈b.params)∨∃(j:Nat) (i:Ins),b.ins[j]?=some i∧i.to=v∧p.2=j+1)
theorem E'{f:Func}{v:Int}{p:Int×Int}:(v,p)∈BO f↔zl f v p:=by
 obtain⟨p1,p2⟩:=p;rw[BO,sf];constructor
 ·rintro⟨k,b,h1,h2⟩;rw[jQ,List.mem_append]at h2;rcases h2 with h2|h2
  ·simp only[iy,List.mem_map,Prod.mk.injEq]at h2;obtain⟨x,h3,h4,h5,h6⟩:=h2;subst h4;exact⟨k,b,h1,by simp only;omega,.inl ⟨h6.symm,h3⟩⟩
  obtain⟨j,i,h3,h4,h5⟩:=(nf _ _).1 h2;simp only[Prod.mk.injEq]at h5;exact⟨k,b,h1,by simp only;omega,.inr ⟨j,i,h3,h4,by simp only;omega⟩⟩
 rintro⟨k,b,h1,h2,h3⟩;simp only at h2 h3;subst h2;refine⟨k,b,h1,?_⟩;rw[jQ,List.mem_append];rcases h3 with⟨h3,h4⟩|⟨j,i,h3,h4,h5⟩
 ·subst h3;exact .inl (by simpa[iy]using h4)
 exact .inr ((nf _ _).2 ⟨j,i,h3,h4,by subst h5;simp⟩)
theorem na(k:Int):∀(l:List Ins) (n:Int),(jb k n l).map (·.1)=l.map Ins.to
 | [],_=>rfl
 | i::r,n=>by rw[jb,List.map_cons,na k r,List.map_cons]
theorem rR:∀(l:List Block) (k:Int),(iX k l).map (·.1)=l.flatMap dB
 | [],_=>rfl
 | b::r,k=>by
  rw[iX,List.map_append,rR r,List.flatMap_cons,jQ,List.map_append,na,dB,iy,List.map_map];congr 2;exact List.map_id' _
theorem xY(f:Func):(BO f).map (·.1)=ga f:=rR _ _
theorem CL{k:Nat}{S:Ds}{e:Edge}(h:(gO k S e).again=false):gO k S e=S∧((S.at_ e.block.toNat).meet (S.at_ k)).add e.block.toNat=S.at_ e.block.toNat∧S.seen.has e.block.toNat=true:=by
 unfold gO at h ⊢;simp only at h ⊢;split at h
 ·cases h
 rename_i hc;rw[if_neg hc];simp only[ne_eq,not_or,Decidable.not_not,Bool.not_eq_false]at hc;exact⟨rfl,hc⟩
theorem tX{k:Nat}:∀(l:List Edge) {S:Ds},(l.foldl (gO k) S).again=false->l.foldl (gO k) S=S∧∀e∈l,((S.at_ e.block.toNat).meet (S.at_ k)).add e.block.toNat=S.at_ e.block.toNat∧S.seen.has e.block.toNat=true
 | [],S,_=>⟨rfl,by simp⟩
 | e::r,S,h=>by
  rw[List.foldl_cons]at h;have ih:=tX r h;rw[ih.1]at h;have h1:=CL h;rw[List.foldl_cons,ih.1,h1.1];rw[h1.1]at ih;refine⟨rfl,fun x hx=>?_⟩;rcases List.mem_cons.1 hx with q|q
  ·subst q;exact h1.2
  exact ih.2 x q
theorem tY:∀(l:List Block) (k:Nat) {S:Ds},(kU k S l).again=false->kU k S l=S∧∀(j:Nat) b,l[j]?=some b->S.seen.has (k+j)=true->∀e∈b.term.to,((S.at_ e.block.toNat).meet (S.at_ (k+j))).add e.block.toNat=S.at_ e.block.toNat∧S.seen.has e.block.toNat=true
 | [],k,S,_=>⟨rfl,fun j b h=>by simp at h⟩
 | b::r,k,S,h=>by
  rw[kU]at h;have ih:=tY r (k+1) h;rw[ih.1]at h;have h1:qf k S b=S∧(S.seen.has k=true->∀e∈b.term.to,((S.at_ e.block.toNat).meet (S.at_ k)).add e.block.toNat=S.at_ e.block.toNat∧S.seen.has e.block.toNat=true):=by
   unfold qf at h ⊢;split
   ·rename_i hs;exact⟨rfl,fun q=>by rw[hs]at q;cases q⟩
   rename_i hs;rw[if_neg hs]at h;have:=tX _ h;exact⟨this.1,fun _=>this.2⟩
  rw[kU,ih.1,h1.1];rw[h1.1]at ih;refine⟨rfl,fun j x hj hs=>?_⟩;cases j with
  | zero =>
   simp only[List.getElem?_cons_zero,Option.some.injEq]at hj;subst hj;exact h1.2 hs
  | succ j =>
   rw[show k+(j+1)=k+1+j by omega]at hs ⊢;exact ih.2 j x hj hs
theorem wI{f:Func}(he:∀b∈f.blocks,∀e∈b.term.to,0<=e.block∧e.block.toNat<f.blocks.length):∀(n:Nat) {S:Ds},lb f.blocks.length S->(S.again=true->S.weight<n)->(iE f n S).again=false
 | 0,S,_,h=>by
  cases hs:S.again with
  | false=>exact hs
  | true=>exact absurd (h hs) (by omega)
 | n+1,S,hS,h=>by
  simp only[iE];split
  ·rename_i ha;have hw:=h ha;have hr:=qg f.blocks (k:=0) (S:=⟨S.over,S.seen,false⟩) ⟨hS.few,hS.len,hS.fit,hS.seen,hS.self⟩ he;have RI:(⟨S.over,S.seen,false⟩:Ds).weight=S.weight:=rfl;refine wI he n hr.1 fun q=>?_;rcases hr.2.2 q with q|q
   ·cases q
   omega
  rename_i ha;simpa using ha
structure Dz(S:Ds):Prop where
 zero:S.at_ 0=Bs.none.add 0
 seen:S.seen.has 0=true
theorem Pp{n k:Nat}{S:Ds}(h:Dz S){e:Edge}(h1:1<=e.block)(h2:e.block.toNat<n)(h3:n<=128):Dz (gO k S e):=by
 unfold gO;simp only;split
 ·refine⟨?_,?_⟩
  ·have:=h.zero;unfold Ds.at_ at this ⊢;simp only;rw[List.getElem?_set_ne (by omega)];exact this
  simp only;rw[Bs.has_add _ _ _ (by omega) (by omega),h.seen];rfl
 exact h
theorem IE{n k:Nat}(h3:n<=128):∀(l:List Edge) {S:Ds},Dz S->(∀e∈l,1<=e.block∧e.block.toNat<n)->Dz (l.foldl (gO k) S)
 | [],_,h,_=>h
 | e::r,S,h,he=>IE h3 r (Pp h (he e (by simp)).1 (he e (by simp)).2 h3) fun x hx=>he x (by simp[hx])
theorem IG{n:Nat}(h3:n<=128):∀(l:List Block) {k:Nat} {S:Ds},Dz S->(∀b∈l,∀e∈b.term.to,1<=e.block∧e.block.toNat<n)->Dz (kU k S l)
 | [],_,_,h,_=>h
 | b::r,k,S,h,he=>by
  refine IG h3 r (k:=k+1) ?_ fun x hx=>he x (by simp[hx]);unfold qf;split
  ·exact h
  exact IE h3 _ h (he b (by simp))
theorem IF{f:Func}(h3:f.blocks.length<=128)(he:∀b∈f.blocks,∀e∈b.term.to,1<=e.block∧e.block.toNat<f.blocks.length):∀(n:Nat) {S:Ds},Dz S->Dz (iE f n S)
 | 0,_,h=>h
 | n+1,S,h=>by
  simp only[iE];split
  ·exact IF h3 he n (IG h3 _ (S:=⟨S.over,S.seen,false⟩) ⟨h.zero,h.seen⟩ he)
  exact h
theorem wJ{f:Func}:∀(n:Nat) {S:Ds},S.again=true->(iE f n S).again=false->∃T:Ds,iE f n S=kU 0 T f.blocks
 | 0,S,h1,h2=>by
  rw[iE,h1]at h2;cases h2
 | n+1,S,h1,h2=>by
  simp only[iE,h1,if_true]at h2 ⊢;cases hr:(kU 0 ⟨S.over,S.seen,false⟩ f.blocks).again with
  | false=>exact⟨_,wH hr n⟩
  | true=>exact wJ n hr h2
def oP(f:Func)(k:Nat):Bs:=(kv f).1[k]?.getD .none
def lF(f:Func)(k:Nat):Bool:=(kv f).2.has k
structure Lu(f:Func):Prop where
 seen:lF f 0=true
 zero:∀j,j<128->((oP f 0).has j=true↔j=0)
 self:∀k,k<f.blocks.length->(oP f k).has k=true
 step:∀(k:Nat) b,f.blocks[k]?=some b->lF f k=true->∀e∈b.term.to,lF f e.block.toNat=true∧∀j,j<128->((oP f e.block.toNat).has j=true->j=e.block.toNat∨(oP f k).has j=true)
theorem Pq{f:Func}(h0:f.blocks≠[])(h1:f.blocks.length<=128)(he:∀b∈f.blocks,∀e∈b.term.to,1<=e.block∧e.block<f.blocks.length):Lu f:=by
 have vM:∀b∈f.blocks,∀e∈b.term.to,0<=e.block∧e.block.toNat<f.blocks.length:=fun b hb e hx=>by have:=he b hb e hx;omega
 have um:∀b∈f.blocks,∀e∈b.term.to,1<=e.block∧e.block.toNat<f.blocks.length:=fun b hb e hx=>by have:=he b hb e hx;omega
 have hl:=List.length_pos_iff.2 h0;have hS:=xX h0 h1;have ZY:=xD hS;have Z4:Dz (ky f):=⟨by unfold Ds.at_ ky;simp only;rw[List.getElem?_set_self (by simpa using hl)];rfl,by show(Bs.none.add 0).has 0=true;decide⟩
 have qu:=wI vM 20000 hS (fun _=>by omega);have hz:=IF h1 um 20000 Z4;obtain⟨T,hT⟩:=wJ 20000 rfl qu;have jG:lb f.blocks.length (iE f 20000 (ky f)):=by
  have key:∀(n:Nat) (S:Ds),lb f.blocks.length S->lb f.blocks.length (iE f n S):=fun n=>by
   induction n with
   | zero=>exact fun S h=>h
   | succ n ih =>
    intro S h;simp only[iE];split
    ·exact ih _ (qg f.blocks (k:=0) (S:=⟨S.over,S.seen,false⟩) ⟨h.few,h.len,h.fit,h.seen,h.self⟩ vM).1
    exact h
  exact key _ _ hS
 have Xn:=tY f.blocks 0 (S:=T) (by rw[<-hT];exact qu);have Ja:=Xn.2;rw[show T=iE f 20000 (ky f) from Xn.1.symm.trans hT.symm]at Ja;have jL:∀k,oP f k=(iE f 20000 (ky f)).at_ k:=fun k=>rfl;have zb:∀k,lF f k=(iE f 20000 (ky f)).seen.has k:=fun k=>rfl;generalize iE f 20000 (ky f)=S at *;refine⟨by rw[zb,hz.seen],fun j hj=>?_,fun k hk=>by rw[jL];exact jG.self k hk,fun k b hb hs e hx=>?_⟩
 ·rw[jL,hz.zero,Bs.has_add _ _ _ (by omega) hj];have:Bs.none.has j=false:=by unfold Bs.has Bs.none;simp
  simp[this]
 have UA:=um b (List.mem_of_getElem? hb) e hx;obtain⟨q1,q2⟩:=Ja k b hb (by rw[Nat.zero_add,<-zb];exact hs) e hx;rw[Nat.zero_add]at q1;refine⟨by rw[zb];exact q2,fun j hj q=>?_⟩;rw[jL,<-q1,Bs.has_add _ _ _ (by omega) hj,Bs.uj]at q;rw[jL];simp only[Bool.or_eq_true,Bool.and_eq_true,decide_eq_true_eq]at q;rcases q with q|q
 ·exact .inr q.2
 exact .inl q
theorem uz{ds:Defs}{v:Int}{p:Int×Int}(h:fk ds v=some p):(v,p)∈ds:=by
 induction ds with
 | nil=>cases h
 | cons e r ih =>
  obtain⟨a,q⟩:=e;simp only[fk]at h;split at h
  ·rename_i e;simp only[Option.some.injEq]at h;rw[e,h];simp
  exact List.mem_cons.2 (.inr (ih h))
def zm(f:Func)(k:Nat)(n:Int)(v:Int):Prop:=∃p,zl f v p∧(lF f k=true->(p.1=k∧p.2<=n)∨(p.1≠k∧(oP f k).has p.1.toNat=true))
theorem x9{f:Func}{k:Nat}{n v:Int}(h:iI (BO f) (kv f).1 (kv f).2 k n v=true):zm f k n v:=by
 unfold iI at h;cases hl:fk (BO f) v with
 | none=>rw[hl]at h;cases h
 | some p =>
  rw[hl]at h;refine⟨p,E'.1 (uz hl),fun hs=>?_⟩;have Dd:(kv f).2.has k=true:=hs;simp only[Dd,Bool.not_true,Bool.or_false,Bool.or_eq_true,Bool.and_eq_true,decide_eq_true_eq,Bool.not_eq_true',decide_eq_false_iff_not]at h;exact h
structure El(f:Func):Prop where
 ins:∀(k:Nat) b,f.blocks[k]?=some b->∀(n:Nat) i,b.ins[n]?=some i->∀a∈i.args,zm f k n a
 arg:∀(k:Nat) b,f.blocks[k]?=some b->b.term.kind≠1->b.term.kind≠4->zm f k b.ins.length b.term.arg
 args:∀(k:Nat) b,f.blocks[k]?=some b->∀e∈b.term.to,∀a∈e.args,zm f k b.ins.length a
theorem r9{ds:Defs}{over:List Bs}{seen:Bs}{k:Nat}:∀(l:List Ins) (n:Nat),jc ds over seen k n l=true->∀(j:Nat) i,l[j]?=some i->∀a∈i.args,iI ds over seen k ((n+j:Nat):Int) a=true
 | [],_,_=>fun j i h=>by simp at h
 | x::r,n,h=>fun j i hj a ha=>by
  simp only[jc,Bool.and_eq_true,List.all_eq_true]at h;cases j with
  | zero =>
   simp only[List.getElem?_cons_zero,Option.some.injEq]at hj;subst hj;exact h.1 a ha
  | succ j =>
   rw[show n+(j+1)=n+1+j by omega];exact r9 r (n+1) h.2 j i hj a ha
theorem rS{ds:Defs}{over:List Bs}{seen:Bs}:∀(l:List Block) (k:Nat),gH ds over seen k l=true->∀(j:Nat) b,l[j]?=some b->kF ds over seen (k+j) b=true
 | [],_,_=>fun j i h=>by simp at h
 | x::r,k,h=>fun j b hj=>by
  simp only[gH,Bool.and_eq_true]at h;cases j with
  | zero =>
   simp only[List.getElem?_cons_zero,Option.some.injEq]at hj;subst hj;exact h.1
  | succ j =>
   rw[show k+(j+1)=k+1+j by omega];exact rS r (k+1) h.2 j b hj
theorem Q8{f:Func}(h:qS f (BO f)=0):El f:=by
 have ha:gH (BO f) (kv f).1 (kv f).2 0 f.blocks=true:=by
  unfold qS at h;split at h
  ·assumption
  simp at h
 have hb:∀(k:Nat) b,f.blocks[k]?=some b->kF (BO f) (kv f).1 (kv f).2 k b=true:=fun k b hk=>by
  have:=rS f.blocks 0 ha k b hk
  rwa [Nat.zero_add]at this
 have hu:∀(k:Nat) b,f.blocks[k]?=some b->nA b.term (iI (BO f) (kv f).1 (kv f).2 k b.ins.length)=true:=fun k b hk=>by
  have:=hb k b hk;simp only[kF,Bool.and_eq_true]at this;exact this.2
 refine⟨fun k b hk n i hn a ha=>?_,fun k b hk h1 h4=>?_,fun k b hk e he a ha=>?_⟩
 ·have:=hb k b hk;simp only[kF,Bool.and_eq_true]at this;have:=r9 b.ins 0 this.1 n i hn a ha;rw[Nat.zero_add]at this;exact x9 this
 ·have:=hu k b hk;simp only[nA,Bool.and_eq_true,Bool.or_eq_true,decide_eq_true_eq,h1,h4,false_or]at this;exact x9 this.1
 have:=hu k b hk;simp only[nA,Bool.and_eq_true,List.all_eq_true]at this;exact x9 (this.2 e he a ha)
structure xF(f:Func):Prop where
 fn:Rc f
 Ri:Lu f
 BF:El f
 vals:H4 f
 nodup:(ga f).Nodup
 eZ:∀b∈f.blocks,∀e∈b.term.to,1<=e.block∧e.block<f.blocks.length
theorem jj{f:Func}(bt:f.fit)(h:aN f=0):xF f:=by
 have hw:=cq bt h;obtain⟨hd,SP⟩:=Rc.ds bt h;have he:∀b∈f.blocks,∀e∈b.term.to,1<=e.block∧e.block<f.blocks.length:=fun b hb e hx=>by
  have:=((ud (hw.blk b hb).fin).eZ e hx).1;omega
 refine⟨hw,Pq hw.ne hw.few he,Q8 (by rw[<-hd];exact hw.BF),fun v hv=>?_,?_,he⟩
 ·rw[<-xY]at hv;obtain⟨e,h1,rfl⟩:=List.mem_map.1 hv;exact SP.range e h1
 rw[<-xY];exact SP.nodup
structure W0(f:Func):Prop where
 few:f.blocks.length<=128
 params:∀b∈f.blocks,b.params.length<=4096
 ins:∀b∈f.blocks,b.ins.length<=1024
 OX:∀b∈f.blocks,∀i∈b.ins,i.args.length<=16
 cases:∀b∈f.blocks,b.term.cases.length<=256
 to:∀b∈f.blocks,b.term.to.length<=257
 Ol:∀b∈f.blocks,∀e∈b.term.to,e.args.length<=4096
def kW(es:List Edge):List ae:=es.flatMap fun e=>[aI e.block,aT e.args]
def Hc(id:Nat)(es:List Edge):ae:=if es=[]then .aB 2 [] .ex else .os id es.length 2
def rH(id:Nat)(es:List Edge):ae:=if es=[]then .aB 2 [] .sh else .os id es.length 2
def wz(id:Nat)(b:Block):List ae:=[aT b.params,bP b.ins,aI b.term.kind,aI b.term.arg,aI b.term.n,aT b.term.cases,rH id b.term.to]
def fh(ids:List Nat)(bs:List Block):List ae:=(List.zipWith wz ids bs).flatten
def A8(id:Nat)(bs:List Block):ae:=if bs=[]then .aB 7 [] .ex else .os id bs.length 7
theorem uK(id:Nat)(es:List Edge):(Hc id es).bo=rH id es:=by
 unfold Hc rH;split<;>rfl
theorem uJ(id:Nat)(es:List Edge):(rH id es).bo=rH id es:=by
 unfold rH;split<;>rfl
theorem IJ(es:List Edge)(e:Edge):kW (es++[e])=kW es++[aI e.block,aT e.args]:=by simp[kW]
theorem kJ(es:List Edge):(kW es).length=es.length*2:=by
 induction es with
 | nil=>rfl
 | cons e r ih =>
  have:kW (e::r)=[aI e.block,aT e.args]++kW r:=rfl;rw[this,List.length_append,ih];simp only[List.length_cons,List.length_nil];omega
theorem edC_upto(n:Nat)(es:List Edge):au n (kW es):=by
 rw[bZ];intro c hc;simp only[kW,List.mem_flatMap]at hc;obtain⟨e,_,hc⟩:=hc;simp only[List.mem_cons,List.not_mem_nil,or_false]at hc;rcases hc with rfl|rfl
 ·trivial
 exact⟨av _ _,trivial⟩
theorem Ge(es:List Edge):(kW es).map ae.bo=ao (es.map Edge.enc):=by
 induction es with
 | nil=>rfl
 | cons e r ih =>
  have h1:kW (e::r)=[aI e.block,aT e.args]++kW r:=rfl;have h2:ao ((e::r).map Edge.enc)=[aI e.block,aT e.args]++ao (r.map Edge.enc):=rfl;rw[h1,h2,List.map_append,ih];rfl
theorem wB{ids:List Nat}{bs:List Block}(h:ids.length=bs.length)(id:Nat)(b:Block):fh (ids++[id]) (bs++[b])=fh ids bs++wz id b:=by
 unfold fh;rw[List.zipWith_append h];simp
theorem mQ:∀{ids:List Nat} {bs:List Block},ids.length=bs.length->(fh ids bs).length=bs.length*7
 | [],[],_=>rfl
 | i::ids,b::bs,h=>by
  have e:fh (i::ids) (b::bs)=wz i b++fh ids bs:=rfl;rw[e,List.length_append,mQ (by simpa using h)];simp only[wz,List.length_cons,List.length_nil];omega
 | [],b::bs,h=>by simp at h
 | i::ids,[],h=>by simp at h
theorem blC_upto{n id:Nat}(b:Block)(h:b.term.to≠[]->id<n):au n (wz id b):=by
 refine⟨⟨av _ _,trivial⟩,⟨Ins.ag _ _,trivial⟩,trivial,trivial,trivial,⟨av _ _,trivial⟩,?_,trivial⟩;unfold rH;split
 ·exact⟨trivial,trivial⟩
 rename_i q;exact h q
structure UZ(b0:Nat)(ids:List Nat)(bs:List Block)(O:List al):Prop where
 li:ids.length=bs.length
 own:∀(j id:Nat) (b:Block),ids[j]?=some id->bs[j]?=some b->b.term.to≠[]->b0<=id∧O[id]?=some (.cells (kW b.term.to))
 inj:∀(i j id:Nat) (b c:Block),ids[i]?=some id->ids[j]?=some id->bs[i]?=some b->bs[j]?=some c->b.term.to≠[]->c.term.to≠[]->i=j
structure Uo(f:Func)(done:List Block)(eo:Nat)(ids:List Nat)(O:List al):Prop where
 up:∀o∈O,o.upto O.length
 r0:O[0]?=some .gone
 r1:O[1]?=some (.cells [aI 0,.aB 7 [] .ex])
 r3:O[3]?=some (.cells [aI 0,.aB 7 [] .ex])
 out:O[4]?=some (.cells [aI f.name,A8 eo done])
 blk:done≠[]->5<=eo∧O[eo]?=some (.cells (fh ids done))
 cp:UZ 5 ids done O
 ne:∀(j id:Nat) (b:Block),ids[j]?=some id->done[j]?=some b->b.term.to≠[]->id≠eo
theorem blsC_upto{n:Nat}:∀{ids:List Nat} {bs:List Block},(∀(j id:Nat) (b:Block),ids[j]?=some id->bs[j]?=some b->b.term.to≠[]->id<n)->au n (fh ids bs):=by
 intro ids bs h;rw[bZ];intro c hc;unfold fh at hc;obtain⟨l,hl,hc⟩:=List.mem_flatten.1 hc;obtain⟨j,hj⟩:=List.mem_iff_getElem?.1 hl;rw[List.getElem?_zipWith]at hj;cases h1:ids[j]? with
 | none=>rw[h1]at hj;cases hj
 | some id =>
  cases h2:bs[j]? with
  | none=>rw[h1,h2]at hj;cases hj
  | some b =>
   rw[h1,h2]at hj;simp only[Option.some.injEq]at hj;subst hj;exact bZ.1 (blC_upto b (h j id b h1 h2)) c hc
theorem Uo.snoc{f:Func}{done:List Block}{eo:Nat}{ids:List Nat}{O O1:List al}(h:Uo f done eo ids O){b:Block}{tid:Nat}(hlen:O.length<=O1.length)(br:∀o∈O1,o.upto O1.length)
  (fB:∀k,k<O.length->(done≠[]->k≠eo)->O1[k]?=O[k]?) (ht:b.term.to≠[]->O.length<=tid∧O1[tid]?=some (.cells (kW b.term.to))) {cs ar:List ae} (gn:cs=fh (ids++[tid]) (done++[b])) (Y6:ar=[aI f.name,.os O1.length (done.length+1) 7]) :
  Uo f (done++[b]) O1.length (ids++[tid]) ((O1++[al.cells cs]).set 4 (.cells ar)):=by
 have h4:=I h.out;have hli:=h.cp.li;have S':∀k,k<O.length->k≠4->(done≠[]->k≠eo)->((O1++[al.cells cs]).set 4 (.cells ar))[k]?=O[k]?:=fun k hk Zw Jd=>by
  rw[List.getElem?_set_ne (Ne.symm Zw),List.getElem?_append_left (by omega),fB k hk Jd]
 have Y8:done≠[]->5<=eo:=fun q=>(h.blk q).1;have hids:∀(j id:Nat) (c:Block),(ids++[tid])[j]?=some id->(done++[b])[j]?=some c->(ids[j]?=some id∧done[j]?=some c)∨(j=ids.length∧id=tid∧c=b):=fun j id c h1 h2=>by
  by_cases hj:j<ids.length
  ·rw[List.getElem?_append_left hj]at h1;rw[List.getElem?_append_left (by omega)]at h2;exact .inl ⟨h1,h2⟩
  have hj1:=I h1;rw[List.length_append,List.length_singleton]at hj1;have jX:j=ids.length:=by omega
  subst jX;rw[List.getElem?_append_right (Nat.le_refl _),Nat.sub_self]at h1;rw[List.getElem?_append_right (by omega),<-hli,Nat.sub_self]at h2;simp only[List.getElem?_cons_zero,Option.some.injEq]at h1 h2;exact .inr ⟨rfl,h1.symm,h2.symm⟩
 have BP:∀(j id:Nat) (c:Block),ids[j]?=some id->done[j]?=some c->c.term.to≠[]->5<=id∧id<O.length∧O1[id]?=some (.cells (kW c.term.to)):=fun j id c h1 h2 h3=>by
  obtain⟨o1,o2⟩:=h.cp.own j id c h1 h2 h3;have hl:=I o2;refine⟨o1,hl,?_⟩;rw[fB id hl (fun _=>h.ne j id c h1 h2 h3)];exact o2
 have yj:∀(j id:Nat) (c:Block),(ids++[tid])[j]?=some id->(done++[b])[j]?=some c->c.term.to≠[]->5<=id∧id<O1.length∧O1[id]?=some (.cells (kW c.term.to)):=fun j id c h1 h2 h3=>by
  rcases hids j id c h1 h2 with⟨q1,q2⟩|⟨_,q2,q3⟩
  ·obtain⟨p1,p2,p3⟩:=BP j id c q1 q2 h3;exact⟨p1,by omega,p3⟩
  rw[q3]at h3 ⊢;rw[q2];obtain⟨t1,t2⟩:=ht h3;exact⟨by omega,I t2,t2⟩
 subst gn;subst Y6;exact {
  up:=by
   intro o ho;rw[List.length_set,List.length_append,List.length_singleton];rcases List.mem_or_eq_of_mem_set ho with q|q
   ·rcases List.mem_append.1 q with q|q
    ·exact al.cE (by omega) (br o q)
    rw[List.mem_singleton]at q;subst q;exact blsC_upto fun j id c h1 h2 h3=>by
     have:=(yj j id c h1 h2 h3).2.1;omega
   subst q;exact⟨trivial,show _<_ by omega,trivial⟩
  r0:=by rw[S' 0 (I h.r0) (by omega) (fun q=>by have:=Y8 q;omega)];exact h.r0
  r1:=by rw[S' 1 (I h.r1) (by omega) (fun q=>by have:=Y8 q;omega)];exact h.r1
  r3:=by rw[S' 3 (I h.r3) (by omega) (fun q=>by have:=Y8 q;omega)];exact h.r3
  out:=by
   rw[List.getElem?_set_self (by rw[List.length_append];omega)];have:A8 O1.length (done++[b])=.os O1.length (done.length+1) 7:=by
    unfold A8;rw[if_neg (by simp),List.length_append];rfl
   rw[this]
  blk:=fun _=>by
   refine⟨by omega,?_⟩;rw[List.getElem?_set_ne (by omega),List.getElem?_append_right (Nat.le_refl _),Nat.sub_self];rfl
  cp:={
   li:=by rw[List.length_append,List.length_append,hli];rfl
   own:=fun j id c h1 h2 h3=>by
    obtain⟨p1,p2,p3⟩:=yj j id c h1 h2 h3;refine⟨p1,?_⟩;rw[List.getElem?_set_ne (by omega),List.getElem?_append_left p2];exact p3
   inj:=fun i j id c d h1 h2 h3 h4 h5 h6=>by
    rcases hids i id c h1 h3 with⟨p1,p2⟩|⟨p1,p2,p3⟩
    ·rcases hids j id d h2 h4 with⟨q1,q2⟩|⟨q1,q2,q3⟩
     ·exact h.cp.inj i j id c d p1 q1 p2 q2 h5 h6
     have:=(BP i id c p1 p2 h5).2.1;rw[q3]at h6;have:=(ht h6).1;omega
    rcases hids j id d h2 h4 with⟨q1,q2⟩|⟨q1,q2,q3⟩
    ·have:=(BP j id d q1 q2 h6).2.1;rw[p3]at h5;have:=(ht h5).1;omega
    omega }
  ne:=fun j id c h1 h2 h3=>by
   have:=(yj j id c h1 h2 h3).2.1;omega }
structure Ra(O:List al)(cs:List ae)(n:Nat)(O2:List al):Prop where
 len:O2.length=O.length+2
 up:∀o∈O2,o.upto O2.length
 rz:∀k,k<O.length->O2[k]?=O[k]?
 cell:O2[O.length]?=some (.cells cs)
 sp:O2[O.length+1]?=some (.spare n)
theorem Ra.start{O:List al}(br:∀o∈O,o.upto O.length){cs:List ae}(gn:au (O.length+2) cs):Ra O cs 0 (O++[.cells cs,.spare 0]) where
 len:=by simp
 up:=fun o ho=>by
  rw[List.length_append];rcases List.mem_append.1 ho with q|q
  ·exact al.cE (by omega) (br o q)
  simp only[List.mem_cons,List.not_mem_nil,or_false]at q;rcases q with rfl|rfl
  ·exact gn
  trivial
 rz:=fun k hk=>by rw[List.getElem?_append_left hk]
 cell:=by
  rw[List.getElem?_append_right (Nat.le_refl _),Nat.sub_self];rfl
 sp:=by
  rw[List.getElem?_append_right (by omega),show O.length+1-O.length=1 by omega];rfl
theorem Ra.one{O:List al}{cs:List ae}{n:Nat}{O2:List al}(h:Ra O cs n O2){cs':List ae}(gn:au (O.length+2) cs'):Ra O cs' n (O2.set O.length (.cells cs')) where
 len:=by rw[List.length_set,h.len]
 up:=by
  rw[List.length_set];exact bR h.up (by rw[h.len];exact gn)
 rz:=fun k hk=>by rw[List.getElem?_set_ne (by omega),h.rz k hk]
 cell:=by rw[List.getElem?_set_self (by rw[h.len];omega)]
 sp:=by rw[List.getElem?_set_ne (by omega),h.sp]
theorem Ra.room{O:List al}{cs:List ae}{n:Nat}{O2:List al}(h:Ra O cs n O2)(m:Nat):Ra O cs m (O2.set (O.length+1) (.spare m)) where
 len:=by rw[List.length_set,h.len]
 up:=by
  rw[List.length_set];exact bR h.up trivial
 rz:=fun k hk=>by rw[List.getElem?_set_ne (by omega),h.rz k hk]
 cell:=by rw[List.getElem?_set_ne (by omega),h.cell]
 sp:=by rw[List.getElem?_set_self (by rw[h.len];omega)]
structure Q'(O:List al)(cs:ae->List ae)(tid:Nat)(es:List Edge)(O3:List al):Prop where
 len:O.length+2<=O3.length
 up:∀o∈O3,o.upto O3.length
 rz:∀k,k<O.length->O3[k]?=O[k]?
 cell:O3[O.length]?=some (.cells (cs (Hc tid es)))
 own:es≠[]->O.length+2<=tid∧O3[tid]?=some (.cells (kW es))
theorem Q'.start{O:List al}{cs:ae->List ae}{n:Nat}{O2:List al}(h:Ra O (cs (.aB 2 [] .ex)) n O2):Q' O cs 0 [] O2 where
 len:=by rw[h.len];omega
 up:=h.up
 rz:=h.rz
 cell:=h.cell
 own:=fun q=>absurd rfl q
theorem Q'.push{O:List al}{cs:ae->List ae}{tid:Nat}{es:List Edge}{O3 O4:List al}(h:Q' O cs tid es O3)(e:Edge)(gn:∀v n,v.upto n->O.length+2<=n->au n (cs v))(hlen:O4.length=O3.length)(br:∀o∈O4,o.upto O3.length)
  (fB:∀k,(es≠[]->k≠tid)->O4[k]?=O3[k]?) {c a:List ae} (hc:c=kW (es++[e])) (ha:a=cs (.os O3.length (es.length+1) 2)):Q' O cs O3.length (es++[e]) ((O4++[al.cells c]).set O.length (.cells a)):=by
 have hl:=h.len;have hx:Hc O3.length (es++[e])=.os O3.length (es.length+1) 2:=by
  unfold Hc;rw[if_neg (by simp),List.length_append];rfl
 subst hc;subst ha;exact {
  len:=by rw[List.length_set,List.length_append,hlen];omega
  up:=by
   intro o ho;rw[List.length_set,List.length_append,List.length_singleton,hlen];rcases List.mem_or_eq_of_mem_set ho with q|q
   ·rcases List.mem_append.1 q with q|q
    ·exact al.cE (by omega) (br o q)
    rw[List.mem_singleton]at q;subst q;exact edC_upto _ _
   subst q;exact gn _ _ (show O3.length<O3.length+1 by omega) (by omega)
  rz:=fun k hk=>by
   rw[List.getElem?_set_ne (by omega),List.getElem?_append_left (by omega),fB k (fun q=>by have:=(h.own q).1;omega),h.rz k hk]
  cell:=by
   rw[List.getElem?_set_self (by rw[List.length_append];omega),hx]
  own:=fun _=>by
   refine⟨by omega,?_⟩;rw[List.getElem?_set_ne (by omega),List.getElem?_append_right (by omega),hlen,Nat.sub_self];rfl }
def WZ(f:Func)(r:ae)(O:List al):Prop:=∃(ids:List Nat) (eo:Nat),r=.agg [aI f.name,.os eo f.blocks.length 7]∧(∀o∈O,o.upto O.length)∧O[0]?=some .gone∧O[1]?=some (.cells [aI 0,.aB 7 [] .ex]) ∧
 (5<=eo∧O[eo]?=some (.cells (fh ids f.blocks)))∧UZ 5 ids f.blocks O∧∀(j id:Nat) (b:Block),ids[j]?=some id->f.blocks[j]?=some b->b.term.to≠[]->id≠eo
theorem CD(f:Func):Uo f [] 0 [] [.gone,.cells [aI 0,.aB 7 [] .ex],.gone,.cells [aI 0,.aB 7 [] .ex],.cells [aI f.name,.aB 7 [] .ex]] where
 up:=fun o ho=>by
  simp only[List.mem_cons,List.not_mem_nil,or_false]at ho;rcases ho with rfl|rfl|rfl|rfl|rfl
  ·trivial
  ·exact⟨trivial,⟨trivial,trivial⟩,trivial⟩
  ·trivial
  ·exact⟨trivial,⟨trivial,trivial⟩,trivial⟩
  exact⟨trivial,⟨trivial,trivial⟩,trivial⟩
 r0:=rfl
 r1:=rfl
 r3:=rfl
 out:=rfl
 blk:=fun q=>absurd rfl q
 cp:=⟨rfl,fun j id b h=>by simp at h,fun i j id b c h=>by simp at h⟩
 ne:=fun j id b h=>by simp at h
theorem Uo.done{f:Func}{eo:Nat}{ids:List Nat}{O:List al}(h:Uo f f.blocks eo ids O)(bI:f.blocks≠[]){cs:List ae}(gn:au O.length cs):WZ f (.agg [aI f.name,.os eo f.blocks.length 7]) (O.set 3 (.cells cs)):=by
 obtain⟨b1,b2⟩:=h.blk bI;refine⟨ids,eo,rfl,?_,?_,?_,⟨b1,?_⟩,⟨h.cp.li,fun j id b q1 q2 q3=>?_,h.cp.inj⟩,h.ne⟩
 ·rw[List.length_set];exact bR h.up gn
 ·rw[List.getElem?_set_ne (by omega)];exact h.r0
 ·rw[List.getElem?_set_ne (by omega)];exact h.r1
 ·rw[List.getElem?_set_ne (by omega)];exact b2
 obtain⟨o1,o2⟩:=h.cp.own j id b q1 q2 q3;exact⟨o1,by rw[List.getElem?_set_ne (by omega)];exact o2⟩
end Go.Proofs.YtjdnhamngpafmaaGreat
namespace Go.Av
theorem tw{P:Program}{kb:Nat}{c:Code}{Q:dP->St->Prop}{n:Nat}{bf:List (Nat×ae)}{A:Nat}{C:Nat->List ae}{N M:Nat}(pos:Nat->Nat)
  (ia:∀i,∀d∈C i,d.scalar) (hl:∀i,(C i).length=M) (F:Nat->List al->Prop)
  (hF:∀i O,i<N->O[A]?=some (.cells (C i))->F i O->(C (i+1)=C i∧F (i+1) O) ∨
   ∃id o x y,id≠A∧O[id]?=some o∧¬o.aC∧o.live∧(C i)[pos i]?=some x∧(C (i+1))=(C i).set (pos i) y∧bT O id x y∧F (i+1) ((O.set id .gone).set A (.cells (C (i+1))))) :
  ∀(m i:Nat) (O:List al),i+m=N->O[A]?=some (.cells (C i))->F i O->(∀O',O'.length=O.length->O'[A]?=some (.cells (C N))->F N O'->cu P kb c Q ⟨n,bf,O'⟩)->cu P kb c Q ⟨n,bf,O⟩
 | 0,i,O,hi,hA,hf,h=>by
  have:i=N:=by omega
  subst this;exact h O rfl hA hf
 | m+1,i,O,hi,hA,hf,h=>by
  rcases hF i O (by omega) hA hf with⟨e,eU⟩|⟨id,o,x,y,h1,h2,h3,h4,h5,h6,h7,eU⟩
  ·exact tw pos ia hl F hF m (i+1) O (by omega) (by rw[e];exact hA) eU h
  have C1:=I hA;refine kR id h2 h3 h4 bf (fun s z hz=>⟨z,hz,.refl z⟩) A (Ne.symm h1) (C i) (C (i+1)) hA (by rw[hl,hl]) (ia (i+1)) (fun j a b ha hb=>?_) (tw pos ia hl F hF m (i+1) _ (by omega) (by rw[List.getElem?_set_self (by rw[List.length_set];exact C1)]) eU fun O' I1=>h O' (by rw[I1,List.length_set,List.length_set]));rw[h6,List.getElem?_set]at hb;split at hb
  ·rename_i e;rw[<-e,h5]at ha;rw[if_pos (I h5)]at hb;simp only[Option.some.injEq]at ha hb;subst ha;subst hb;exact h7
  rw[ha]at hb;simp only[Option.some.injEq]at hb;subst hb;exact .refl _
end Go.Av
namespace Go.Proofs.YtjdnhamngpafmaaGreat
open Go.Av
theorem pe(a b:List Edge):kW (a++b)=kW a++kW b:=by simp[kW]
theorem Pt{es:List Edge}{n:Nat}{e:Edge}(h:es[n]?=some e):(kW es)[n*2]?=some (aI e.block)∧(kW es)[n*2+1]?=some (aT e.args):=by
 have hl:=I h;have e1:es=es.take n++e::es.drop (n+1):=by
  rw[<-bQ h,List.take_append_drop]
 have hlen:(kW (es.take n)).length=n*2:=by rw[kJ,List.length_take];omega
 have e2:kW es=kW (es.take n)++(aI e.block::aT e.args::kW (es.drop (n+1))):=by
  conv=>lhs;rw[e1]
  rw[pe];rfl
 rw[e2];refine⟨?_,?_⟩
 ·rw[List.getElem?_append_right (by omega),hlen,Nat.sub_self];rfl
 rw[List.getElem?_append_right (by omega),hlen,show n*2+1-n*2=1 by omega];rfl
theorem Er:∀{ids:List Nat} {bs:List Block} {k id:Nat} {b:Block},ids[k]?=some id->bs[k]?=some b->((fh ids bs).drop (k*7)).take 7=wz id b
 | i::ids,c::bs,0,id,b,h1,h2=>by
  simp only[List.getElem?_cons_zero,Option.some.injEq]at h1 h2;subst h1;subst h2;rfl
 | i::ids,c::bs,k+1,id,b,h1,h2=>by
  have ih:=Er (ids:=ids) (bs:=bs) (k:=k) (by simpa using h1) (by simpa using h2);have e:fh (i::ids) (c::bs)=wz i c++fh ids bs:=rfl;have hl:(wz i c).length=7:=rfl;rw[e,List.drop_append,List.drop_of_length_le (by rw[hl];omega),hl,List.nil_append,show(k+1)*7-7=k*7 by omega];exact ih
 | [],_,k,id,b,h1,_=>by simp at h1
 | i::ids,[],k,id,b,_,h2=>by simp at h2
def kZ:Nat->List Nat->List Block->List ae
 | 0,ids,bs=>fh ids bs
 | i+1,_::ids,b::bs=>b.enc.cells++kZ i ids bs
 | _+1,_,_=>[]
theorem AZ:∀(i:Nat) {ids:List Nat} {bs:List Block},ids.length=bs.length->(kZ i ids bs).length=bs.length*7
 | 0,ids,bs,h=>mQ h
 | i+1,_::ids,b::bs,h=>by
  have hb:b.enc.cells.length=7:=rfl;rw[kZ,List.length_append,AZ i (by simpa using h),hb,List.length_cons];omega
 | i+1,[],[],_=>rfl
 | i+1,[],b::bs,h=>by simp at h
 | i+1,x::ids,[],h=>by simp at h
theorem Co(id:Nat)(b:Block):∀d∈wz id b,d.scalar:=fun d hd=>by
 simp only[wz,List.mem_cons,List.not_mem_nil,or_false]at hd;rcases hd with rfl|rfl|rfl|rfl|rfl|rfl|rfl
 ·trivial
 ·trivial
 ·trivial
 ·trivial
 ·trivial
 ·trivial
 unfold rH;split<;>trivial
theorem sg:∀(i:Nat) (ids:List Nat) (bs:List Block),∀d∈kZ i ids bs,d.scalar
 | 0,ids,bs=>fun d hd=>by
  unfold kZ fh at hd;obtain⟨l,hl,hd⟩:=List.mem_flatten.1 hd;obtain⟨j,hj⟩:=List.mem_iff_getElem?.1 hl;rw[List.getElem?_zipWith]at hj;cases h1:ids[j]? with
  | none=>rw[h1]at hj;cases hj
  | some id =>
   cases h2:bs[j]? with
   | none=>rw[h1,h2]at hj;cases hj
   | some b =>
    rw[h1,h2]at hj;simp only[Option.some.injEq]at hj;subst hj;exact Co id b d hd
 | i+1,x::ids,b::bs=>fun d hd=>by
  rw[kZ]at hd;rcases List.mem_append.1 hd with q|q
  ·simp only[Block.enc,ae.cells,List.mem_cons,List.not_mem_nil,or_false]at q;rcases q with rfl|rfl|rfl|rfl|rfl|rfl|rfl<;>trivial
  exact sg i ids bs d q
 | i+1,[],[]=>fun d hd=>by cases hd
 | i+1,[],b::bs=>fun d hd=>by cases hd
 | i+1,x::ids,[]=>fun d hd=>by cases hd
theorem Fb:∀(i:Nat) {ids:List Nat} {bs:List Block} {id:Nat} {b:Block},ids[i]?=some id->bs[i]?=some b ->
  (kZ i ids bs)[i*7+6]?=some (rH id b.term.to)∧kZ (i+1) ids bs=(kZ i ids bs).set (i*7+6) (aE b.term.to)
 | 0,x::ids,c::bs,id,b,h1,h2=>by
  simp only[List.getElem?_cons_zero,Option.some.injEq]at h1 h2;subst h1;subst h2;exact⟨rfl,rfl⟩
 | i+1,x::ids,c::bs,id,b,h1,h2=>by
  obtain⟨i1,i2⟩:=Fb i (ids:=ids) (bs:=bs) (id:=id) (b:=b) (by simpa using h1) (by simpa using h2);have hb:c.enc.cells.length=7:=rfl;have e:kZ (i+1) (x::ids) (c::bs)=c.enc.cells++kZ i ids bs:=rfl;have e2:kZ (i+1+1) (x::ids) (c::bs)=c.enc.cells++kZ (i+1) ids bs:=rfl;rw[e,e2,i2];refine⟨?_,?_⟩
  ·rw[List.getElem?_append_right (by omega),hb,show(i+1)*7+6-7=i*7+6 by omega];exact i1
  rw[List.set_append_right _ _ (by omega),hb,show(i+1)*7+6-7=i*7+6 by omega]
 | 0,[],_,id,b,h1,_=>by simp at h1
 | 0,_::_,[],id,b,_,h2=>by simp at h2
 | i+1,[],_,id,b,h1,_=>by simp at h1
 | i+1,_::_,[],id,b,_,h2=>by simp at h2
theorem AY:∀{ids:List Nat} {bs:List Block},ids.length=bs.length->kZ bs.length ids bs=ao (bs.map Block.enc)
 | [],[],_=>rfl
 | x::ids,b::bs,h=>by
  have e:ao ((b::bs).map Block.enc)=b.enc.cells++ao (bs.map Block.enc):=rfl;rw[e,<-AY (ids:=ids) (by simpa using h)];rfl
 | [],b::bs,h=>by simp at h
 | x::ids,[],h=>by simp at h
theorem xM(bs:List Block):(ao (bs.map Block.enc)).map ae.bo=ao (bs.map Block.enc):=by
 induction bs with
 | nil=>rfl
 | cons b r ih =>
  have e:ao ((b::r).map Block.enc)=b.enc.cells++ao (r.map Block.enc):=rfl;rw[e,List.map_append,ih];rfl
def T6(x:Edge):Block:=⟨[],[],⟨1,0,0,[],[x]⟩⟩
def eH(b:Block)(es:List Edge):Block:=⟨b.params,b.ins,⟨b.term.kind,b.term.arg,b.term.n,b.term.cases,es⟩⟩
structure Sp where
 fe:List (List Edge)
 news:List Block
def Sc(f:Func)(k:Nat)(x:Edge):Bool:=decide (2<=(aF f (k:Int)).term.to.length)&&decide (2<=(bB f x.block).length)
def QE(f:Func)(k n:Nat)(S:Sp):Sp :=
 match (fY f (k:Int))[n]? with
 | none=>S
 | some x=>if Sc f k x then⟨S.fe.set k ((S.fe[k]?.getD []).set n ⟨((f.blocks.length+S.news.length:Nat):Int),[]⟩),S.news++[T6 x]⟩else S
def Ym(f:Func)(k:Nat):Nat->Nat->Sp->Sp
 | 0,_,S=>S
 | m+1,n,S=>Ym f k m (n+1) (QE f k n S)
def Yn(f:Func):Nat->Nat->Sp->Sp
 | 0,_,S=>S
 | m+1,k,S=>Yn f m (k+1) (Ym f k (fY f (k:Int)).length 0 S)
def Hz(f:Func):Sp:=⟨f.blocks.map fun b=>b.term.to,[]⟩
def spM(f:Func):Sp:=Yn f f.blocks.length 0 (Hz f)
structure W1(f:Func)(S:Sp):Prop where
 len:S.fe.length=f.blocks.length
 each:∀(k:Nat) b l,f.blocks[k]?=some b->S.fe[k]?=some l->l.length=b.term.to.length
theorem Ue(f:Func):W1 f (Hz f):=⟨by simp[Hz],fun k b l h1 h2=>by
 unfold Hz at h2;simp only[List.getElem?_map,h1,Option.map_some,Option.some.injEq]at h2;rw[<-h2]⟩
structure Rg(f:Func)(ids:List Nat)(X:Nat)(S:Sp)(eo:Nat)(O:List al):Prop where
 up:∀o∈O,o.upto O.length
 r1:O[1]?=some (.cells [aI 0,.aB 7 [] .ex])
 x5:5<=X
 xb:eo≠X
 out:O[X]?=some (.cells [aI f.name,.os eo (f.blocks.length+S.news.length) 7])
 bl:5<=eo∧O[eo]?=some (.cells (fh ids f.blocks++ao (S.news.map Block.enc)))
 li:ids.length=f.blocks.length
 w:W1 f S
 own:∀(j id:Nat) (b:Block) (l:List Edge),ids[j]?=some id->f.blocks[j]?=some b->S.fe[j]?=some l->b.term.to≠[]->5<=id∧id≠eo∧id≠X∧O[id]?=some (.cells (kW l))
 inj:∀(i j id:Nat) (b c:Block),ids[i]?=some id->ids[j]?=some id->f.blocks[i]?=some b->f.blocks[j]?=some c->b.term.to≠[]->c.term.to≠[]->i=j
theorem Rg.start{f:Func}{ids:List Nat}{eo:Nat}{O:List al}(br:∀o∈O,o.upto O.length)(h1:O[1]?=some (.cells [aI 0,.aB 7 [] .ex]))(hb:5<=eo∧O[eo]?=some (.cells (fh ids f.blocks)))(hc:UZ 5 ids f.blocks O)
  (bI:∀(j id:Nat) (b:Block),ids[j]?=some id->f.blocks[j]?=some b->b.term.to≠[]->id≠eo):Rg f ids O.length (Hz f) eo (O++[al.cells [aI f.name,.os eo f.blocks.length 7]]) where
 up:=fun o ho=>by
  have uk:=I hb.2;rw[List.length_append,List.length_singleton];rcases List.mem_append.1 ho with q|q
  ·exact al.cE (by omega) (br o q)
  rw[List.mem_singleton]at q;subst q;exact⟨trivial,show _<_ by omega,trivial⟩
 r1:=cj h1
 x5:=by
  have:=I hb.2;omega
 xb:=by
  have:=I hb.2;omega
 out:=eK _ _
 bl:=⟨hb.1,by
  have h2:=cj (X:=[al.cells [aI f.name,.os eo f.blocks.length 7]]) hb.2;have e:fh ids f.blocks++ao ((Hz f).news.map Block.enc)=fh ids f.blocks:=List.append_nil _;rw[e];exact h2⟩
 li:=hc.li
 w:=Ue f
 own:=fun j id b l q1 q2 q3 q4=>by
  obtain⟨o1,o2⟩:=hc.own j id b q1 q2 q4;have:=I o2;unfold Hz at q3;simp only[List.getElem?_map,q2,Option.map_some,Option.some.injEq]at q3;rw[<-q3];exact⟨o1,bI j id b q1 q2 q4,by omega,cj o2⟩
 inj:=hc.inj
theorem Rg.Yu{f:Func}{ids:List Nat}{X:Nat}{S:Sp}{eo:Nat}{O:List al}(h:Rg f ids X S eo O){k id:Nat}{b:Block}{l m:List Edge}(l5:ids[k]?=some id)(hb:f.blocks[k]?=some b)(hl:S.fe[k]?=some l)(bI:b.term.to≠[])(hm:m.length=l.length) :
  Rg f ids X ⟨S.fe.set k m,S.news⟩ eo (O.set id (.cells (kW m))):=by
 obtain⟨o1,o2,o3,o4⟩:=h.own k id b l l5 hb hl bI;have PT:=I o4;have Lk:=h.x5;have Y8:=h.bl.1;exact {
  up:=by
   rw[List.length_set];exact bR h.up (show al.upto O.length (.cells (kW m)) from edC_upto _ _)
  r1:=by rw[List.getElem?_set_ne (by omega)];exact h.r1
  x5:=h.x5
  xb:=h.xb
  out:=by rw[List.getElem?_set_ne o3];exact h.out
  bl:=⟨h.bl.1,by rw[List.getElem?_set_ne o2];exact h.bl.2⟩
  li:=h.li
  w:=⟨by rw[List.length_set];exact h.w.len,fun j c x h1 h2=>by
   simp only at h2;rw[List.getElem?_set]at h2;split at h2
   ·rename_i e;subst e;split at h2
    ·simp only[Option.some.injEq]at h2;rw[hb]at h1;simp only[Option.some.injEq]at h1;rw[<-h2,<-h1,hm];exact h.w.each k b l hb hl
    cases h2
   exact h.w.each j c x h1 h2⟩
  own:=fun j z c x h1 h2 h3 h4=>by
   simp only at h3;rw[List.getElem?_set]at h3;by_cases e:k=j
   ·subst e;rw[l5]at h1;simp only[Option.some.injEq]at h1;subst h1;rw[if_pos rfl]at h3;split at h3
    ·simp only[Option.some.injEq]at h3;subst h3;exact⟨o1,o2,o3,List.getElem?_set_self PT⟩
    cases h3
   rw[if_neg e]at h3;obtain⟨p1,p2,p3,p4⟩:=h.own j z c x h1 h2 h3 h4;refine⟨p1,p2,p3,?_⟩;rw[List.getElem?_set_ne (fun q=>?_)]
   ·exact p4
   subst q;exact e (h.inj k j id b c l5 h1 hb h2 bI h4)
  inj:=h.inj }
theorem Rg.block{f:Func}{ids:List Nat}{X:Nat}{S:Sp}{eo:Nat}{O:List al}(h:Rg f ids X S eo O)(c:Block){cs ar:List ae}(gn:cs=(fh ids f.blocks++ao (S.news.map Block.enc))++c.enc.cells)(Y6:ar=[aI f.name,.os O.length (f.blocks.length+S.news.length+1) 7]) :
  Rg f ids X ⟨S.fe,S.news++[c]⟩ O.length ((O.set eo .gone++[al.cells cs]).set X (.cells ar)):=by
 have Xo:=I h.out;have uk:=I h.bl.2;have Lk:=h.x5;have Y8:=h.bl.1;have Ll:=h.xb;have S':∀j,j<O.length->j≠X->j≠eo->((O.set eo .gone++[al.cells cs]).set X (.cells ar))[j]?=O[j]?:=fun j hj h1 h2=>by
  rw[List.getElem?_set_ne (Ne.symm h1),List.getElem?_append_left (by rw[List.length_set];omega),List.getElem?_set_ne (Ne.symm h2)]
 have HO:ao ((S.news++[c]).map Block.enc)=ao (S.news.map Block.enc)++c.enc.cells:=by
  rw[List.map_append];simp[ao]
 subst Y6;exact {
  up:=by
   intro o ho;rw[List.length_set,List.length_append,List.length_set,List.length_singleton];rcases List.mem_or_eq_of_mem_set ho with q|q
   ·rcases List.mem_append.1 q with q|q
    ·rcases List.mem_or_eq_of_mem_set q with q|q
     ·exact al.cE (by omega) (h.up o q)
     subst q;trivial
    rw[List.mem_singleton]at q;subst q;subst gn;show au _ _;have h1:=h.up _ (List.mem_of_getElem? h.bl.2);have h2:au O.length (fh ids f.blocks++ao (S.news.map Block.enc)):=h1;rw[bZ]at h2 ⊢;intro x hx;rcases List.mem_append.1 hx with q|q
    ·exact ae.cE (by omega) x (h2 x q)
    have h3:=Block.aL (O.length+1) c;have h4:au (O.length+1) c.enc.cells:=h3;exact bZ.1 h4 x q
   subst q;exact⟨trivial,show _<_ by omega,trivial⟩
  r1:=by rw[S' 1 (I h.r1) (by omega) (by omega)];exact h.r1
  x5:=h.x5
  xb:=by omega
  out:=by
   rw[List.getElem?_set_self (by rw[List.length_append,List.length_set];omega),List.length_append];rfl
  bl:=⟨by omega,by
   rw[List.getElem?_set_ne (by omega),List.getElem?_append_right (by rw[List.length_set];omega),List.length_set,Nat.sub_self,HO,<-List.append_assoc,<-gn];rfl⟩
  li:=h.li
  w:=⟨h.w.len,h.w.each⟩
  own:=fun j z b l h1 h2 h3 h4=>by
   obtain⟨p1,p2,p3,p4⟩:=h.own j z b l h1 h2 h3 h4;have:=I p4;exact⟨p1,by omega,p3,by rw[S' z this p3 p2];exact p4⟩
  inj:=h.inj }
end Go.Proofs.YtjdnhamngpafmaaGreat
namespace Go.Av

end Go.Av
namespace Go.Proofs.YtjdnhamngpafmaaGreat
open Go.Av
abbrev Mv:=Int×Int
abbrev eM(p:Mv):ae:=.agg [aI p.1,aI p.2]
theorem nM(n:Nat)(l:List Mv):au n (l.map eM):=by
 rw[bZ];intro c hc;obtain⟨x,_,rfl⟩:=List.mem_map.1 hc;exact⟨trivial,trivial,trivial⟩
def Fk(h:Int)(inb:Bool)(k:Int):Nat->List Edge->List Mv
 | _,[]=>[]
 | n,e::r=>if e.block=h∧inb=false then(k,(n:Int))::Fk h inb k (n+1) r else Fk h inb k (n+1) r
def G8(x:aX):Nat->List Block->List Mv
 | _,[]=>[]
 | k,b::r=>Fk x.head (dK x.blocks (k:Int)) (k:Int) 0 b.term.to++G8 x (k+1) r
def fa(f:Func)(x:aX):List Mv:=G8 x 0 f.blocks
theorem Fm(h:Int)(inb:Bool)(k:Int):∀(n:Nat) (l:List Edge),(Fk h inb k n l).length<=l.length
 | _,[]=>Nat.le_refl _
 | n,e::r=>by
  have:=Fm h inb k (n+1) r;unfold Fk;split<;>simp only[List.length_cons]<;>omega
theorem Fo{h:Int}{inb:Bool}{k:Int}:∀{n:Nat} {l:List Edge} {p:Mv},p∈Fk h inb k n l↔p.1=k∧inb=false∧∃(j:Nat) (e:Edge),l[j]?=some e∧p.2=((n+j:Nat):Int)∧e.block=h
 | n,[],p=>by simp[Fk]
 | n,e::r,p=>by
  have ih:=Fo (h:=h) (inb:=inb) (k:=k) (n:=n+1) (l:=r) (p:=p);have jT:(∃(j:Nat) (e':Edge),(e::r)[j]?=some e'∧p.2=((n+j:Nat):Int)∧e'.block=h)↔((p.2=(n:Int)∧e.block=h)∨∃(j:Nat) (e':Edge),r[j]?=some e'∧p.2=((n+1+j:Nat):Int)∧e'.block=h):=by
   constructor
   ·rintro⟨j,e',h1,h2,h3⟩;cases j with
    | zero =>
     simp only[List.getElem?_cons_zero,Option.some.injEq]at h1;subst h1;exact .inl ⟨by simpa using h2,h3⟩
    | succ j=>exact .inr ⟨j,e',by simpa using h1,by rw[h2];congr 1;omega,h3⟩
   rintro(⟨h1,h2⟩|⟨j,e',h1,h2,h3⟩)
   ·exact⟨0,e,rfl,by simpa using h1,h2⟩
   exact⟨j+1,e',by simpa using h1,by rw[h2];congr 1;omega,h3⟩
  rw[jT];unfold Fk;split
  ·rename_i hc;rw[List.mem_cons,ih];obtain⟨a,b⟩:=p;simp only[Prod.mk.injEq];constructor
   ·rintro(⟨h1,h2⟩|⟨h1,h2,h3⟩)
    ·exact⟨h1,hc.2,.inl ⟨h2,hc.1⟩⟩
    exact⟨h1,h2,.inr h3⟩
   rintro⟨h1,h2,⟨h3,h4⟩|h3⟩
   ·exact .inl ⟨h1,h3⟩
   exact .inr ⟨h1,h2,h3⟩
  rename_i hc;rw[ih];constructor
  ·rintro⟨h1,h2,h3⟩;exact⟨h1,h2,.inr h3⟩
  rintro⟨h1,h2,⟨h3,h4⟩|h3⟩
  ·exact absurd ⟨h4,h2⟩ hc
  exact⟨h1,h2,h3⟩
theorem Fh{x:aX}:∀{k:Nat} {l:List Block} {p:Mv},p∈G8 x k l↔∃(i j:Nat) (b:Block) (e:Edge),l[i]?=some b∧b.term.to[j]?=some e∧p=(((k+i:Nat):Int),(j:Int))∧dK x.blocks ((k+i:Nat):Int)=false∧e.block=x.head
 | k,[],p=>by simp[G8]
 | k,b::r,p=>by
  have ih:=Fh (x:=x) (k:=k+1) (l:=r) (p:=p);unfold G8;rw[List.mem_append,ih,Fo];constructor
  ·rintro(⟨h1,h2,j,e,h3,h4,h5⟩|⟨i,j,b',e,h1,h2,h3,h4,h5⟩)
   ·obtain⟨a,c⟩:=p;simp only at h1 h4;refine⟨0,j,b,e,rfl,h3,?_,by simpa using h2,h5⟩;rw[h1,h4];simp
   refine⟨i+1,j,b',e,by simpa using h1,h2,?_,?_,h5⟩
   ·rw[h3];simp only[Prod.mk.injEq,and_true];congr 1;omega
   rw[show k+(i+1)=k+1+i by omega];exact h4
  rintro⟨i,j,b',e,h1,h2,h3,h4,h5⟩;cases i with
  | zero =>
   simp only[List.getElem?_cons_zero,Option.some.injEq]at h1;subst h1;subst h3;exact .inl ⟨by simp,by simpa using h4,j,e,h2,by simp,h5⟩
  | succ i =>
   refine .inr ⟨i,j,b',e,by simpa using h1,h2,?_,?_,h5⟩
   ·rw[h3];simp only[Prod.mk.injEq,and_true];congr 1;omega
   rw[show k+1+i=k+(i+1) by omega];exact h4
theorem yu{x:aX}:∀{k:Nat} {l:List Block},(∀b∈l,b.term.to.length<=257)->(G8 x k l).length<=l.length*257
 | _,[],_=>Nat.zero_le _
 | k,b::r,h=>by
  have ih:=yu (x:=x) (k:=k+1) (l:=r) fun c hc=>h c (List.mem_cons_of_mem _ hc);have h1:=Fm x.head (dK x.blocks (k:Int)) (k:Int) 0 b.term.to;have h2:=h b List.mem_cons_self;unfold G8;rw[List.length_append,List.length_cons];omega
end Go.Proofs.YtjdnhamngpafmaaGreat
namespace Go.Proofs.YtjdnhamngpafmaaGreat
open Go.Av
structure Od(f:Func)(x:aX):Prop where
 src:iG f x.head≠[]
 qZ:0<=x.head∧x.head<f.blocks.length
 bl:x.blocks=gW (iF f x.head)
theorem Pa{f:Func}{x:aX}(h:x∈sS f):Od f x∧x.parent=-1:=by
 unfold sS at h;obtain⟨k,hk,hx⟩:=List.mem_flatMap.1 h;rw[List.mem_range]at hk;unfold yC at hx;split at hx
 ·cases hx
 rename_i q;rw[List.mem_singleton]at hx;subst hx;exact⟨⟨q,⟨by simp,by simpa using hk⟩,rfl⟩,rfl⟩
theorem MR(f:Func):(sS f).Pairwise (fun x y=>x.head<y.head):=by
 unfold sS;rw[List.pairwise_flatMap];have hh:∀(k:Nat),∀x∈yC f k,x.head=k:=fun k x hx=>by
  unfold yC at hx;split at hx
  ·cases hx
  rw[List.mem_singleton]at hx;rw[hx]
 refine⟨fun k _=>?_,List.Pairwise.imp (fun yd x hx y hy=>?_) List.pairwise_lt_range⟩
 ·unfold yC;split
  ·exact List.Pairwise.nil
  exact List.pairwise_singleton _ _
 rw[hh _ x hx,hh _ y hy];omega
theorem pq(f:Func):jB (sS f) (cS f):=A5 fun _ hx=>(Pa hx).2
theorem nZ{f:Func}{x:aX}(h:x∈cS f):Od f x:=by
 have h1:=(pq f).1;have h2:(x.head,x.blocks)∈(cS f).map (fun x=>(x.head,x.blocks)):=List.mem_map.2 ⟨x,h,rfl⟩;rw[h1]at h2;obtain⟨y,hy,e⟩:=List.mem_map.1 h2;simp only[Prod.mk.injEq]at e;have hw:=(Pa hy).1;obtain⟨e1,e2⟩:=e;exact⟨by rw[<-e1];exact hw.src,by rw[<-e1];exact hw.qZ,by rw[<-e1,<-e2];exact hw.bl⟩
theorem nY(f:Func):(cS f).Pairwise (fun x y=>x.head<y.head):=by
 have h1:=(pq f).1;have h2:((sS f).map (fun x=>(x.head,x.blocks))).Pairwise (fun a b=>a.1<b.1):=by
  rw[List.pairwise_map];exact MR f
 rw[<-h1,List.pairwise_map]at h2;exact h2
theorem w8(f:Func):(cS f).length<=f.blocks.length:=by
 have h:=Dx (l:=(cS f).map (·.head)) (n:=f.blocks.length) (by
  unfold List.Nodup;rw[List.pairwise_map];exact List.Pairwise.imp (fun q=>by omega) (nY f)) (fun k hk=>by
  obtain⟨x,hx,rfl⟩:=List.mem_map.1 hk;exact(nZ hx).qZ)
 simpa using h
theorem AR{f:Func}{i j:Nat}{x y:aX}(hx:(cS f)[i]?=some x)(hy:(cS f)[j]?=some y)(sO:j<i):x.head≠y.head:=by
 have h:=List.pairwise_iff_getElem.1 (nY f) j i (I hy) (I hx) sO;rw[List.getElem?_eq_getElem (I hx)]at hx;rw[List.getElem?_eq_getElem (I hy)]at hy;simp only[Option.some.injEq]at hx hy;rw[hx,hy]at h;omega
section
variable {f:Func} {x:aX}
theorem Od.mem(h:Od f x){k:Int}:k∈x.blocks↔k∈iF f x.head:=by
 rw[h.bl];exact(kn _).mem_iff
theorem Od.nd(h:Od f x)(hg:gb f):x.blocks.Nodup:=by
 rw[h.bl];exact(kn _).nodup_iff.2 (nh hg h.qZ).nd
theorem Od.blk(h:Od f x)(hg:gb f){k:Int}(hk:k∈x.blocks):0<=k∧k<f.blocks.length:=(nh hg h.qZ).qZ k (h.mem.1 hk)
theorem Od.few(h:Od f x)(hg:gb f):x.blocks.length<=f.blocks.length:=Dx (h.nd hg) fun _ hk=>h.blk hg hk
theorem Od.hr(h:Od f x)(hg:gb f):0<=cU f x.head:=by
 obtain⟨s,hs⟩:=List.exists_mem_of_ne_nil _ h.src;exact nat_rch hg hs
theorem Od.Ri(h:Od f x)(hg:gb f){k:Int}(hk:k∈x.blocks):iD (dn f) x.head k:=Fc hg h.qZ (h.mem.1 hk)
theorem Od.back(h:Od f x)(hg:gb f):∃s∈x.blocks,0<=cU f s∧∃e∈fY f s,e.block=x.head:=by
 obtain⟨s,hs⟩:=List.exists_mem_of_ne_nil _ h.src;have hm:=n6.1 hs;exact⟨s,h.mem.2 ((nh hg h.qZ).src s hs),hm.1,hm.2.1⟩
end
end Go.Proofs.YtjdnhamngpafmaaGreat
namespace Go.Proofs.YtjdnhamngpafmaaGreat
open Go.Av
def DQ(N:Int)(fe:List (List Edge))(p:Mv):List (List Edge):=fe.set p.1.toNat ((fe[p.1.toNat]?.getD []).set p.2.toNat ⟨N,((fe[p.1.toNat]?.getD [])[p.2.toNat]?.getD default).args⟩)
def ct(n:Int)(k:Nat):List Int:=(List.range k).map fun i:Nat=>n+(i:Int)
def qD(h:Int)(ps:List Int):Block:=⟨ps,[],⟨1,0,0,[],[⟨h,ps⟩]⟩⟩
def eJ(f:Func)(x:aX):Bool:=match fa f x with
 | [p]=>decide ((aF f p.1).term.to.length=1)
 | _=>false
def qE(f:Func)(x:aX):Nat:=(aF f x.head).params.length
def px(f:Func)(S:Sp×Int)(x:aX):Sp×Int :=
 if eJ f x=true then S else(⟨(fa f x).foldl (DQ ((f.blocks.length+S.1.news.length:Nat):Int)) S.1.fe,S.1.news++[qD x.head (ct S.2 (qE f x))]⟩,S.2+qE f x)
def vp(f:Func):Sp×Int:=(cS f).foldl (px f) (Hz f,cv f)
def bu(f:Func):Func:=⟨f.name,List.zipWith eH f.blocks (vp f).1.fe++(vp f).1.news⟩
def gQ(n:Nat)(ns:List aX)(k:Int)(e:Edge):Edge:=match ns.findIdx? (fun x=>decide (e.block=x.head)&&!dK x.blocks k)with
 | some i=>⟨((n+i:Nat):Int),e.args⟩
 | none=>e
def fi(f:Func):List aX->Nat
 | []=>0
 | x::r=>qE f x+fi f r
def jt(f:Func):Int->List aX->List Block
 | _,[]=>[]
 | n,x::r=>qD x.head (ct n (qE f x))::jt f (n+qE f x) r
theorem lA(f:Func):∀(n:Int) (l:List aX),(jt f n l).length=l.length
 | _,[]=>rfl
 | n,x::r=>by rw[jt,List.length_cons,lA,List.length_cons]
theorem uD(f:Func):∀(n:Int) (l:List aX) (x:aX),jt f n (l++[x])=jt f n l++[qD x.head (ct (n+fi f l) (qE f x))]
 | n,[],x=>by simp[jt,fi]
 | n,y::r,x=>by
  have e:n+(qE f y:Int)+(fi f r:Int)=n+((qE f y+fi f r:Nat):Int):=by omega
  rw[List.cons_append,jt,jt,uD f _ r x,fi,List.cons_append,e]
theorem xB(f:Func):∀(l:List aX) (x:aX),fi f (l++[x])=fi f l+qE f x
 | [],x=>by simp[fi]
 | y::r,x=>by
  rw[List.cons_append,fi,xB f r x,fi];omega
theorem MT{N:Int}{fe:List (List Edge)}{p:Mv}{k n:Nat}{l:List Edge}{e:Edge}(hl:fe[k]?=some l)(he:l[n]?=some e)(BU:0<=p.1∧0<=p.2) :
  ∃l',(DQ N fe p)[k]?=some l'∧l'[n]?=some (if p=((k:Int),(n:Int))then⟨N,e.args⟩else e)∧l'.length=l.length:=by
 have yg:=I hl;have GI:=I he;unfold DQ;obtain⟨a,b⟩:=p;simp only at BU;obtain⟨a,rfl⟩:∃a':Nat,a=(a':Int):=⟨a.toNat,by omega⟩
 obtain⟨b,rfl⟩:∃b':Nat,b=(b':Int):=⟨b.toNat,by omega⟩
 simp only[Int.toNat_natCast];by_cases Vs:a=k
 ·subst Vs;rw[hl];simp only[Option.getD_some];refine⟨_,List.getElem?_set_self yg,?_,by simp⟩;by_cases Vw:b=n
  ·subst Vw;rw[List.getElem?_set_self GI,he];simp
  rw[List.getElem?_set_ne Vw,he,if_neg];simp only[Prod.mk.injEq,Int.natCast_inj,true_and];exact Vw
 refine⟨l,?_,?_,rfl⟩
 ·rw[List.getElem?_set_ne Vs];exact hl
 rw[he,if_neg];simp only[Prod.mk.injEq,Int.natCast_inj];exact fun q=>Vs q.1
theorem MU(N:Int)(fe:List (List Edge))(p:Mv):(DQ N fe p).length=fe.length:=by unfold DQ;rw[List.length_set]
theorem Fx{N:Int}:∀(ps:List Mv) {fe:List (List Edge)} {k n:Nat} {l:List Edge} {e:Edge},fe[k]?=some l->l[n]?=some e->(∀p∈ps,0<=p.1∧0<=p.2) ->
  ∃l',(ps.foldl (DQ N) fe)[k]?=some l'∧l'[n]?=some (if((k:Int),(n:Int))∈ps then⟨N,e.args⟩else e)∧l'.length=l.length
 | [],fe,k,n,l,e,hl,he,_=>⟨l,hl,by simpa using he,rfl⟩
 | p::ps,fe,k,n,l,e,hl,he,hp=>by
  obtain⟨l1,h1,h2,h3⟩:=MT (N:=N) (p:=p) hl he (hp p List.mem_cons_self);obtain⟨l2,h4,h5,h6⟩:=Fx (N:=N) ps h1 h2 fun q hq=>hp q (List.mem_cons_of_mem _ hq);refine⟨l2,h4,?_,by omega⟩;rw[h5];by_cases vR:p=((k:Int),(n:Int))
  ·subst vR;simp
  rw[if_neg vR];congr 1;have:((k:Int),(n:Int))∈p::ps↔((k:Int),(n:Int))∈ps:=by
   rw[List.mem_cons];exact⟨fun q=>q.resolve_left (fun q2=>vR q2.symm),.inr⟩
  simp only[this]
theorem MV{N:Int}{fe:List (List Edge)}{p:Mv}{k:Nat}{l:List Edge}(hl:fe[k]?=some l):∃l',(DQ N fe p)[k]?=some l'∧l'.length=l.length:=by
 unfold DQ;by_cases h:p.1.toNat=k
 ·rw[h,hl];exact⟨_,List.getElem?_set_self (I hl),by simp⟩
 exact⟨l,by rw[List.getElem?_set_ne h];exact hl,rfl⟩
theorem FA{N:Int}:∀(ps:List Mv) {fe:List (List Edge)} {k:Nat} {l:List Edge},fe[k]?=some l->∃l',(ps.foldl (DQ N) fe)[k]?=some l'∧l'.length=l.length
 | [],_,_,l,hl=>⟨l,hl,rfl⟩
 | p::ps,fe,k,l,hl=>by
  obtain⟨l1,h1,h2⟩:=MV (N:=N) (p:=p) hl;obtain⟨l2,h3,h4⟩:=FA (N:=N) ps h1;exact⟨l2,h3,by omega⟩
theorem Fy{N:Int}:∀(ps:List Mv) (fe:List (List Edge)),(ps.foldl (DQ N) fe).length=fe.length
 | [],_=>rfl
 | p::ps,fe=>by rw[List.foldl_cons,Fy ps,MU]
structure Re(f:Func)(ns:List aX)(S:Sp×Int):Prop where
 len:S.1.fe.length=f.blocks.length
 fe:∀(k:Nat) b,f.blocks[k]?=some b->S.1.fe[k]?=some (b.term.to.map (gQ f.blocks.length ns (k:Int)))
 news:S.1.news=jt f (cv f) ns
 next:S.2=cv f+fi f ns
theorem Hg(f:Func):Re f [] (Hz f,cv f):=⟨by simp[Hz],fun k b h=>by
 have:(Hz f).fe[k]?=some b.term.to:=by simp[Hz,h]
 rw[this];congr 1;symm;have l5:gQ f.blocks.length [] (k:Int)=id:=by
  funext e
  simp[gQ]
 rw[l5,List.map_id],rfl,by simp[fi]⟩
theorem Hn{n:Nat}{ns:List aX}{x:aX}(bI:∀y∈ns,y.head≠x.head)(k:Int)(e:Edge) :
  gQ n (ns++[x]) k e=if e.block=x.head∧dK x.blocks k=false then⟨((n+ns.length:Nat):Int),e.args⟩else gQ n ns k e:=by
 unfold gQ;rw[List.findIdx?_append];by_cases h1:e.block=x.head
 ·have hn:ns.findIdx? (fun x=>decide (e.block=x.head)&&!dK x.blocks k)=none:=by
   rw[List.findIdx?_eq_none_iff];intro y hy;have:e.block≠y.head:=fun q=>bI y hy (by rw[<-q,h1]);simp[this]
  rw[hn];cases h2:dK x.blocks k with
  | true=>simp[h2]
  | false=>simp[h1,h2,Nat.add_comm]
 rw[if_neg (fun q=>h1 q.1)];cases hq:ns.findIdx? (fun x=>decide (e.block=x.head)&&!dK x.blocks k)with
 | some i=>simp
 | none=>simp[h1]
theorem xv{n:Nat}{ns:List aX}{k:Int}{e:Edge}(h:∀y∈ns,y.head≠e.block):gQ n ns k e=e:=by
 unfold gQ;rw[List.findIdx?_eq_none_iff.2];intro y hy;have:e.block≠y.head:=fun q=>h y hy q.symm;simp[this]
theorem lC{f:Func}{x:aX}{p:Mv}:p∈fa f x↔∃(k j:Nat) (b:Block) (e:Edge),f.blocks[k]?=some b∧b.term.to[j]?=some e∧p=((k:Int),(j:Int))∧dK x.blocks (k:Int)=false∧e.block=x.head:=by
 unfold fa;rw[Fh];simp only[Nat.zero_add]
theorem JU{f:Func}{ns:List aX}{S:Sp×Int}(h:Re f ns S){x:aX}(bI:∀y∈ns,y.head≠x.head):Re f (if eJ f x=true then ns else ns++[x]) (px f S x):=by
 unfold px;split
 ·exact h
 have GI:S.1.news.length=ns.length:=by rw[h.news,lA]
 refine⟨by simp only;rw[Fy];exact h.len,fun k b hb=>?_,?_,?_⟩
 ·have ht:=h.fe k b hb;have pj:∀p∈fa f x,0<=p.1∧0<=p.2:=fun p hp=>by
   obtain⟨a,c,_,_,_,_,rfl,_⟩:=lC.1 hp;exact⟨by simp only;omega,by simp only;omega⟩
  simp only;obtain⟨L,hL,hlen⟩:=FA (N:=((f.blocks.length+S.1.news.length:Nat):Int)) (fa f x) ht;rw[List.length_map]at hlen;rw[hL];congr 1;apply List.ext_getElem?;intro n;cases he:b.term.to[n]? with
  | none =>
   have:=List.getElem?_eq_none_iff.1 he;rw[List.getElem?_eq_none (by omega),List.getElem?_map,he];rfl
  | some e =>
   have um:(b.term.to.map (gQ f.blocks.length ns (k:Int)))[n]?=some (gQ f.blocks.length ns (k:Int) e):=by rw[List.getElem?_map,he];rfl
   obtain⟨l',h1,h2,_⟩:=Fx (N:=((f.blocks.length+S.1.news.length:Nat):Int)) (fa f x) ht um pj;rw[hL]at h1;simp only[Option.some.injEq]at h1;rw[h1,h2,List.getElem?_map,he,Option.map_some,Hn bI,GI];congr 1;have hm:((k:Int),(n:Int))∈fa f x↔e.block=x.head∧dK x.blocks (k:Int)=false:=by
    rw[lC];constructor
    ·rintro⟨a,c,b',e',q1,q2,q3,q4,q5⟩;simp only[Prod.mk.injEq,Int.natCast_inj]at q3;obtain⟨rfl,rfl⟩:=q3;rw[hb]at q1;simp only[Option.some.injEq]at q1;subst q1;rw[he]at q2;simp only[Option.some.injEq]at q2;subst q2;exact⟨q5,q4⟩
    rintro⟨q5,q4⟩;exact⟨k,n,b,e,hb,he,rfl,q4,q5⟩
   by_cases hc:e.block=x.head∧dK x.blocks (k:Int)=false
   ·rw[if_pos (hm.2 hc),if_pos hc,xv (fun y hy=>by rw[hc.1];exact bI y hy)]
   rw[if_neg (fun q=>hc (hm.1 q)),if_neg hc]
 ·simp only;rw[uD,h.news,h.next]
 simp only;rw[xB,h.next,Int.natCast_add];omega
def bn(f:Func):List aX:=(cS f).filter fun x=>!eJ f x
theorem uN{f:Func}:∀(l:List aX) (ns:List aX) (S:Sp×Int),Re f ns S->(∀y∈ns,∀x∈l,y.head≠x.head)->l.Pairwise (fun x y=>x.head≠y.head)->Re f (ns++l.filter fun x=>!eJ f x) (l.foldl (px f) S)
 | [],ns,S,h,_,_=>by simpa using h
 | x::r,ns,S,h,hn,hp=>by
  rw[List.pairwise_cons]at hp;have h1:=JU h (x:=x) fun y hy=>hn y hy x List.mem_cons_self;rw[List.foldl_cons];cases hs:eJ f x with
  | true =>
   rw[if_pos hs]at h1;rw[List.filter_cons_of_neg (by simp[hs])];exact uN r ns _ h1 (fun y hy z hz=>hn y hy z (List.mem_cons_of_mem _ hz)) hp.2
  | false =>
   rw[if_neg (by simp[hs])]at h1;rw[List.filter_cons_of_pos (by simp[hs]),show ns++x::r.filter (fun x=>!eJ f x)=(ns++[x])++r.filter (fun x=>!eJ f x) by simp];refine uN r (ns++[x]) _ h1 (fun y hy z hz=>?_) hp.2;rcases List.mem_append.1 hy with q|q
   ·exact hn y q z (List.mem_cons_of_mem _ hz)
   rw[List.mem_singleton]at q;subst q;exact hp.1 z hz
theorem v8(f:Func):Re f (bn f) (vp f):=by
 have:=uN (cS f) [] _ (Hg f) (fun y hy=>by cases hy) ((nY f).imp fun h q=>by omega);simpa[bn,vp]using this
theorem Jz{ds:Defs}{v:Int}(h:v ∉ ds.map (·.1)):fk ds v=none:=by
 cases hl:fk ds v with
 | none=>rfl
 | some p=>exact absurd (List.mem_map.2 ⟨_,uz hl,rfl⟩) h
theorem qe{ds:Defs}{v:Int}{p:Int×Int}(hv:0<=v∧v<=4095)(h:v ∉ ds.map (·.1)):(cZ ds v p).1=0:=by
 unfold cZ;rw[Jz h];simp[within,hv]
theorem qC(k:Int):∀(l:List Int) (ds:Defs),(∀v∈l,0<=v∧v<=4095)->(ds.map (·.1)++l).Nodup->(dr k ds l).1=0
 | [],_,_,_=>rfl
 | p::r,ds,hv,hn=>by
  have hp:p ∉ ds.map (·.1):=fun q=>by
   rw[List.nodup_append]at hn;exact hn.2.2 p q p List.mem_cons_self rfl
  have h0:=qe (p:=(k,0)) (hv p List.mem_cons_self) hp;simp only[dr];rw[if_neg (by rw[h0];simp),lU h0];refine qC k r _ (fun v h=>hv v (List.mem_cons_of_mem _ h)) ?_;rw[List.map_append,List.append_assoc];exact hn
theorem wY(k:Int):∀(l:List Ins) (n:Int) (ds:Defs),(∀i∈l,0<=i.to∧i.to<=4095∧kL i=0)->(ds.map (·.1)++l.map Ins.to).Nodup->(l7 k n ds l).1=0
 | [],_,_,_,_=>rfl
 | i::r,n,ds,hv,hn=>by
  have hp:i.to ∉ ds.map (·.1):=fun q=>by
   rw[List.nodup_append]at hn;exact hn.2.2 _ q _ List.mem_cons_self rfl
  have hi:=hv i List.mem_cons_self;have h0:=qe (p:=(k,n+1)) ⟨hi.1,hi.2.1⟩ hp;simp only[l7];rw[if_neg (by rw[h0];simp),if_neg (by rw[hi.2.2];simp),lU h0];refine wY k r _ _ (fun j h=>hv j (List.mem_cons_of_mem _ h)) ?_;rw[List.map_append,List.append_assoc];exact hn
theorem zG{f:Func}{ds:Defs}{k:Int}{b:Block}(hb:aF f k=b)(hp:∀v∈b.params,0<=v∧v<=4095)(hi:∀i∈b.ins,0<=i.to∧i.to<=4095∧kL i=0)(he:oy f b.term=0)(hn:(ds.map (·.1)++dB b).Nodup):(fq f ds k).1=0:=by
 unfold fq;rw[hb];unfold dB at hn;rw[<-List.append_assoc]at hn;have h1:=qC k b.params ds hp (by
  rw[List.nodup_append]at hn;exact hn.1)
 rw[if_neg (by rw[h1];simp),pw k b.params ds h1];have h2:=wY k b.ins 0 (ds++iy k b.params) hi (by
  rw[List.map_append];have:(iy k b.params).map (·.1)=b.params:=by
   unfold iy;rw[List.map_map];exact List.map_id' _
  rw[this];exact hn)
 rw[if_neg (by rw[h2];simp)];exact he
theorem zF(k:Int)(b:Block):(jQ k b).map (·.1)=dB b:=by
 rw[jQ,List.map_append,na,dB,iy,List.map_map];congr 1;exact List.map_id' _
theorem pU{f:Func}(hp:∀b∈f.blocks,(∀v∈b.params,0<=v∧v<=4095)∧(∀i∈b.ins,0<=i.to∧i.to<=4095∧kL i=0)∧oy f b.term=0) :
  ∀(n k:Nat) (ds:Defs),k+n=f.blocks.length->(ds.map (·.1)++(f.blocks.drop k).flatMap dB).Nodup->(cO f n k ds).1=0
 | 0,_,_,_,_=>rfl
 | n+1,k,ds,hk,hn=>by
  have hb:f.blocks[k]?=some f.blocks[k]:=List.getElem?_eq_getElem (by omega);have Ou:aF f (k:Int)=f.blocks[k]:=by simp[aF,hb]
  rw[bQ hb,List.flatMap_cons,<-List.append_assoc]at hn;obtain⟨p1,p2,p3⟩:=hp _ (List.mem_of_getElem? hb);have h0:=zG (ds:=ds) Ou p1 p2 p3 (by
   rw[List.nodup_append]at hn;exact hn.1)
  simp only[cO];rw[if_neg (by rw[h0];simp),wA h0,Ou];have e:(k:Int)+1=((k+1:Nat):Int):=by omega
  rw[e];refine pU hp n (k+1) _ (by omega) ?_;rw[List.map_append,zF];exact hn
theorem oM{ds:Defs}{over:List Bs}{seen:Bs}{k:Nat}:∀(l:List Ins) (n:Nat),(∀(j:Nat) i,l[j]?=some i->∀a∈i.args,iI ds over seen k ((n+j:Nat):Int) a=true)->jc ds over seen k n l=true
 | [],_,_=>rfl
 | x::r,n,h=>by
  simp only[jc,Bool.and_eq_true,List.all_eq_true];refine⟨fun a ha=>h 0 x rfl a ha,oM r (n+1) fun j i hj a ha=>?_⟩;rw[show n+1+j=n+(j+1) by omega];exact h (j+1) i (by simpa using hj) a ha
theorem oF{ds:Defs}{over:List Bs}{seen:Bs}:∀(l:List Block) (k:Nat),(∀(j:Nat) b,l[j]?=some b->kF ds over seen (k+j) b=true)->gH ds over seen k l=true
 | [],_,_=>rfl
 | x::r,k,h=>by
  simp only[gH,Bool.and_eq_true];refine⟨h 0 x rfl,oF r (k+1) fun j b hj=>?_⟩;rw[show k+1+j=k+(j+1) by omega];exact h (j+1) b (by simpa using hj)
theorem pf{f:Func}(hn:(ga f).Nodup){k:Nat}{n v:Int}(h:zm f k n v):iI (BO f) (kv f).1 (kv f).2 k n v=true:=by
 obtain⟨p,h1,h2⟩:=h;have hl:fk (BO f) v=some p:=(GX (by rw[xY];exact hn)).2 (E'.2 h1);unfold iI;rw[hl];simp only[Bool.or_eq_true,Bool.and_eq_true,decide_eq_true_eq,Bool.not_eq_true',decide_eq_false_iff_not];cases hs:lF f k with
 | false=>exact .inr (.inr hs)
 | true =>
  rcases h2 hs with q|q
  ·exact .inl q
  exact .inr (.inl q)
theorem Ec{f:Func}(hn:(ga f).Nodup)(h:El f):qS f (BO f)=0:=by
 unfold qS;rw[if_pos];refine oF f.blocks 0 fun j b hj=>?_;rw[Nat.zero_add];unfold kF nA;simp only[Bool.and_eq_true,Bool.or_eq_true,decide_eq_true_eq,List.all_eq_true];refine⟨oM b.ins 0 fun n i hi a ha=>?_,?_,fun e he a ha=>pf hn (h.args j b hj e he a ha)⟩
 ·rw[Nat.zero_add];exact pf hn (h.ins j b hj n i hi a ha)
 by_cases h1:b.term.kind=1
 ·exact .inl (.inl h1)
 by_cases h4:b.term.kind=4
 ·exact .inl (.inr h4)
 exact .inr (pf hn (h.arg j b hj h1 h4))
def lH(bs:List Block):Nat:=(bs.map fun b=>b.ins.length).sum
theorem y3:∀(bs:List Block) (m:Nat),(∀b∈bs,b.ins.length<=1024)->m+bs.length*1024<=1000000->pI m bs=((m+lH bs:Nat):Int)
 | [],m,_,_=>by simp[pI,lH]
 | b::r,m,h,hm=>by
  have h1:=h b List.mem_cons_self;rw[List.length_cons]at hm;have hw:IntKind.i64.wrap ((m:Int)+(b.ins.length:Int))=((m+b.ins.length:Nat):Int):=by
   rw[mu .i64 _ (by show(-9223372036854775808:Int)<=_;omega) (by show _<=(9223372036854775807:Int);omega)];omega
  simp only[pI];rw[hw,y3 r (m+b.ins.length) (fun x hx=>h x (List.mem_cons_of_mem _ hx)) (by omega)];unfold lH;rw[List.map_cons,List.sum_cons,Nat.add_assoc]
theorem zQ{f:Func}(bI:f.blocks≠[])(C7:f.blocks.length<=128)(uu:-1<=f.name∧f.name<=1048575)(VT:∀b∈f.blocks,b.ins.length<=1024)(TQ:lH f.blocks<=1024)(mH:(aF f 0).params.length<=6)
  (hv:∀v∈ga f,0<=v∧v<=4095) (hn:(ga f).Nodup) (hb:∀b∈f.blocks,(∀i∈b.ins,kL i=0)∧oy f b.term=0) (hu:El f):aN f=0:=by
 have UC:∀b∈f.blocks,(∀v∈b.params,0<=v∧v<=4095)∧(∀i∈b.ins,0<=i.to∧i.to<=4095∧kL i=0)∧oy f b.term=0:=fun b h=>by
  have r6:∀v∈dB b,0<=v∧v<=4095:=fun v q=>hv v (List.mem_flatMap.2 ⟨b,h,q⟩);refine⟨fun v q=>r6 v (List.mem_append_left _ q),fun i q=>?_,(hb b h).2⟩;have:=r6 i.to (List.mem_append_right _ (List.mem_map.2 ⟨i,q,rfl⟩));exact⟨this.1,this.2,(hb b h).1 i q⟩
 have h0:=pU UC f.blocks.length 0 [] (by omega) (by
  rw[List.drop_zero];exact hn)
 have h1:=oZ f.blocks.length 0 [] (by omega) h0;rw[List.drop_zero,List.nil_append]at h1;have hw:=y3 f.blocks 0 VT (by omega);rw[Nat.zero_add]at hw;have hl:=List.length_pos_iff.2 bI;unfold aN;have UR:pI 0 f.blocks=((lH f.blocks:Nat):Int):=hw;rw[if_neg (by omega),if_neg (by rw[UR];omega),if_neg (by simp[within,uu]),if_neg (by
  have vn:(cO f f.blocks.length 0 []).1=0:=h0;rw[vn];simp)]
 have CY:(cO f f.blocks.length 0 []).2=BO f:=h1;rw[CY];exact Ec hn hu
theorem Nf{f:Func}(bt:f.fit)(h:aN f=0):lH f.blocks<=1024:=by
 have hw:=cq bt h;have he:=y3 f.blocks 0 hw.ins (by have:=hw.few;omega);unfold aN at h;split at h
 ·simp at h
 split at h
 ·simp at h
 rename_i h2;rw[Nat.zero_add]at he;have vM:pI 0 f.blocks=((lH f.blocks:Nat):Int):=he;rw[vM]at h2;omega
theorem Po{n k:Nat}{D:Nat->Nat->Prop}{R:Nat->Prop}{S:Ds}(hn:n<=128)(hl:S.over.length=n)(h1:∀i j,j<n->D i j->i<n∧(S.at_ j).has i=true)(h2:∀j,j<128->S.seen.has j=true->R j)(hk:k<n){e:Edge}(he:0<=e.block∧e.block.toNat<n)(hR:R k->R e.block.toNat)
  (hD:R k->∀i,D i e.block.toNat->i=e.block.toNat∨D i k) (hs:R k):(∀i j,j<n->D i j->i<n∧((gO k S e).at_ j).has i=true)∧(∀j,j<128->(gO k S e).seen.has j=true->R j)∧(gO k S e).over.length=n:=by
 unfold gO;simp only;split
 ·refine⟨fun i j hj sO=>?_,fun j hj GK=>?_,by simp only;rw[List.length_set,hl]⟩
  ·refine⟨(h1 i j hj sO).1,?_⟩;have hi:=(h1 i j hj sO).1;unfold Ds.at_;simp only;rw[List.getElem?_set];split
   ·rename_i q;rw[if_pos (by rw[hl];exact he.2),Option.getD_some,Bs.has_add _ _ _ (by omega) (by omega),Bs.uj];simp only[Bool.or_eq_true,Bool.and_eq_true,decide_eq_true_eq];rw[<-q]at sO;rcases hD hs i sO with r|r
    ·exact .inr r
    exact .inl ⟨(h1 i _ he.2 sO).2,(h1 i k hk r).2⟩
   exact(h1 i j hj sO).2
  simp only at GK;rw[Bs.has_add _ _ _ (by omega) hj]at GK;simp only[Bool.or_eq_true,decide_eq_true_eq]at GK;rcases GK with q|q
  ·exact h2 j hj q
  rw[q];exact hR hs
 exact⟨h1,h2,hl⟩
structure Oc(n:Nat)(D:Nat->Nat->Prop)(R:Nat->Prop)(S:Ds):Prop where
 len:S.over.length=n
 Ri:∀i j,j<n->D i j->i<n∧(S.at_ j).has i=true
 seen:∀j,j<128->S.seen.has j=true->R j
structure Rb(f:Func)(D:Nat->Nat->Prop)(R:Nat->Prop):Prop where
 few:f.blocks.length<=128
 eZ:∀b∈f.blocks,∀e∈b.term.to,0<=e.block∧e.block.toNat<f.blocks.length
 next:∀(k:Nat) b,f.blocks[k]?=some b->R k->∀e∈b.term.to,R e.block.toNat∧∀i,D i e.block.toNat->i=e.block.toNat∨D i k
theorem Oh{f:Func}{D:Nat->Nat->Prop}{R:Nat->Prop}(hc:Rb f D R){k:Nat}{b:Block}(hb:f.blocks[k]?=some b)(hR:R k):∀(l:List Edge) {S:Ds},(∀e∈l,e∈b.term.to)->Oc f.blocks.length D R S->Oc f.blocks.length D R (l.foldl (gO k) S)
 | [],_,_,h=>h
 | e::r,S,hl,h=>by
  have hn:=hc.next k b hb hR e (hl e List.mem_cons_self)
  obtain⟨a1,a2,a3⟩:=Po hc.few h.len h.Ri h.seen (I hb) (hc.eZ b (List.mem_of_getElem? hb) e (hl e List.mem_cons_self)) (fun _=>hn.1) (fun _=>hn.2) hR;rw[List.foldl_cons];exact Oh hc hb hR r (fun x hx=>hl x (List.mem_cons_of_mem _ hx)) ⟨a3,a1,a2⟩
theorem Oi{f:Func}{D:Nat->Nat->Prop}{R:Nat->Prop}(hc:Rb f D R):∀(l:List Block) (k:Nat) {S:Ds},l=f.blocks.drop k->Oc f.blocks.length D R S->Oc f.blocks.length D R (kU k S l)
 | [],_,_,_,h=>h
 | b::r,k,S,hl,h=>by
  have hb:f.blocks[k]?=some b:=by
   have:=congrArg (fun l=>l[0]?) hl;simpa using this.symm
  have hr:r=f.blocks.drop (k+1):=by
   rw[bQ hb]at hl;simpa using hl
  rw[kU];refine Oi hc r (k+1) hr ?_;unfold qf;split
  ·exact h
  rename_i hs;have hk:=I hb;exact Oh hc hb (h.seen k (by have:=hc.few;omega) (by simpa using hs)) _ (fun e he=>he) h
theorem ID{f:Func}{D:Nat->Nat->Prop}{R:Nat->Prop}(hc:Rb f D R):∀(n:Nat) {S:Ds},Oc f.blocks.length D R S->Oc f.blocks.length D R (iE f n S)
 | 0,_,h=>h
 | n+1,S,h=>by
  simp only[iE];split
  ·exact ID hc n (Oi hc f.blocks 0 (S:=⟨S.over,S.seen,false⟩) (by rw[List.drop_zero]) ⟨h.len,h.Ri,h.seen⟩)
  exact h
theorem xH:∀(n j:Nat),n<=128->j<n->(vr n).has j=true
 | 0,_,_,h=>absurd h (Nat.not_lt_zero _)
 | n+1,j,hn,hj=>by
  rw[vr,Bs.has_add _ _ _ (by omega) (by omega)];by_cases e:j=n
  ·simp[e]
  rw[xH n j (by omega) (by omega)];rfl
theorem LQ{f:Func}{D:Nat->Nat->Prop}{R:Nat->Prop}(bI:f.blocks≠[])(hc:Rb f D R)(h0:R 0)(hz:∀i,D i 0->i=0)(aZ:∀i j,D i j->i<f.blocks.length){i j:Nat}(hj:j<f.blocks.length)(h:D i j):(oP f j).has i=true:=by
 have hl:=List.length_pos_iff.2 bI;have hs:Oc f.blocks.length D R (ky f):=by
  refine⟨by simp[ky],fun i j hj sO=>⟨aZ i j sO,?_⟩,fun j hj GK=>?_⟩
  ·unfold Ds.at_ ky;simp only;rw[List.getElem?_set];split
   ·rename_i e;subst e;rw[if_pos (by simpa using hl),Option.getD_some,hz i sO];decide
   rw[List.getElem?_replicate,if_pos hj,Option.getD_some];exact xH _ _ hc.few (aZ i j sO)
  have:(Bs.none.add 0).has j=true:=GK;rw[Bs.has_add _ _ _ (by omega) hj]at this;have hn:Bs.none.has j=false:=by unfold Bs.has Bs.none;simp
  rw[hn]at this;simp only[Bool.false_or,decide_eq_true_eq]at this;rw[this];exact h0
 exact((ID hc 20000 hs).Ri i j hj h).2
end Go.Proofs.YtjdnhamngpafmaaGreat
namespace Go.Proofs.YtjdnhamngpafmaaGreat
open Go.Av
section
variable {f:Func}
theorem tC{k:Int}(h0:0<=k)(h1:k<f.blocks.length):f.blocks[k.toNat]?=some (aF f k):=by
 unfold aF;rw[List.getElem?_eq_getElem (by omega)];rfl
end
theorem D1{t t':Term}(h1:t.kind=t'.kind)(h2:t.arg=t'.arg)(h3:t.n=t'.n)(h4:t.cases=t'.cases)(h5:t.to.length=t'.to.length):ec t=ec t':=by
 unfold ec eN q9;rw[h1,h2,h3,h4,h5]
theorem zl.range{f:Func}{v:Int}{p:Int×Int}(h:zl f v p):0<=p.1∧p.1<f.blocks.length:=by
 obtain⟨k,b,h1,h2,_⟩:=h;have:=I h1;omega
theorem wL{f:Func}{t:Term}(h1:ec t=true)(h2:t.cases.length<=256)(h3:t.kind=4->1<=t.n∧t.n<=6)(h4:j9 t.cases t.cases.length=0)(h5:∀e∈t.to,(1<=e.block∧e.block<=(f.blocks.length:Int)-1)∧e.args.length=(aF f e.block).params.length):oy f t=0:=by
 unfold oy;rw[if_neg (by simp[h1]),if_neg (by omega),if_neg (fun q=>by
  have:=h3 q.1;have q2:=q.2;simp[within,this]at q2),if_neg (by rw[h4];simp)]
 generalize t.to=l at h5;induction l with
 | nil=>rfl
 | cons e r ih =>
  have he:=h5 e List.mem_cons_self;simp only[mU];rw[if_neg (by simp[within,he.1]),if_neg (by rw[he.2];simp)];exact ih fun x hx=>h5 x (List.mem_cons_of_mem _ hx)
theorem Gh{f:Func}{t:Term}(h:oy f t=0):j9 t.cases t.cases.length=0:=by
 unfold oy at h;split at h
 ·simp at h
 split at h
 ·simp at h
 split at h
 ·simp at h
 split at h
 ·rename_i q;exact absurd h q
 rename_i q;simpa using q
end Go.Proofs.YtjdnhamngpafmaaGreat
namespace Go.Proofs.YtjdnhamngpafmaaGreat
open Go.Av
section
variable {f:Func}
end
theorem BL:∀(bs:List Block) (fe:List (List Edge)),fe.length=bs.length->(List.zipWith eH bs fe).flatMap dB=bs.flatMap dB
 | [],_,_=>by simp
 | b::bs,l::fe,h=>by
  rw[List.zipWith_cons_cons,List.flatMap_cons,List.flatMap_cons,BL bs fe (by simpa using h)];rfl
 | b::bs,[],h=>by simp at h
theorem FQ:∀(bs:List Block) (fe:List (List Edge)),fe.length=bs.length->lH (List.zipWith eH bs fe)=lH bs
 | [],_,_=>by simp[lH]
 | b::bs,l::fe,h=>by
  have ih:=FQ bs fe (by simpa using h);unfold lH at ih ⊢;rw[List.zipWith_cons_cons,List.map_cons,List.map_cons,List.sum_cons,List.sum_cons,ih];rfl
 | b::bs,[],h=>by simp at h
theorem IH{f:Func}{D:Nat->Nat->Prop}{R:Nat->Prop}(bI:f.blocks≠[])(hc:Rb f D R)(h0:R 0)(hz:∀i,D i 0->i=0)(aZ:∀i j,D i j->i<f.blocks.length){j:Nat}(hj:j<128)(h:lF f j=true):R j:=by
 have hl:=List.length_pos_iff.2 bI;have hs:Oc f.blocks.length D R (ky f):=by
  refine⟨by simp[ky],fun i j hj sO=>⟨aZ i j sO,?_⟩,fun j hj GK=>?_⟩
  ·unfold Ds.at_ ky;simp only;rw[List.getElem?_set];split
   ·rename_i e;subst e;rw[if_pos (by simpa using hl),Option.getD_some,hz i sO];decide
   rw[List.getElem?_replicate,if_pos hj,Option.getD_some];exact xH _ _ hc.few (aZ i j sO)
  have:(Bs.none.add 0).has j=true:=GK;rw[Bs.has_add _ _ _ (by omega) hj]at this;have hn:Bs.none.has j=false:=by unfold Bs.has Bs.none;simp
  rw[hn]at this;simp only[Bool.false_or,decide_eq_true_eq]at this;rw[this];exact h0
 exact(ID hc 20000 hs).seen j hj h
end Go.Proofs.YtjdnhamngpafmaaGreat
namespace Go.Proofs.YtjdnhamngpafmaaGreat
open Go.Av
section
variable {f:Func}
theorem BC:∀l:List Block,(∀c∈l,c.ins=[])->lH l=0
 | [],_=>rfl
 | c::l,h=>by
  have ih:=BC l fun d hd=>h d (List.mem_cons_of_mem _ hd);unfold lH at ih ⊢;rw[List.map_cons,List.sum_cons,ih,h c (List.mem_cons_self ..)];rfl
end
end Go.Proofs.YtjdnhamngpafmaaGreat
namespace Go.Proofs.YtjdnhamngpafmaaGreat
open Go.Av
theorem gj(n:Nat)(ns:List aX)(k:Int)(e:Edge):(gQ n ns k e=e∧∀x∈ns,e.block=x.head->dK x.blocks k=true)∨∃(i:Nat) (x:aX),ns[i]?=some x∧gQ n ns k e=⟨((n+i:Nat):Int),e.args⟩∧e.block=x.head∧dK x.blocks k=false:=by
 unfold gQ;cases h:ns.findIdx? (fun x=>decide (e.block=x.head)&&!dK x.blocks k)with
 | none =>
  rw[List.findIdx?_eq_none_iff]at h;refine .inl ⟨rfl,fun x hx he=>?_⟩;have:=h x hx;rw[decide_eq_true he,Bool.true_and]at this;simpa using this
 | some i =>
  rw[List.findIdx?_eq_some_iff_getElem]at h;obtain⟨hi,h1,_⟩:=h;simp only[Bool.and_eq_true,decide_eq_true_eq,Bool.not_eq_true']at h1;exact .inr ⟨i,ns[i],List.getElem?_eq_getElem hi,rfl,h1.1,h1.2⟩
theorem uC(f:Func):∀(l:List aX) (n:Int) (i:Nat),(jt f n l)[i]?=(l[i]?).map fun x=>qD x.head (ct (n+fi f (l.take i)) (qE f x))
 | [],n,i=>by simp[jt]
 | x::r,n,0=>by simp[jt,fi]
 | x::r,n,i+1=>by
  have e:n+(qE f x:Int)+(fi f (r.take i):Int)=n+((qE f x+fi f (r.take i):Nat):Int):=by omega
  rw[jt,List.getElem?_cons_succ,List.getElem?_cons_succ,uC f r,List.take_succ_cons,fi,e]
section
variable {f:Func}
theorem lD:(vp f).1.news=jt f (cv f) (bn f):=(v8 f).news
theorem eV:(bu f).blocks.length=f.blocks.length+(bn f).length:=by
 unfold bu;rw[List.length_append,List.length_zipWith,(v8 f).len,lD,lA];omega
theorem od{k:Nat}{c:Block}(hk:k<f.blocks.length):(bu f).blocks[k]?=some c↔∃b,f.blocks[k]?=some b∧c=eH b (b.term.to.map (gQ f.blocks.length (bn f) (k:Int))):=by
 have hw:=(v8 f).len;have e:(bu f).blocks[k]?=(List.zipWith eH f.blocks (vp f).1.fe)[k]?:=List.getElem?_append_left (by rw[List.length_zipWith];omega);have h1:f.blocks[k]?=some f.blocks[k]:=List.getElem?_eq_getElem hk;have h2:=(v8 f).fe k _ h1;rw[e,List.getElem?_zipWith,h1,h2];constructor
 ·intro h;simp only[Option.some.injEq]at h;exact⟨_,rfl,h.symm⟩
 rintro⟨b,q1,q2⟩;simp only[Option.some.injEq]at q1;rw[q1,q2]
theorem qF(i:Nat):(bu f).blocks[f.blocks.length+i]?=((bn f)[i]?).map fun x=>qD x.head (ct (cv f+fi f ((bn f).take i)) (qE f x)):=by
 have hl:(List.zipWith eH f.blocks (vp f).1.fe).length=f.blocks.length:=by
  rw[List.length_zipWith,(v8 f).len];omega
 have e:(bu f).blocks[f.blocks.length+i]?=(vp f).1.news[f.blocks.length+i-(List.zipWith eH f.blocks (vp f).1.fe).length]?:=List.getElem?_append_right (by omega);rw[e,hl,Nat.add_sub_cancel_left,lD,uC]
theorem fU{k:Nat}{c:Block}(h:(bu f).blocks[k]?=some c):(∃b,k<f.blocks.length∧f.blocks[k]?=some b∧c=eH b (b.term.to.map (gQ f.blocks.length (bn f) (k:Int))))∨∃(i:Nat) (x:aX),k=f.blocks.length+i∧(bn f)[i]?=some x∧c=qD x.head (ct (cv f+fi f ((bn f).take i)) (qE f x)):=by
 by_cases hk:k<f.blocks.length
 ·obtain⟨b,h1,h2⟩:=(od hk).1 h;exact .inl ⟨b,hk,h1,h2⟩
 obtain⟨i,hi⟩:∃i,k=f.blocks.length+i:=⟨k-f.blocks.length,by omega⟩
 rw[hi,qF]at h;cases hx:(bn f)[i]? with
 | none=>rw[hx]at h;cases h
 | some x =>
  rw[hx]at h;simp only[Option.map_some,Option.some.injEq]at h;exact .inr ⟨i,x,hi,hx,h.symm⟩
theorem A1{x:aX}(h:x∈bn f):x∈cS f∧eJ f x=false:=by
 unfold bn at h;rw[List.mem_filter]at h;exact⟨h.1,by simpa using h.2⟩
end
end Go.Proofs.YtjdnhamngpafmaaGreat
namespace Go.Proofs.YtjdnhamngpafmaaGreat
open Go.Av
def Up(f:Func)(i j:Nat):Prop:=(j<f.blocks.length∧i<f.blocks.length∧(oP f j).has i=true)∨∃(n:Nat) (x:aX),j=f.blocks.length+n∧(bn f)[n]?=some x∧(i=j∨(i<f.blocks.length∧i≠x.head.toNat∧(oP f x.head.toNat).has i=true))
def U3(f:Func)(j:Nat):Prop:=(j<f.blocks.length∧lF f j=true)∨∃(n:Nat) (x:aX),j=f.blocks.length+n∧(bn f)[n]?=some x∧lF f x.head.toNat=true
section
variable {f:Func}
theorem iR{n:Nat}{x:aX}(h:(bn f)[n]?=some x):Od f x:=nZ (A1 (List.mem_of_getElem? h)).1
theorem T'(hg:gb f)(hd:Lu f)(hm:f.blocks.length+(bn f).length<=128):Rb (bu f) (Up f) (U3 f) where
 few:=by rw[eV];exact hm
 eZ:=fun c hc e he=>by
  obtain⟨k,hk⟩:=List.mem_iff_getElem?.1 hc;rw[eV];rcases fU hk with⟨b,h1,h2,h3⟩|⟨i,x,h1,h2,h3⟩
  ·rw[h3]at he;obtain⟨e0,q1,q2⟩:=List.mem_map.1 (show e∈b.term.to.map (gQ f.blocks.length (bn f) (k:Int)) from he);rcases gj f.blocks.length (bn f) (k:Int) e0 with⟨r1,_⟩|⟨i,x,r1,r2,_⟩
   ·have:=hg.eZ b (List.mem_of_getElem? h2) e0 q1;rw[<-q2,r1];omega
   have:=I r1;rw[<-q2,r2];simp only;omega
  rw[h3]at he;have hex:e.block=x.head:=by
   have:e=⟨x.head,ct (cv f+fi f ((bn f).take i)) (qE f x)⟩:=by simpa[qD]using he
   rw[this]
  have:=(iR h2).qZ;rw[hex];omega
 next:=fun k c hk hR e he=>by
  have hn:=hg.few;rcases fU hk with⟨b,h1,h2,h3⟩|⟨i,x,h1,h2,h3⟩
  ·rw[h3]at he;obtain⟨e0,q1,q2⟩:=List.mem_map.1 (show e∈b.term.to.map (gQ f.blocks.length (bn f) (k:Int)) from he);have hs:lF f k=true:=by
    rcases hR with q|⟨_,_,q,_⟩
    ·exact q.2
    omega
   have hr:=hg.eZ b (List.mem_of_getElem? h2) e0 q1;obtain⟨s1,s2⟩:=hd.step k b h2 hs e0 q1;rcases gj f.blocks.length (bn f) (k:Int) e0 with⟨r1,_⟩|⟨i,x,r1,r2,r3,_⟩
   ·rw[<-q2,r1];refine⟨.inl ⟨by omega,s1⟩,fun z hz=>?_⟩;rcases hz with⟨z1,z2,z3⟩|⟨n,_,z1,_⟩
    ·rcases s2 z (by omega) z3 with r|r
     ·exact .inl r
     exact .inr (.inl ⟨h1,z2,r⟩)
    omega
   have VH:e.block.toNat=f.blocks.length+i:=by
    rw[<-q2,r2];simp only;omega
   rw[VH];refine⟨.inr ⟨i,x,rfl,r1,by rw[<-r3];exact s1⟩,fun z hz=>?_⟩;rcases hz with⟨z1,_⟩|⟨n,y,z1,z2,z3⟩
   ·omega
   have V7:n=i:=by omega
   subst V7;rw[r1]at z2;obtain rfl:=Option.some.inj z2;rcases z3 with z3|⟨z3,z4,z5⟩
   ·exact .inl z3
   rw[<-r3]at z4 z5;exact .inr (.inl ⟨h1,z3,(s2 z (by omega) z5).resolve_left z4⟩)
  rw[h3]at he;have hex:e.block=x.head:=by
   have:e=⟨x.head,ct (cv f+fi f ((bn f).take i)) (qE f x)⟩:=by simpa[qD]using he
   rw[this]
  have Wm:=(iR h2).qZ;rw[hex];have hs:lF f x.head.toNat=true:=by
   rcases hR with q|⟨n,y,q1,q2,q3⟩
   ·omega
   have V7:n=i:=by omega
   subst V7;rw[h2]at q2;obtain rfl:=Option.some.inj q2;exact q3
  refine⟨.inl ⟨by omega,hs⟩,fun z hz=>?_⟩;rcases hz with⟨z1,z2,z3⟩|⟨n,_,z1,_⟩
  ·by_cases q:z=x.head.toNat
   ·exact .inl q
   exact .inr (.inr ⟨i,x,h1,h2,.inr ⟨z2,q,z3⟩⟩)
  omega
theorem JX(hg:gb f)(hd:Lu f):∀i,Up f i 0->i=0:=fun i h=>by
 have hl:=List.length_pos_iff.2 hg.ne;have hn:=hg.few;rcases h with⟨_,h2,h3⟩|⟨n,_,h1,_⟩
 ·exact(hd.zero i (by omega)).1 h3
 omega
theorem Qz:∀i j,Up f i j->i<(bu f).blocks.length:=fun i j h=>by
 rw[eV];rcases h with⟨_,h2,_⟩|⟨n,_,h1,h2,h3|⟨h3,_⟩⟩
 ·omega
 ·have:=I h2;omega
 omega
theorem DN(hg:gb f):(bu f).blocks≠[]:=fun q=>by
 have hl:=List.length_pos_iff.2 hg.ne;have:=congrArg List.length q;rw[eV]at this;simp only[List.length_nil]at this;omega
theorem LO{v:Int}{p:Int×Int}(h:zl f v p):zl (bu f) v p:=by
 obtain⟨k,b,h1,h2,h3⟩:=h;have hk:=I h1;exact⟨k,eH b _,(od hk).2 ⟨b,h1,rfl⟩,h2,h3⟩
theorem ja:∀(l:List Int) (x:Int),x<=l.foldl eF x∧∀v∈l,v<l.foldl eF x
 | [],x=>⟨Int.le_refl _,fun v h=>by cases h⟩
 | a::r,x=>by
  obtain⟨h1,h2⟩:=ja r (eF x a);have h3:x<=eF x a∧a<eF x a:=by
   unfold eF;omega
  rw[List.foldl_cons];refine⟨by omega,fun v hv=>?_⟩;rcases List.mem_cons.1 hv with rfl|q
  ·omega
  exact h2 v q
theorem fresh_gtP{v:Int}(h:v∈ga f):v<cv f:=(ja (ga f) 0).2 v h
end
end Go.Proofs.YtjdnhamngpafmaaGreat
namespace Go.Proofs.YtjdnhamngpafmaaGreat
open Go.Av
theorem frL_memP{n v:Int}{k:Nat}:v∈ct n k↔n<=v∧v<n+k:=by
 unfold ct;rw[List.mem_map];constructor
 ·rintro⟨i,h1,rfl⟩;rw[List.mem_range]at h1;omega
 intro h;exact⟨(v-n).toNat,by rw[List.mem_range];omega,by omega⟩
theorem ED(n:Int)(a b:Nat):ct n (a+b)=ct n a++ct (n+a) b:=by
 unfold ct;rw[List.range_add,List.map_append,List.map_map];congr 1;apply List.map_congr_left;intro i _;simp only[Function.comp];omega
theorem rq(n:Int):∀k:Nat,(ct n k).Nodup
 | 0=>List.nodup_nil
 | k+1=>by
  rw[ED,List.nodup_append];refine⟨rq n k,by simp[ct],fun a ha b hb=>?_⟩;rw[frL_memP]at ha hb;omega
theorem frL_lenP(n:Int)(k:Nat):(ct n k).length=k:=by unfold ct;rw[List.length_map,List.length_range]
theorem uE(f:Func):∀(l:List aX) (n:Int),(jt f n l).flatMap dB=ct n (fi f l)
 | [],n=>by simp[jt,fi,ct]
 | x::r,n=>by
  rw[jt,List.flatMap_cons,uE f r,fi,ED];simp[dB,qD]
section
variable {f:Func}
theorem uO:ga (bu f)=ga f++ct (cv f) (fi f (bn f)):=by
 unfold ga bu;rw[List.flatMap_append,BL _ _ (v8 f).len,lD,uE]
theorem Ay(hv:xF f){x:aX}(h:Od f x):1<=x.head:=by
 obtain⟨s,hs,_,e,he,q⟩:=h.back hv.fn.gr;have hr:=h.blk hv.fn.gr hs;have:=hv.eZ _ (eW hr.1 hr.2) e he;omega
theorem xj(bt:f.fit)(hc:aN f=0)(hm:f.blocks.length+(bn f).length<=128)(hq:cv f+fi f (bn f)<=4096):aN (bu f)=0:=by
 have hv:=jj bt hc;have hf:=hv.fn;have hg:=hf.gr;have hd:=hv.Ri;have hl:=List.length_pos_iff.2 hg.ne;have hC:=T' hg hd hm;have L':U3 f 0:=.inl ⟨hl,hd.seen⟩;have hz:=JX hg hd;have aZ:=Qz (f:=f);have gu:∀{i j:Nat},j<(bu f).blocks.length->Up f i j->(oP (bu f) j).has i=true:=fun hj h=>LQ (DN hg) hC L' hz aZ hj h;have qv:∀{j:Nat},j<128->lF (bu f) j=true->U3 f j:=fun hj h=>IH (DN hg) hC L' hz aZ hj h;have hold:∀{k:Nat} {n v:Int},k<f.blocks.length->zm f k n v->zm (bu f) k n v:=fun {k n v} hk h=>by
  obtain⟨p,h1,h2⟩:=h;have hp:=h1.range;refine⟨p,LO h1,fun hs=>?_⟩;have RF:lF f k=true:=by
   rcases qv (by omega) hs with q|⟨_,_,q,_⟩
   ·exact q.2
   omega
  rcases h2 RF with q|⟨q1,q2⟩
  ·exact .inl q
  exact .inr ⟨q1,gu (by rw[eV];omega) (.inl ⟨hk,by omega,q2⟩)⟩
 have TQ:lH (bu f).blocks=lH f.blocks:=by
  have h1:lH (bu f).blocks=lH (List.zipWith eH f.blocks (vp f).1.fe)+lH (vp f).1.news:=by
   unfold lH bu;rw[List.map_append,List.sum_append]
  have h2:lH (vp f).1.news=0:=by
   refine BC _ fun c Mi=>?_;obtain⟨i,hi⟩:=List.mem_iff_getElem?.1 Mi;rw[lD,uC]at hi;cases hx:(bn f)[i]? with
   | none=>rw[hx]at hi;cases hi
   | some x =>
    rw[hx]at hi;simp only[Option.map_some,Option.some.injEq]at hi;rw[<-hi];rfl
  rw[h1,h2,FQ _ _ (v8 f).len];rfl
 have mH:∀{k:Int},0<=k->k<f.blocks.length->(aF (bu f) k).params=(aF f k).params:=fun {k} h0 h1=>by
  have hb:=tC h0 h1;have:=(od (f:=f) (k:=k.toNat) (by omega)).2 ⟨_,hb,rfl⟩;have e:aF (bu f) k=eH (aF f k) ((aF f k).term.to.map (gQ f.blocks.length (bn f) (k.toNat:Int))):=by
   show(bu f).blocks[k.toNat]?.getD default=_;rw[this];rfl
  rw[e];rfl
 have GJ:∀(i:Nat) x,(bn f)[i]?=some x->(aF (bu f) ((f.blocks.length+i:Nat):Int)).params.length=(aF f x.head).params.length:=fun i x hi=>by
  have e:aF (bu f) ((f.blocks.length+i:Nat):Int)=qD x.head (ct (cv f+fi f ((bn f).take i)) (qE f x)):=by
   unfold aF;rw[Int.toNat_natCast,qF,hi];rfl
  rw[e];exact frL_lenP _ _
 have UG:0<=cv f:=(ja (ga f) 0).1;have Jq:∀v∈ga (bu f),0<=v∧v<=4095:=fun v TZ=>by
  rw[uO,List.mem_append,frL_memP]at TZ;rcases TZ with q|q
  ·exact hv.vals v q
  omega
 refine zQ (DN hg) (by rw[eV];exact hm) hf.name (fun c Mi=>?_) (by rw[TQ];exact Nf bt hc) (by rw[mH (by omega) (by omega)];exact hf.args) Jq ?_ (fun c Mi=>?_) ?_
 ·obtain⟨k,hk⟩:=List.mem_iff_getElem?.1 Mi;rcases fU hk with⟨b,_,h2,h4⟩|⟨i,x,_,_,h3⟩
  ·rw[h4];exact hf.ins b (List.mem_of_getElem? h2)
  rw[h3];simp[qD]
 ·rw[uO,List.nodup_append];refine⟨hv.nodup,rq _ _,fun a ha b hb=>?_⟩;have:=fresh_gtP ha;rw[frL_memP]at hb;omega
 ·obtain⟨k,hk⟩:=List.mem_iff_getElem?.1 Mi;rcases fU hk with⟨b,h1,h2,h4⟩|⟨i,x,h1,h2,h3⟩
  ·have SF:=hf.blk b (List.mem_of_getElem? h2);obtain⟨m1,m2,m3,m4⟩:=jS SF.fin;rw[h4];refine⟨SF.Ai,wL ?_ m2 m3 (Gh (f:=f) (t:=b.term) SF.fin) fun e he=>?_⟩
   ·rw[D1 (t:=(eH b (b.term.to.map (gQ f.blocks.length (bn f) (k:Int)))).term) (t':=b.term) rfl rfl rfl rfl (by simp[eH])];exact m1
   rw[eV];obtain⟨e0,q1,q2⟩:=List.mem_map.1 (show e∈b.term.to.map (gQ f.blocks.length (bn f) (k:Int)) from he);obtain⟨e1,e2⟩:=m4 e0 q1;rcases gj f.blocks.length (bn f) (k:Int) e0 with⟨r1,_⟩|⟨i,x,r1,r2,r3,_⟩
   ·rw[<-q2,r1];exact⟨by omega,by rw[mH (by omega) (by omega)];exact e2⟩
   have hi:=I r1;rw[<-q2,r2];refine⟨by simp only;omega,?_⟩;simp only;rw[GJ i x r1,e2,r3]
  have Wm:=(iR h2).qZ;have hp:=Ay hv (iR h2);rw[h3];refine⟨fun i hi=>(by cases hi),wL (by simp[qD,ec,eN,q9]) (by simp[qD]) (by simp[qD]) rfl fun e he=>?_⟩;have hex:e=⟨x.head,ct (cv f+fi f ((bn f).take i)) (qE f x)⟩:=by simpa[qD]using he
  rw[hex,eV];refine⟨by simp only;omega,?_⟩;simp only;rw[mH (by omega) (by omega),frL_lenP];rfl
 refine⟨fun k c hk n i hi a ha=>?_,fun k c hk h1 h4=>?_,fun k c hk e he a ha=>?_⟩
 ·rcases fU hk with⟨b,h1,h2,h4⟩|⟨i0,x,_,_,h3⟩
  ·rw[h4]at hi;exact hold h1 (hv.BF.ins k b h2 n i hi a ha)
  rw[h3]at hi;simp[qD]at hi
 ·rcases fU hk with⟨b,q1,q2,q4⟩|⟨i0,x,_,_,q3⟩
  ·rw[q4]at h1 h4 ⊢;exact hold q1 (hv.BF.arg k b q2 h1 h4)
  rw[q3]at h1;exact absurd rfl h1
 rcases fU hk with⟨b,q1,q2,q4⟩|⟨i0,x,q1,q2,q3⟩
 ·rw[q4]at he ⊢;obtain⟨e0,r1,r2⟩:=List.mem_map.1 (show e∈b.term.to.map (gQ f.blocks.length (bn f) (k:Int)) from he);have K':e.args=e0.args:=by
   rcases gj f.blocks.length (bn f) (k:Int) e0 with⟨s1,_⟩|⟨i,x,s1,s2,_⟩
   ·rw[<-r2,s1]
   rw[<-r2,s2]
  rw[K']at ha;exact hold q1 (hv.BF.args k b q2 e0 r1 a ha)
 rw[q3]at he ⊢;have hex:e=⟨x.head,ct (cv f+fi f ((bn f).take i0)) (qE f x)⟩:=by simpa[qD]using he
 rw[hex]at ha;exact⟨((k:Int),0),⟨k,c,hk,rfl,.inl ⟨rfl,by rw[q3];exact ha⟩⟩,fun _=>.inl ⟨rfl,Int.le_refl _⟩⟩
end
end Go.Proofs.YtjdnhamngpafmaaGreat
namespace Go.Proofs.YtjdnhamngpafmaaGreat
open Go.Av
inductive tk(f:Func)(a:Int):Int->Prop
 | start (h:a≠0):tk f a 0
 | step {p k:Int} (h:tk f a p) (e:q8 f p k) (bI:a≠k):tk f a k
theorem tk.xu{f:Func}(hw:gX f){a k:Int}(h:tk f a k):0<=cU f k:=by
 induction h with
 | start _=>rw[hw.zero];omega
 | step _ e _ ih=>exact hw.next _ _ ih e
def B3(f:Func)(O:List Int):Prop:=∀x,0<=dH O x->∀a,¬tk f a x->a≠x->¬tk f a (dH O x)
theorem Ba{f:Func}(hw:gX f){O:List Int}(h:Tr f O)(hp:B3 f O){a:Int}:∀(n:Nat) (x:Int),jW O x->cU f x<n->¬tk f a x->iD O a x
 | 0,x,hx,hn,_=>by
  have:=h.y5 hw hx;omega
 | n+1,x,hx,hn,ha=>by
  by_cases e:a=x
  ·rw[e];exact .refl
  rcases hx with q|q
  ·rw[q]at ha e;exact absurd (tk.start e) ha
  obtain⟨u1,u2,u3⟩:=h.up x q;exact .up q (Ba hw h hp n _ u3 (by omega) (hp x q a ha e))
theorem DJ{f:Func}(hw:gX f){O:List Int}(h:Tr f O)(hp:B3 f O){a x:Int}(hx:jW O x)(ha:¬tk f a x):iD O a x:=Ba hw h hp 300 x hx (by
 have h1:=(hw.low x).2;have h2:=hw.few;omega) ha
theorem Qy{f:Func}(hw:gX f){O:List Int}(h:Tr f O)(hp:B3 f O){a m x:Int}(hx:jW O x)(ha:¬tk f a x)(hm:iD O m x)(Y5:iD O a m):¬tk f a m:=by
 induction hm with
 | refl=>exact ha
 | @up x hu hm ih =>
  obtain⟨u1,u2,u3⟩:=h.up x hu;by_cases e:a=x
  ·have h1:=hm.pl hw h u3;have h2:=(Y5.pl hw h h1.2.2.1).1;rw[e]at h2;omega
  exact ih u3 (hp x hu a ha e)
theorem Fq{f:Func}(hw:gX f){O:List Int}(h:Tr f O)(hp:B3 f O){a:Int}:∀(ps:List Int) (acc:Int),(∀p∈ps,0<=p∧p<f.blocks.length)->(∀p∈ps,¬tk f a p)->(acc=-1∨(jW O acc∧¬tk f a acc)) ->
  ps.foldl (cM (fT f) O) acc=-1∨(jW O (ps.foldl (cM (fT f) O) acc)∧¬tk f a (ps.foldl (cM (fT f) O) acc))
 | [],acc,_,_,rr=>rr
 | p::r,acc,mI,pM,rr=>by
  rw[List.foldl_cons];refine Fq hw h hp r _ (fun q hq=>mI q (List.mem_cons_of_mem _ hq)) (fun q hq=>pM q (List.mem_cons_of_mem _ hq)) ?_;have lr:=mI p List.mem_cons_self;unfold cM;by_cases ha:jW O p
  ·rw[if_neg fun q=>(np hw h lr).1 q ha];split
   ·exact .inr ⟨ha,pM p List.mem_cons_self⟩
   rename_i hn;obtain⟨q1,q2⟩:=rr.resolve_left (by omega);obtain⟨m1,m2,m3⟩:=AW hw h q1 ha;have h1:=DJ hw h hp q1 q2;have h2:=DJ hw h hp ha (pM p List.mem_cons_self);exact .inr ⟨(m1.pl hw h q1).2.2.1,Qy hw h hp q1 q2 m1 (m3 a h1 h2)⟩
  rw[if_pos ((np hw h lr).2 ha)];exact rr
theorem MM{f:Func}(hg:gb f)(hw:gX f){i:Int}{O:List Int}(h:ku f i O)(hp:B3 f O){z:Int}(hz:cU f z=i)(h1:1<=i):B3 f (O.set z.toNat (gV (fT f) O (bB f z))):=by
 have wX:=hw.range z (by omega);have WG:1<=z:=by
  refine Classical.byContradiction fun q=>?_;have:z=0:=by omega
  rw[this,hw.zero]at hz;omega
 have ER:=(wG hg hw h hz h1).1;intro x hx a ha bI;rw[Em WG (by rw[h.tr.len];omega)]at hx ⊢;split
 ·rename_i e;subst e;have:=Fq hw h.tr hp (a:=a) (bB f x) (-1) (fun p q=>(iT hg wX.1 q).1) (fun p q r=>ha (.step r (iT hg wX.1 q).2 bI)) (.inl rfl);exact(this.resolve_left fun q=>by
   have:gV (fT f) O (bB f x)=-1:=q;omega).2
 rename_i e;rw[if_neg e]at hx;exact hp x hx a ha bI
theorem Hf{f:Func}(hg:gb f)(hw:gX f){i:Int}{S:Dm}(h:ku f i S.over)(hp:B3 f S.over){z:Int}(hz:cU f z=i)(h1:1<=i):B3 f (ew f S z).over:=by
 unfold ew;split
 ·exact MM hg hw h hp hz h1
 exact hp
theorem JS{f:Func}(hg:gb f)(hw:gX f):∀(l:List Int) (i:Nat) {S:Dm},1<=i->(∀(j:Nat) z,l[j]?=some z->cU f z=i+j)->ku f i S.over->B3 f S.over->B3 f (l.foldl (ew f) S).over
 | [],_,_,_,_,_,hp=>hp
 | z::r,i,S,h1,hl,h,hp=>by
  have hz:=hl 0 z rfl;have Yc:cU f z=i:=by rw[hz];omega
  have a1:=(rn hg hw h Yc (by omega)).1;have Rh:ku f ((i+1:Nat):Int) (ew f S z).over:=by
   rw[show((i+1:Nat):Int)=(i:Int)+1 by omega];exact a1
  rw[List.foldl_cons];exact JS hg hw r (i+1) (by omega) (fun j y hj=>by
   rw[hl (j+1) y hj];omega) Rh (Hf hg hw h hp Yc (by omega))
theorem Qx{f:Func}(hg:gb f)(hw:gX f){S:Dm}(h:ku f 1 S.over)(hp:B3 f S.over):B3 f (HL f S).over :=
 JS hg hw ((bz f).drop 1) 1 (by omega) (fun j z hj=>by
  rw[List.getElem?_drop]at hj;rw[hw.at_ _ _ hj];omega) h hp
theorem JT{f:Func}(hg:gb f)(hw:gX f):∀(n:Nat) {S:Dm},ku f 1 S.over->B3 f S.over->B3 f (Eu f n S).over
 | 0,_,_,hp=>hp
 | n+1,S,h,hp=>by
  simp only[Eu];split
  ·exact JT hg hw n (pd hw (CI hg hw (S:=⟨S.over,false⟩) h).1) (Qx hg hw (S:=⟨S.over,false⟩) h hp)
  exact hp
theorem N'{f:Func}(hg:gb f):B3 f (dn f):=by
 have hw:=dk hg;refine JT hg hw 30000 (CK hw) fun x hx=>?_;have pL:dH (CJ f).over x=-1:=by
  unfold dH CJ;simp only;rw[List.getElem?_replicate];split<;>rfl
 rw[pL]at hx;omega
theorem nI{f:Func}(hg:gb f){a k:Int}(hk:0<=cU f k):iD (dn f) a k↔¬tk f a k:=by
 have hw:=dk hg;have ht:=ko hg;constructor
 ·intro h q;induction q with
  | start bI =>
   cases h with
   | refl=>exact bI rfl
   | up h _=>rw[ht.tr.root]at h;omega
  | @step p k q e bI ih =>
   have hp:=q.xu hw;have lr:=hw.range p hp;have vN:=hw.range k hk;have h1:1<=cU f k:=by
    obtain⟨x,hx,wW⟩:=e;have:=(hg.eZ _ (List.mem_of_getElem? (show f.blocks[p.toNat]?=some (aF f p) by
     unfold aF;rw[List.getElem?_eq_getElem (by omega)];rfl)) x hx).1
    refine Classical.byContradiction fun r=>?_;have:=hw.inj k 0 hk (by rw[hw.zero];omega);omega
   exact ih hp (tu hg h1 (nN lr vN e) hp h bI)
 exact DJ hw ht.tr (N' hg) (ht.Cd hw hk)
end Go.Proofs.YtjdnhamngpafmaaGreat
namespace Go.Proofs.YtjdnhamngpafmaaGreat
open Go.Av
section
variable {f:Func}
theorem nO(hg:gb f){p k:Int}(h0:0<=p)(h1:p<f.blocks.length)(h:q8 f p k):0<=k∧k<f.blocks.length:=by
 obtain⟨x,hx,e⟩:=h;have:=hg.eZ _ (List.mem_of_getElem? (tC h0 h1)) x hx;omega
theorem Bh(hg:gb f):∀(n:Nat) (k:Int),0<=cU f k->cU f k<n->tk f (-1) k
 | 0,k,h,hn=>by omega
 | n+1,k,h,hn=>by
  have hw:=dk hg;by_cases h0:cU f k=0
  ·have hk:k=0:=hw.inj k 0 h (by rw[hw.zero,h0]);rw[hk];exact .start (by omega)
  obtain⟨p,he,BU,P9⟩:=hw.fwd k (by omega);have vN:=hw.range k h;exact .step (Bh hg n p BU (by omega)) he (by omega)
theorem Fv(hg:gb f){k:Int}:0<=cU f k↔tk f (-1) k:=by
 have hw:=dk hg;refine⟨fun h=>Bh hg 300 k h ?_,fun h=>h.xu hw⟩;have h1:=(hw.low k).2;have h2:=hw.few;omega
end
end Go.Proofs.YtjdnhamngpafmaaGreat
namespace Go.Proofs.YtjdnhamngpafmaaGreat
open Go.Av
section
variable {f:Func}
theorem DL{k:Int}(h0:0<=k)(h1:k<f.blocks.length):fY (bu f) k=(fY f k).map (gQ f.blocks.length (bn f) k):=by
 have hb:=tC h0 h1;have hc:=(od (f:=f) (k:=k.toNat) (by omega)).2 ⟨_,hb,rfl⟩;rw[Int.toNat_of_nonneg h0]at hc;show((bu f).blocks[k.toNat]?.getD default).term.to=_;rw[hc];rfl
theorem DK{i:Nat}{x:aX}(h:(bn f)[i]?=some x):fY (bu f) ((f.blocks.length+i:Nat):Int)=[⟨x.head,ct (cv f+fi f ((bn f).take i)) (qE f x)⟩]:=by
 show((bu f).blocks[((f.blocks.length+i:Nat):Int).toNat]?.getD default).term.to=_;rw[Int.toNat_natCast,qF,h];rfl
theorem yz{p k:Int}(h0:0<=p)(h1:p<f.blocks.length)(h:q8 f p k):q8 (bu f) p k∨∃(i:Nat) (x:aX),(bn f)[i]?=some x∧k=x.head∧dK x.blocks p=false∧q8 (bu f) p ((f.blocks.length+i:Nat):Int)∧q8 (bu f) ((f.blocks.length+i:Nat):Int) k:=by
 obtain⟨y,hy,e⟩:=h;have hm:gQ f.blocks.length (bn f) p y∈fY (bu f) p:=by
  rw[DL h0 h1];exact List.mem_map.2 ⟨y,hy,rfl⟩
 rcases gj f.blocks.length (bn f) p y with⟨q,_⟩|⟨i,x,q1,q2,q3,q4⟩
 ·rw[q]at hm;exact .inl ⟨y,hm,e⟩
 rw[q2]at hm;refine .inr ⟨i,x,q1,by rw[<-e,q3],q4,⟨_,hm,rfl⟩,⟨_,by rw[DK q1];exact List.mem_singleton.2 rfl,?_⟩⟩;rw[<-e,q3]
theorem uc{p j:Int}(h0:0<=p)(h1:p<f.blocks.length)(h:q8 (bu f) p j):(q8 f p j∧∀x∈bn f,j=x.head->dK x.blocks p=true)∨∃(i:Nat) (x:aX),j=((f.blocks.length+i:Nat):Int)∧(bn f)[i]?=some x∧q8 f p x.head∧dK x.blocks p=false:=by
 obtain⟨y,hy,e⟩:=h;rw[DL h0 h1]at hy;obtain⟨z,hz,rfl⟩:=List.mem_map.1 hy;rcases gj f.blocks.length (bn f) p z with⟨q,q'⟩|⟨i,x,q1,q2,q3,q4⟩
 ·rw[q]at e;exact .inl ⟨⟨z,hz,e⟩,fun x hx hj=>q' x hx (by rw[e,hj])⟩
 rw[q2]at e;exact .inr ⟨i,x,e.symm,q1,⟨z,hz,q3⟩,q4⟩
theorem qh{i:Nat}{x:aX}{j:Int}(h:(bn f)[i]?=some x)(he:q8 (bu f) ((f.blocks.length+i:Nat):Int) j):j=x.head:=by
 obtain⟨y,hy,e⟩:=he;rw[DK h,List.mem_singleton]at hy;rw[<-e,hy]
theorem zB(hg:gb f)(yk:gX (bu f)){a:Int}{j:Int}(h:tk (bu f) a j):(j<f.blocks.length->tk f a j)∧∀(i:Nat) (x:aX),j=((f.blocks.length+i:Nat):Int)->(bn f)[i]?=some x->∃p,tk f a p∧q8 f p x.head∧dK x.blocks p=false:=by
 have hw:=dk hg;have hl:=List.length_pos_iff.2 hg.ne;induction h with
 | start bI=>exact⟨fun _=>.start bI,fun i x e=>by omega⟩
 | @step p k h e bI ih =>
  have lr:=yk.range p (h.xu yk);rw[eV]at lr;by_cases hp:p<f.blocks.length
  ·have Mc:=ih.1 hp;rcases uc lr.1 hp e with⟨q,_⟩|⟨i,x,q1,q2,q3,q4⟩
   ·have hr:=nO hg lr.1 hp q;exact⟨fun _=>.step Mc q bI,fun i x e=>by omega⟩
   refine⟨fun _=>by omega,fun i' x' e' h'=>?_⟩;have:i'=i:=by omega
   subst this;rw[q2]at h';obtain rfl:=Option.some.inj h';exact⟨p,Mc,q3,q4⟩
  obtain⟨i,hi⟩:∃i:Nat,p=((f.blocks.length+i:Nat):Int):=⟨p.toNat-f.blocks.length,by omega⟩
  obtain⟨x,hx⟩:∃x,(bn f)[i]?=some x:=⟨_,List.getElem?_eq_getElem (by omega)⟩
  rw[hi]at e;have hk:=qh hx e;obtain⟨p',q1,q2,_⟩:=ih.2 i x hi hx;have wU:=hw.range p' (q1.xu hw);have hr:=nO hg wU.1 wU.2 q2;rw[hk]at bI ⊢;exact⟨fun _=>.step q1 q2 bI,fun i x e=>by omega⟩
theorem Cg(hg:gb f)(yk:gX (bu f)){a k:Int}(ha:a<f.blocks.length)(hk:k<f.blocks.length):tk f a k↔tk (bu f) a k:=by
 have hw:=dk hg;constructor
 ·intro h;clear hk;induction h with
  | start bI=>exact .start bI
  | @step p k h e bI ih =>
   have lr:=hw.range p (h.xu hw);rcases yz lr.1 lr.2 e with q|⟨i,x,_,_,_,q1,q2⟩
   ·exact .step ih q bI
   exact .step (.step ih q1 (by omega)) q2 bI
 exact fun h=>(zB hg yk h).1 hk
theorem pB(hg:gb f)(gf:gb (bu f)){k:Int}(hk:k<f.blocks.length):0<=cU f k↔0<=cU (bu f) k:=by
 rw[Fv hg,Fv gf,Cg hg (dk gf) (by omega) hk]
theorem Ca(hg:gb f)(gf:gb (bu f)){a k:Int}(ha:a<f.blocks.length)(HQ:0<=cU f k):iD (dn f) a k↔iD (dn (bu f)) a k:=by
 have hw:=dk hg;have hk:=(hw.range k HQ).2;rw[nI hg HQ,nI gf ((pB hg gf hk).1 HQ),Cg hg (dk gf) ha hk]
end
end Go.Proofs.YtjdnhamngpafmaaGreat
namespace Go.Proofs.YtjdnhamngpafmaaGreat
open Go.Av
section
variable {f:Func}
theorem kg{g:Func}(hg:gb g){k h:Int}:k∈iG g h↔0<=cU g k∧q8 g k h∧iD (dn g) h k:=by
 rw[n6];constructor
 ·rintro⟨h1,h2,h3⟩;exact⟨h1,h2,(je (dk hg) (ko hg).tr ((ko hg).Cd (dk hg) h1)).1 h3⟩
 rintro⟨h1,h2,h3⟩;exact⟨h1,h2,(je (dk hg) (ko hg).tr ((ko hg).Cd (dk hg) h1)).2 h3⟩
theorem xt(g:Func):(sS g).map (fun x=>x.head)=((List.range g.blocks.length).filter fun h:Nat=>decide (iG g (h:Int)≠[])).map fun h:Nat=>(h:Int):=by
 unfold sS;induction List.range g.blocks.length with
 | nil=>rfl
 | cons a l ih =>
  rw[List.flatMap_cons,List.map_append,ih,List.filter_cons];unfold yC;by_cases q:iG g (a:Int)=[]
  ·simp[q]
  simp[q]
theorem se(g:Func):(cS g).map (fun x=>x.head)=(sS g).map (fun x=>x.head):=by
 have h:=congrArg (List.map Prod.fst) (pq g).1;rw[List.map_map,List.map_map]at h;exact h
end
end Go.Proofs.YtjdnhamngpafmaaGreat
namespace Go.Proofs.YtjdnhamngpafmaaGreat
open Go.Av

theorem fA{l:List Int}{n:Int}:dK l n=true↔n∈l:=by
 unfold dK;rw[decide_eq_true_eq,List.findIdx_lt_length];simp
end Go.Proofs.YtjdnhamngpafmaaGreat
namespace Go.Proofs.YtjdnhamngpafmaaGreat
open Go.Av
section
variable {f:Func}
theorem A0{i j:Nat}{x y:aX}(hx:(bn f)[i]?=some x)(hy:(bn f)[j]?=some y)(h:x.head=y.head):i=j:=by
 have hp:(bn f).Pairwise (fun x y=>x.head<y.head):=(nY f).sublist List.filter_sublist;rw[List.pairwise_iff_getElem]at hp;have hi:=I hx;have hj:=I hy;rw[List.getElem?_eq_getElem hi]at hx;rw[List.getElem?_eq_getElem hj]at hy;have e1:=Option.some.inj hx;have e2:=Option.some.inj hy;rcases Nat.lt_trichotomy i j with q|q|q
 ·have:=hp i j hi hj q;rw[e1,e2]at this;omega
 ·exact q
 have:=hp j i hj hi q;rw[e1,e2]at this;omega
theorem JV{p:Int}{i:Nat}{x:aX}(h0:0<=p)(h1:p<f.blocks.length)(hx:(bn f)[i]?=some x)(he:q8 f p x.head)(ho:dK x.blocks p=false):q8 (bu f) p ((f.blocks.length+i:Nat):Int):=by
 obtain⟨y,hy,e⟩:=he;have hm:gQ f.blocks.length (bn f) p y∈fY (bu f) p:=by
  rw[DL h0 h1];exact List.mem_map.2 ⟨y,hy,rfl⟩
 rcases gj f.blocks.length (bn f) p y with⟨_,q⟩|⟨i',x',q1,q2,q3,_⟩
 ·rw[q x (List.mem_of_getElem? hx) e]at ho;cases ho
 rw[q2]at hm;have:=A0 hx q1 (by rw[<-e,q3]);subst this;exact⟨_,hm,rfl⟩
theorem EA(hv:xF f){x:aX}(hx:Od f x):∃p,0<=cU f p∧q8 f p x.head∧dK x.blocks p=false∧¬iD (dn f) x.head p:=by
 have hg:=hv.fn.gr;have hw:=dk hg;have ht:=ko hg;have hh:=hx.hr hg;have hp:=Ay hv hx;have h1:1<=cU f x.head:=by
  rcases Int.lt_or_eq_of_le hh with q|q
  ·omega
  have:=hw.inj x.head 0 hh (by rw[hw.zero,<-q]);omega
 obtain⟨p,q1,q2,q3⟩:=hw.fwd x.head h1;have XU:¬iD (dn f) x.head p:=fun q=>by
  have:=(iD.pl hw ht.tr (ht.Cd hw q2) q).1;omega
 refine⟨p,q2,q1,?_,XU⟩;cases h:dK x.blocks p with
 | false=>rfl
 | true=>exact absurd (hx.Ri hg (fA.1 h)) XU
theorem Ff(hv:xF f)(gf:gb (bu f)){i:Nat}{x:aX}(hx:(bn f)[i]?=some x):0<=cU (bu f) ((f.blocks.length+i:Nat):Int):=by
 have hg:=hv.fn.gr;have hw:=dk hg;obtain⟨p,q1,q2,q3,_⟩:=EA hv (iR hx);have hr:=hw.range p q1;exact(dk gf).next _ _ ((pB hg gf hr.2).1 q1) (JV hr.1 hr.2 hx q2 q3)
theorem Ax(hv:xF f)(gf:gb (bu f)){i:Nat}{x:aX}(hx:(bn f)[i]?=some x):¬iD (dn (bu f)) x.head ((f.blocks.length+i:Nat):Int):=by
 have hg:=hv.fn.gr;have hw:=dk hg;obtain⟨p,q1,q2,q3,q4⟩:=EA hv (iR hx);have hr:=hw.range p q1;have ym:=(iR hx).qZ;rw[nI hg q1,Classical.not_not]at q4;rw[nI gf (Ff hv gf hx),Classical.not_not];exact .step ((Cg hg (dk gf) (by omega) hr.2).1 q4) (JV hr.1 hr.2 hx q2 q3) (by omega)
theorem FI(hg:gb f){x:aX}(hx:Od f x){k:Int}(hk:k∈iG f x.head):dK x.blocks k=true:=fA.2 (hx.mem.2 ((nh hg hx.qZ).src k hk))
theorem Ly{i:Nat}{x:aX}(hg:gb f)(hx:(bn f)[i]?=some x){k:Int}(h:tk f x.head k):tk (bu f) ((f.blocks.length+i:Nat):Int) k:=by
 have hw:=dk hg;have hl:=List.length_pos_iff.2 hg.ne;induction h with
 | start bI=>exact .start (by omega)
 | @step p k h e bI ih =>
  have lr:=hw.range p (h.xu hw);have vN:=nO hg lr.1 lr.2 e;rcases yz lr.1 lr.2 e with q|⟨i',y,q1,q2,_,q3,q4⟩
  ·exact .step ih q (by omega)
  have XI:i≠i':=fun e=>by
   subst e;rw[hx]at q1;obtain rfl:=Option.some.inj q1;exact bI q2.symm
  exact .step (.step ih q3 (by omega)) q4 (by omega)
theorem Nb(hv:xF f)(gf:gb (bu f)){i:Nat}{x:aX}(hx:(bn f)[i]?=some x):iG (bu f) ((f.blocks.length+i:Nat):Int)=[]:=by
 have hg:=hv.fn.gr;have hw:=dk hg;have yk:=dk gf;rw[List.eq_nil_iff_forall_not_mem];intro k hk;obtain⟨h1,h2,h3⟩:=(kg gf).1 hk;have vN:=yk.range k h1;rw[eV]at vN;have Ry:k<f.blocks.length:=by
  refine Classical.byContradiction fun q=>?_;obtain⟨j,hj⟩:∃j:Nat,k=((f.blocks.length+j:Nat):Int):=⟨k.toNat-f.blocks.length,by omega⟩
  obtain⟨y,hy⟩:∃y,(bn f)[j]?=some y:=⟨_,List.getElem?_eq_getElem (by omega)⟩
  rw[hj]at h2;have:=qh hy h2;have:=(iR hy).qZ;omega
 have Sk:=(pB hg gf Ry).2 h1;rcases uc vN.1 Ry h2 with⟨q,_⟩|⟨j,y,q1,q2,q3,q4⟩
 ·have:=nO hg vN.1 Ry q;omega
 have:j=i:=by omega
 subst this;rw[hx]at q2;obtain rfl:=Option.some.inj q2;have Vt:iD (dn f) x.head k:=by
  rw[nI hg Sk];intro h;exact(nI gf h1).1 h3 (Ly hg hx h)
 rw[FI hg (iR hx) ((kg hg).2 ⟨Sk,q3,Vt⟩)]at q4;cases q4
theorem yS(hv:xF f)(gf:gb (bu f)){h k:Int}(h0:0<=h)(hh:h<f.blocks.length):k∈iG (bu f) h↔k∈iG f h:=by
 have hg:=hv.fn.gr;have hw:=dk hg;have yk:=dk gf;constructor
 ·intro hk;obtain⟨h1,h2,h3⟩:=(kg gf).1 hk;have vN:=yk.range k h1;rw[eV]at vN;by_cases Ry:k<f.blocks.length
  ·have Sk:=(pB hg gf Ry).2 h1;rcases uc vN.1 Ry h2 with⟨q,_⟩|⟨j,y,q1,_⟩
   ·exact(kg hg).2 ⟨Sk,q,(Ca hg gf hh Sk).2 h3⟩
   omega
  obtain⟨j,hj⟩:∃j:Nat,k=((f.blocks.length+j:Nat):Int):=⟨k.toNat-f.blocks.length,by omega⟩
  obtain⟨y,hy⟩:∃y,(bn f)[j]?=some y:=⟨_,List.getElem?_eq_getElem (by omega)⟩
  rw[hj]at h2 h3;rw[qh hy h2]at h3;exact absurd h3 (Ax hv gf hy)
 intro hk;obtain⟨h1,h2,h3⟩:=(kg hg).1 hk;have vN:=hw.range k h1;have CY:=(pB hg gf vN.2).1 h1;have Yx:=(Ca hg gf hh h1).1 h3;rcases yz vN.1 vN.2 h2 with q|⟨i,x,q1,q2,q3,_⟩
 ·exact(kg gf).2 ⟨CY,q,Yx⟩
 rw[q2]at hk;rw[FI hg (iR q1) hk]at q3;cases q3
end
end Go.Proofs.YtjdnhamngpafmaaGreat
namespace Go.Proofs.YtjdnhamngpafmaaGreat
open Go.Av
section
variable {f:Func}
theorem Dv{g:Func}(hg:gb g){h p k:Int}(h0:0<=h∧h<g.blocks.length)(hk:k∈iF g h)(bI:k≠h)(he:q8 g p k)(hp:0<=cU g p):p∈iF g h :=
 (nh hg h0).cl k hk bI p (nN ((dk hg).range p hp) ((nh hg h0).qZ k hk) he) hp
theorem Fe(hv:xF f)(gf:gb (bu f)){h:Int}(h0:0<=h∧h<f.blocks.length){k:Int}(hk:k∈iF f h):k∈iF (bu f) h:=by
 have hg:=hv.fn.gr;have hw:=dk hg;have vn:0<=h∧h<((bu f).blocks.length:Int):=by rw[eV];omega
 have hN:=nh hg h0;have Uw:=nh gf vn;by_cases e:k=h
 ·rw[e];exact List.mem_of_getElem? Uw.head
 refine hN.ind (fun k=>0<=cU f k->k∈iF (bu f) h) (fun s hs _=>Uw.src s ((yS hv gf h0.1 h0.2).2 hs)) (fun x hx bI hP p hp hr=>?_) k hk e ((hN.xu k hk).resolve_left e);have ym:=hN.qZ x hx;obtain⟨lr,Lg⟩:=iT hg ym.1 hp;have Xi:=hP ((hN.xu x hx).resolve_left bI);have X4:=(pB hg gf lr.2).1 hr;rcases yz lr.1 lr.2 Lg with q|⟨i,y,q1,q2,_,q3,q4⟩
 ·exact Dv gf vn Xi bI q X4
 have hn:=Dv gf vn Xi bI q4 (Ff hv gf q1);exact Dv gf vn hn (by omega) q3 X4
theorem MI(hv:xF f)(gf:gb (bu f)){i:Nat}{x:aX}(hx:(bn f)[i]?=some x):((f.blocks.length+i:Nat):Int) ∉ iF (bu f) x.head:=fun h=>by
 have ym:=(iR hx).qZ;exact Ax hv gf hx (Fc gf (by rw[eV];omega) h)
theorem MK(hv:xF f)(gf:gb (bu f)){h p:Int}(h0:0<=h∧h<f.blocks.length)(hp:0<=p∧p<f.blocks.length)(he:q8 f p h)(ho:p ∉ iF f h):p ∉ iF (bu f) h:=fun q=>by
 have hg:=hv.fn.gr;have vn:0<=h∧h<((bu f).blocks.length:Int):=by rw[eV];omega
 have Uw:=nh gf vn;by_cases e:p=h
 ·rw[e]at ho;exact ho (List.mem_of_getElem? (nh hg h0).head)
 have wU:=(Uw.xu p q).resolve_left e;have hr:=(pB hg gf hp.2).2 wU;have ha:=(Ca hg gf h0.2 hr).2 (Fc gf vn q);exact ho ((nh hg h0).src p ((kg hg).2 ⟨hr,he,ha⟩))
end
end Go.Proofs.YtjdnhamngpafmaaGreat
namespace Go.Proofs.YtjdnhamngpafmaaGreat
open Go.Av
section
variable {f:Func}
theorem Nc(hv:xF f)(gf:gb (bu f)){h:Int}(h0:0<=h)(hh:h<f.blocks.length):iG (bu f) h=[]↔iG f h=[]:=by
 rw[List.eq_nil_iff_forall_not_mem,List.eq_nil_iff_forall_not_mem];constructor
 ·exact fun q k hk=>q k ((yS hv gf h0 hh).2 hk)
 exact fun q k hk=>q k ((yS hv gf h0 hh).1 hk)
theorem Bc(hv:xF f)(gf:gb (bu f)):(cS (bu f)).map (fun x=>x.head)=(cS f).map (fun x=>x.head):=by
 rw[se,se,xt,xt,eV,List.range_add,List.filter_append];have h1:((List.range (bn f).length).map (f.blocks.length + ·)).filter (fun h:Nat=>decide (iG (bu f) (h:Int)≠[]))=[]:=by
  rw[List.filter_eq_nil_iff];intro h hh;obtain⟨i,hi,rfl⟩:=List.mem_map.1 hh;rw[List.mem_range]at hi;have:=Nb hv gf (List.getElem?_eq_getElem hi);simp only[this,ne_eq,not_true_eq_false,decide_false,Bool.false_eq_true,not_false_eq_true]
 have h2:(List.range f.blocks.length).filter (fun h:Nat=>decide (iG (bu f) (h:Int)≠[]))=(List.range f.blocks.length).filter (fun h:Nat=>decide (iG f (h:Int)≠[])):=by
  refine List.filter_congr fun h hh=>?_;rw[List.mem_range]at hh;have:=Nc (h:=(h:Int)) hv gf (by omega) (by omega);simp only[ne_eq,this]
 rw[h1,h2,List.append_nil]
end
end Go.Proofs.YtjdnhamngpafmaaGreat
namespace Go.Proofs.YtjdnhamngpafmaaGreat
open Go.Av
section
variable {f:Func}
theorem Fu(bt:f.fit)(hm:f.blocks.length+(bn f).length<=128)(hq:cv f+fi f (bn f)<=4096):(bu f).fit:=by
 have UG:0<=cv f:=(ja (ga f) 0).1;refine⟨bt.1,by rw[eV];omega,fun c Mi=>?_⟩;obtain⟨k,hk⟩:=List.mem_iff_getElem?.1 Mi;rcases fU hk with⟨b,h1,h2,h4⟩|⟨i,x,h1,h2,h3⟩
 ·obtain⟨b1,b2,b3,b4,t1,t2,t3,t4,t5,t6,t7⟩:=bt.2.2 _ (List.mem_of_getElem? h2);rw[h4];refine⟨b1,b2,b3,b4,t1,t2,t3,t4,t5,by show(b.term.to.map _).length<=_;rw[List.length_map];exact t6,fun e he=>?_⟩;obtain⟨e0,q1,q2⟩:=List.mem_map.1 (show e∈b.term.to.map (gQ f.blocks.length (bn f) (k:Int)) from he);rcases gj f.blocks.length (bn f) (k:Int) e0 with⟨r1,_⟩|⟨i,x,r1,r2,_⟩
  ·rw[<-q2,r1];exact t7 e0 q1
  have:=I r1;obtain⟨u1,u2,u3⟩:=t7 e0 q1;rw[<-q2,r2];refine⟨?_,u2,u3⟩;unfold kX;simp only;omega
 have hx:=iR h2;obtain⟨b1,b2,b3,b4,t1,t2,t3,t4,t5,t6,t7⟩:=bt.2.2 _ (eW hx.qZ.1 hx.qZ.2);have hlen:(ct (cv f+fi f ((bn f).take i)) (qE f x)).length=(aF f x.head).params.length:=frL_lenP _ _;have hv:uf (ct (cv f+fi f ((bn f).take i)) (qE f x)):=fun v hv=>by
  have TZ:v∈ga (bu f):=List.mem_flatMap.2 ⟨c,Mi,by rw[h3];exact List.mem_append_left _ hv⟩;rw[frL_memP]at hv;rw[uO,List.mem_append,frL_memP]at TZ;rcases TZ with q|q
  ·have:=fresh_gtP q;omega
  unfold kX;omega
 have ym:=hx.qZ;rw[h3];refine⟨hv,Nat.le_trans (Nat.le_of_eq hlen) b2,by simp[qD],fun v hv=>(by cases hv),by simp[qD,kX],by simp[qD,kX],by simp[qD,kX],fun v hv=>(by cases hv),by simp[qD],by simp[qD],fun e he=>?_⟩;have hex:e=⟨x.head,ct (cv f+fi f ((bn f).take i)) (qE f x)⟩:=by simpa[qD]using he
 rw[hex];refine⟨?_,hv,Nat.le_trans (Nat.le_of_eq hlen) b2⟩;unfold kX;simp only;have:=bt.2.1;omega
end
end Go.Proofs.YtjdnhamngpafmaaGreat
namespace Go.Proofs.YtjdnhamngpafmaaGreat
open Go.Av
def Dk:Go.Shelf.Ren:=⟨fun|25=>38|31=>64|32=>65|37=>93|n=>n,fun|0=>0|3=>3|4=>4|22=>41|40=>110|n=>n,fun n=>n⟩
theorem Qt:Go.Proofs.Lays2.n25 Tryz.prog Dk:={
 mixed:=by kernel_rfl,
 f25:=Tryz.func38.trans (congrArg some (by kernel_rfl)),
 f31:=Tryz.func64.trans (congrArg some (by kernel_rfl)),
 f32:=Tryz.func65.trans (congrArg some (by kernel_rfl)),
 f37:=Tryz.func93.trans (congrArg some (by kernel_rfl)),
 t0:=Tryz.underlying0,
 a0:=Tryz.isAgg0,
 z0:=Tryz.sizeOf0,
 v0:=Tryz.zeroValue0,
 t3:=Tryz.underlying3,
 a3:=Tryz.isAgg3,
 z3:=Tryz.sizeOf3,
 v3:=Tryz.zeroValue3,
 t4:=Tryz.underlying4,
 a4:=Tryz.isAgg4,
 z4:=Tryz.sizeOf4,
 v4:=Tryz.zeroValue4,
 t22:=Tryz.underlying41,
 a22:=Tryz.isAgg41,
 z22:=Tryz.sizeOf41,
 v22:=Tryz.zeroValue41,
 t40:=Tryz.underlying110,
 a40:=Tryz.isAgg110,
 z40:=Tryz.sizeOf110,
 v40:=Tryz.zeroValue110 }
theorem iY(l:List Int):ao (l.map aI)=l.map aI:=by
 induction l with
 | nil=>rfl
 | cons a r ih =>
  simp only[List.map_cons,ao,List.flatMap_cons]at ih ⊢;rw[ih];rfl
theorem wh:Go.Av.Enters Tryz.prog 38:=⟨_,Tryz.func38,by kernel_rfl,by kernel_rfl⟩
theorem vv(b off n c:Nat)(zs:List Int)(x:Int)(w:World)(hz:n<=zs.length)(Ar:n<4611686018427387904)(hc:∀j,j<zs.length->w.cell? ⟨b,off+j,none⟩=some (.int .i64 (zs.getD j 0)))(hs:(zs.take n).Pairwise (·<=·)) :
  Calls Tryz.prog 38 #[.slice (some ⟨b,off,none⟩) n c,.int .i64 x] w fun e w'=>e=.returned (.tuple #[.int .i64 ((zs.take n).countP (· < x):Nat),.bool ((zs.take n).contains x)])∧∃q,w'=w.drewN q:=Any.slices_BinarySearch_int Qt b off n c zs x w hz Ar hc hs
theorem xO{l:List Int}(bI:l≠[])(hl:l.length<=1000)(hs:l.Pairwise (fun x y=>x<=y))(x:Int):bh Tryz.prog 38 [aT l,aI x] (.cK [aI (l.countP fun y=>decide (y<x):Nat),.v (.bool (decide (x∈l)))]):=by
 refine⟨wh,fun g vs hg y9 GN=>?_⟩;obtain⟨h1,h2⟩:=GN;simp only[List.length_cons,List.length_nil]at h1;have EU:vs[0]?=some (vs[0]'(by omega)):=Array.getElem?_eq_getElem _;have s8:vs[1]?=some (vs[1]'(by omega)):=Array.getElem?_eq_getElem _;have X2:=h2 0 _ _ rfl EU;have r8:=(h2 1 _ _ rfl s8).bV.1;obtain⟨a,cap,he,dd⟩:∃(a:Addr) (cap:Nat),vs[0]'(by omega)=.slice (some ⟨a.block,a.off,none⟩) l.length cap∧∀(j:Nat) y,l[j]?=some y->g.w.cell? ⟨a.block,a.off+j,none⟩=some (.int .i64 y):=by
  generalize vs[0]'(by omega)=u at X2;rcases X2.fH with q|q
  ·exact absurd (List.map_eq_nil_iff.1 q.2) bI
  obtain⟨a,cap,f,rfl,_,_,_,_,oL,hm,hr,_⟩:=q;have oL:=oL (by simpa using bI);refine⟨a,cap,?_,fun j y hj=>?_⟩
  ·rw[List.length_map];obtain⟨b,o,s⟩:=a;simp only at oL;subst oL;rfl
  have gZ:(ao (l.map aI))[j]?=some (aI y):=by
   rw[iY,List.getElem?_map,hj];rfl
  have m1:=(hm j _ gZ).1;rw[(hr j _ gZ).bV.1]at m1;exact m1
 have GN:vs = #[.slice (some ⟨a.block,a.off,none⟩) l.length cap,.int .i64 x]:=by
  apply Array.ext
  ·simpa using h1
  intro i VO Oz;have:i=0∨i=1:=by omega
  rcases this with e|e
  ·subst e;exact he
  subst e;exact r8
 subst GN;refine(vv a.block a.off l.length cap l x g.w (Nat.le_refl _) (by omega) (fun j hj=>?_) (by rw[List.take_length];exact hs)).mono ?_
 ·rw[dd j _ (List.getElem?_eq_getElem hj)];simp[hj]
 rintro e w' ⟨rfl,q,rfl⟩;rw[List.take_length];refine⟨⟨g.w.drewN q,g.fr,g.env,g.objs⟩,_,_,rfl,rfl,Le.heap (by simp) rfl rfl rfl,hg.heap (by simp) rfl rfl rfl,.cK rfl ?_,rfl,y9⟩;intro i c u hc hu;have hi:i=0∨i=1:=by
  have:=I hc;simp only[List.length_cons,List.length_nil]at this;omega
 rcases hi with e|e
 ·subst e;simp only[List.getElem?_cons_zero,Option.some.injEq]at hc;have nW:u=.int .i64 (l.countP fun y=>decide (y<x):Nat):=by simpa using hu.symm
  subst hc;subst nW;have h5:(l.countP fun y=>decide (y<x))<=l.length:=List.countP_le_length;refine .v ⟨?_,?_⟩
  ·show IntKind.min .i64<=_;rw[show IntKind.min .i64=-9223372036854775808 from rfl];omega
  show _<=IntKind.max .i64;rw[show IntKind.max .i64=9223372036854775807 from rfl];omega
 subst e;simp only[List.getElem?_cons_succ,List.getElem?_cons_zero,Option.some.injEq]at hc;have nW:u=.bool (l.contains x):=by simpa using hu.symm
 subst hc;subst nW;have h6:l.contains x=decide (x∈l):=by simp
 rw[h6];exact .v trivial
theorem bh.os{P:Program}{f:FuncId}{l:List Int}{x b:Value}(h:bh P f [aT l,.v x] (.v b)){O:List al}{id:Nat}(ho:O[id]?=some (.cells (l.map aI))) :
  ba P f O [.os id l.length 1,.v x] (fun r O'=>r=.v b∧O'=O):=by
 refine⟨h.1,fun g vs hg y9 GN=>?_⟩;subst y9;obtain⟨h1,h2⟩:=GN;simp only[List.length_cons,List.length_nil]at h1;have EU:vs[0]?=some (vs[0]'(by omega)):=Array.getElem?_eq_getElem _;have s8:vs[1]?=some (vs[1]'(by omega)):=Array.getElem?_eq_getElem _;obtain⟨lc,o,cap,he,jo,Ts,ee,hb,gu,Ww⟩:=(h2 0 _ _ rfl EU).rG;obtain⟨wW,Wz⟩:=(h2 1 _ _ rfl s8).bV;obtain⟨arr,t,hZ,de,hlen,gn,mG,Da⟩:=hg.row ho he;rw[List.length_map]at hlen;have dd:∀(j:Nat) y,l[j]?=some y->arr[j]?=some (.int .i64 y)∧lV (.int .i64 y):=fun j y hj=>by
  have OA:=I hj;have La:arr[j]?=some (arr[j]'(by omega)):=Array.getElem?_eq_getElem _;obtain⟨e,hf⟩:=(gn j (aI y) _ (by simp[hj]) La).bV;exact⟨by rw[La,e],hf⟩
 obtain⟨g3,Rw⟩:∃g3:G,g3=⟨g.w,fun _ _=>False,[],[]⟩:=⟨_,rfl⟩
 have UM:∀b off,¬xG g3 b off:=fun b off q=>by
  subst Rw;rcases q with q|⟨_,_,_,q,_⟩
  ·exact q
  simp at q
 have c7:Go.Av.Good g3:=by
  subst Rw;exact { frlt:=fun _ _ q=>q.elim,frown:=fun _ _ _ q=>by simp at q,len:=rfl,loc:=fun _ _ _ q=>by simp at q,apart:=fun _ _ _ _ _ _ q=>by simp at q,cells:=fun _ _ q=>by simp at q,spare:=fun _ _ _ q=>by simp at q,map:=fun _ _ _ q=>by simp at q }
 have TK:g3.w.heap[lc.block]?=some (.cells arr t (0,0)):=by rw[Rw];exact de
 have Wn:RV g3 (aT l) (.slice (some ⟨lc.block,0,none⟩) l.length cap):=by
  have yh:l.length=(l.map aI).length:=by simp
  rw[yh];refine .aB (f:=fun j=>.int .i64 (l.getD j 0)) ?_ ?_ (by simpa using ee) (by simpa using gu) (fun _=>rfl) ?_ ?_ trivial
  ·intro y hy;obtain⟨z,_,rfl⟩:=List.mem_map.1 hy;rfl
  ·intro y hy c hc;obtain⟨z,_,rfl⟩:=List.mem_map.1 hy;simp only[ae.cells,List.mem_singleton]at hc;subst hc;trivial
  ·intro j c hj;rw[iY,List.getElem?_map]at hj;obtain⟨y,hy,rfl⟩:=Option.map_eq_some_iff.1 hj;refine⟨?_,UM _ _⟩;show g3.w.cell? _=_;rw[Go.Av.cell_of_row TK,Nat.zero_add,(dd j y hy).1];simp[hy]
  intro j c hj;rw[iY,List.getElem?_map]at hj;obtain⟨y,hy,rfl⟩:=Option.map_eq_some_iff.1 hj;have:l.getD j 0=y:=by simp[hy]
  rw[this];exact .v (dd j y hy).2
 have Wx:lM g3 [aT l,.v x] vs:=by
  refine⟨by simpa using h1,fun j c u hj hu=>?_⟩;have VV:=I hj;simp only[List.length_cons,List.length_nil]at VV;rcases(show j=0∨j=1 by omega)with e|e
  ·subst e;rw[EU]at hu;simp only[List.getElem?_cons_zero,Option.some.injEq]at hj hu;rw[<-hj,<-hu,Ww];exact Wn
  subst e;rw[s8]at hu;simp only[List.getElem?_cons_succ,List.getElem?_cons_zero,Option.some.injEq]at hj hu;rw[<-hj,<-hu,wW];exact .v Wz
 have Z0:g.w=g3.w:=by rw[Rw]
 rw[Z0];refine(h.2 g3 vs c7 (by rw[Rw]) Wx).mono ?_;rintro e w' ⟨g',v,r,k1,k2,k3,k4,k5,k6,k7⟩;have hX:Le g.bare ⟨g'.w,xG g,g'.env,g'.objs⟩:=by
  subst Rw;exact {
   os:=k3.os
   tape:=k3.tape
   output:=k3.output
   fr:=rfl
   size:=k3.size
   block:=fun k hk hh=>⟨(k3.block k hk (fun q=>hh q)).1,(k3.block k hk (fun q=>hh q)).2⟩
   cell:=fun b off y hy hh=>⟨(k3.cell b off y hy (fun q=>hh q)).1,(k3.cell b off y hy (fun q=>hh q)).2⟩
   len:=k3.len
   spare:=fun id m hm=>by simp[G.bare]at hm
   plain:=fun id o hm=>by simp[G.bare]at hm
   gone:=fun id hm=>by simp[G.bare]at hm
   tok:=fun id m hm=>by simp[G.bare]at hm }
 refine⟨g.back ⟨g'.w,xG g,g'.env,g'.objs⟩,v,.v b,k1,k2,Le.back hg hX,Go.Av.Good.back hg hX,?_,rfl,rfl⟩;rw[k6]at k5;obtain⟨e1,e2⟩:=k5.bV;rw[e1];exact .v e2
end Go.Proofs.YtjdnhamngpafmaaGreat
namespace Go.Proofs.YtjdnhamngpafmaaGreat
open Go.Av Go.Sort
def AP:Go.Shelf.Ren:=⟨fun|125=>68|128=>102|129=>103|189=>40|215=>93|216=>64|257=>67|294=>94|295=>95|296=>96|297=>97|298=>98|299=>99|300=>100|301=>101|328=>122|329=>123|330=>124|331=>125|332=>126|343=>147|n=>n,fun|0=>0|3=>3|4=>4|5=>5|9=>9|28=>41|46=>110|51=>158|53=>140|131=>88|182=>152|183=>153|218=>191|222=>195|228=>211|229=>212|n=>n,fun n=>n⟩
theorem E7:Go.Proofs.Lays.n189 Tryz.prog AP:={
 mixed:=by kernel_rfl,
 f125:=Tryz.func68.trans (congrArg some (by kernel_rfl)),
 f128:=Tryz.func102.trans (congrArg some (by kernel_rfl)),
 f129:=Tryz.func103.trans (congrArg some (by kernel_rfl)),
 f189:=Tryz.func40.trans (congrArg some (by kernel_rfl)),
 f215:=Tryz.func93.trans (congrArg some (by kernel_rfl)),
 f216:=Tryz.func64.trans (congrArg some (by kernel_rfl)),
 f257:=Tryz.func67.trans (congrArg some (by kernel_rfl)),
 f294:=Tryz.func94.trans (congrArg some (by kernel_rfl)),
 f295:=Tryz.func95.trans (congrArg some (by kernel_rfl)),
 f296:=Tryz.func96.trans (congrArg some (by kernel_rfl)),
 f297:=Tryz.func97.trans (congrArg some (by kernel_rfl)),
 f298:=Tryz.func98.trans (congrArg some (by kernel_rfl)),
 f299:=Tryz.func99.trans (congrArg some (by kernel_rfl)),
 f300:=Tryz.func100.trans (congrArg some (by kernel_rfl)),
 f301:=Tryz.func101.trans (congrArg some (by kernel_rfl)),
 f328:=Tryz.func122.trans (congrArg some (by kernel_rfl)),
 f329:=Tryz.func123.trans (congrArg some (by kernel_rfl)),
 f330:=Tryz.func124.trans (congrArg some (by kernel_rfl)),
 f331:=Tryz.func125.trans (congrArg some (by kernel_rfl)),
 f332:=Tryz.func126.trans (congrArg some (by kernel_rfl)),
 f343:=Tryz.func147.trans (congrArg some (by kernel_rfl)),
 t0:=Tryz.underlying0,
 a0:=Tryz.isAgg0,
 z0:=Tryz.sizeOf0,
 v0:=Tryz.zeroValue0,
 t3:=Tryz.underlying3,
 a3:=Tryz.isAgg3,
 z3:=Tryz.sizeOf3,
 v3:=Tryz.zeroValue3,
 t4:=Tryz.underlying4,
 a4:=Tryz.isAgg4,
 z4:=Tryz.sizeOf4,
 v4:=Tryz.zeroValue4,
 t5:=Tryz.underlying5,
 a5:=Tryz.isAgg5,
 z5:=Tryz.sizeOf5,
 v5:=Tryz.zeroValue5,
 t9:=Tryz.underlying9,
 a9:=Tryz.isAgg9,
 z9:=Tryz.sizeOf9,
 v9:=Tryz.zeroValue9,
 t28:=Tryz.underlying41,
 a28:=Tryz.isAgg41,
 z28:=Tryz.sizeOf41,
 v28:=Tryz.zeroValue41,
 t46:=Tryz.underlying110,
 a46:=Tryz.isAgg110,
 z46:=Tryz.sizeOf110,
 v46:=Tryz.zeroValue110,
 t51:=Tryz.underlying158,
 a51:=Tryz.isAgg158,
 z51:=Tryz.sizeOf158,
 v51:=Tryz.zeroValue158,
 t53:=Tryz.underlying140,
 a53:=Tryz.isAgg140,
 z53:=Tryz.sizeOf140,
 v53:=Tryz.zeroValue140,
 t131:=Tryz.underlying88,
 a131:=Tryz.isAgg88,
 z131:=Tryz.sizeOf88,
 v131:=Tryz.zeroValue88,
 t182:=Tryz.underlying152,
 a182:=Tryz.isAgg152,
 z182:=Tryz.sizeOf152,
 v182:=Tryz.zeroValue152,
 t183:=Tryz.underlying153,
 a183:=Tryz.isAgg153,
 z183:=Tryz.sizeOf153,
 v183:=Tryz.zeroValue153,
 t218:=Tryz.underlying191,
 a218:=Tryz.isAgg191,
 z218:=Tryz.sizeOf191,
 v218:=Tryz.zeroValue191,
 t222:=Tryz.underlying195,
 a222:=Tryz.isAgg195,
 z222:=Tryz.sizeOf195,
 v222:=Tryz.zeroValue195,
 t228:=Tryz.underlying211,
 a228:=Tryz.isAgg211,
 z228:=Tryz.sizeOf211,
 v228:=Tryz.zeroValue211,
 t229:=Tryz.underlying212,
 a229:=Tryz.isAgg212,
 z229:=Tryz.sizeOf212,
 v229:=Tryz.zeroValue212 }
theorem D5:wv Tryz.prog 40:=fun blk off cap zs w h1 h2 h3=>Any.slices_Sort_int E7 blk off cap zs w h1 h2 h3
theorem sr:Go.Av.Enters Tryz.prog 40:=⟨_,Tryz.func40,by kernel_rfl,by kernel_rfl⟩
theorem xz{O:List al}{id:Nat}{zs:List Int}(ho:O[id]?=some (.cells (zs.map aI)))(hl:zs.length<=1000) :
  ba Tryz.prog 40 O [.os id zs.length 1] (fun r O'=>r=.cK []∧O'=O.set id (.cells ((gW zs).map aI))):=By sr D5 ho hl
theorem u'(p:Option Addr)(cap:Nat)(w:World):Calls Tryz.prog 40 #[.slice p 0 cap] w fun e w'=>e=.returned (.tuple #[])∧w'=w:=Any.slices_Sort_int_none E7 p cap w
theorem Kd(O:List al):ba Tryz.prog 40 O [.aB 1 [] .sh] (fun r O'=>r=.cK []∧O'=O):=by
 refine⟨sr,fun g vs hg y9 GN=>?_⟩;obtain⟨h1,h2⟩:=GN;simp only[List.length_singleton]at h1;have EU:vs[0]?=some (vs[0]'(by omega)):=Array.getElem?_eq_getElem _;have hr:=h2 0 _ _ rfl EU;have hv:∃p cap,vs = #[.slice p 0 cap]:=by
  have:∃p cap,vs[0]'(by omega)=.slice p 0 cap:=by
   generalize vs[0]'(by omega)=u at hr;cases hr with
   | nil=>exact⟨_,_,rfl⟩
   | aB=>exact⟨_,_,rfl⟩
  obtain⟨p,cap,e⟩:=this;refine⟨p,cap,?_⟩;apply Array.ext
  ·simpa using h1
  intro i VO Oz;have:i=0:=by omega
  subst this;exact e
 obtain⟨p,cap,rfl⟩:=hv;refine(u' p cap g.w).mono ?_;rintro e w' ⟨rfl,rfl⟩;exact⟨g,_,.cK [],rfl,rfl,Le.refl g,hg,.cK rfl (by simp),rfl,y9⟩
end Go.Proofs.YtjdnhamngpafmaaGreat
namespace Go.Proofs.YtjdnhamngpafmaaGreat
open Go.Av


end Go.Proofs.YtjdnhamngpafmaaGreat
namespace Go.Av

end Go.Av
namespace Go.Proofs.YtjdnhamngpafmaaGreat
open Go.Av
def sV{X:Type}(step:X->Nat->List Bool->X)(l:List Ins):Nat->X->List Bool->X
 | 0,x,s=>step x 0 s
 | n+1,x,s=>match l[n]? with
  | none=>x
  | some i=>sV step l n (step x (n+1) s) (Ep i s)



theorem mb(to op n:Int)(l:List Int):bh Tryz.prog 56 [aI to,aI op,aI n,aT l] (.agg [aI to,aI op,aI n,aT l]):=by
 refine zf true 0 Tryz.func56 Tryz.ntmps56 ?_;dsimp only[Tmp,TypeId,slotsOf];refine ay (ah ?_);refine ay (ah ?_);refine aq ?_;simp -dsimp only[simprocAttr,↓aa,zp,zr,Tryz.results56];simp[au,ae.upto,av]
theorem si(k:Int)(l:List Int):bh Tryz.prog 57 [aI k,aT l] (.agg [aI 1,aI 0,aI 0,aT [],.aB 2 [.agg [aI k,aT l]] .sh]):=by
 refine zf true 0 Tryz.func57 Tryz.ntmps57 ?_;dsimp only[Tmp,TypeId,slotsOf];refine ay (ah ?_);refine ay (ah ?_);refine aq ?_;simp -dsimp only[simprocAttr,↓aa,zp,zr,Tryz.results57];simp[au,ae.upto,av]
theorem rD(to op n:Int):bh Tryz.prog 56 [aI to,aI op,aI n,.v (.slice none 0 0)] (.agg [aI to,aI op,aI n,aT []]):=by
 have h:=mb to op n [];exact⟨h.1,fun g vs hg ho ha=>h.2 g vs hg ho ⟨ha.1,fun i c u hc hu=>by
  match i,hc,hu with
  | 0,hc,hu=>exact ha.2 0 c u hc hu
  | 1,hc,hu=>exact ha.2 1 c u hc hu
  | 2,hc,hu=>exact ha.2 2 c u hc hu
  | 3,hc,hu =>
   simp only[List.getElem?_cons_succ,List.getElem?_cons_zero,Option.some.injEq]at hc;subst hc;have:=(ha.2 3 _ u rfl hu).bV.1;subst this;exact .nil (fun id e=>by cases e) (by simp)
  | i+4,hc,_=>simp at hc⟩⟩
def rm:cf:=⟨[⟨-1,[
 ⟨[],[⟨0,0,0,[]⟩],⟨1,0,0,[],[⟨1,[0]⟩]⟩⟩,
 ⟨[1],[⟨2,0,3,[]⟩,⟨3,6,0,[1,2]⟩],⟨2,3,0,[],[⟨2,[]⟩,⟨3,[]⟩]⟩⟩,
 ⟨[],[⟨4,15,0,[1]⟩,⟨5,0,1,[]⟩,⟨6,1,0,[1,5]⟩],⟨1,0,0,[],[⟨1,[6]⟩]⟩⟩,
 ⟨[],[],⟨0,1,0,[],[]⟩⟩]⟩],0⟩
theorem F9:runM rm 27=⟨[0,1,2],0,3,27,0⟩:=by kernel_rfl
theorem CF:bh Tryz.prog 29 [] rm.enc:=by
 refine zf true 0 Tryz.func29 Tryz.ntmps29 ?_;dsimp only[Tmp,TypeId,slotsOf];refine ay (ah ?_);refine ay (ah ?_);refine ay (ah ?_);refine ay ?_;refine zi ((rD 0 0 0)) ?_;refine zi ((si 1 [0])) ?_;refine zi ((rD 2 0 3)) ?_;refine zi ((mb 3 6 0 [1,2])) ?_;refine zi ((mb 4 15 0 [1])) ?_;refine zi ((rD 5 0 1)) ?_;refine zi ((mb 6 1 0 [1,5])) ?_;refine zi ((si 1 [6])) ?_;refine ah ?_;refine aq ?_;simp -dsimp only[simprocAttr,↓aa,zp,zr,Tryz.results29];exact⟨by simp[au,ae.upto,av],rfl⟩
theorem CE:rm.fit:=by
 simp[rm,cf.fit,Func.fit,Block.fit,Ins.fit,Term.fit,Edge.fit,kX,uf]
theorem Ei:bh Tryz.prog 8 [] (.v (.bool true)):=by
 have bw:=qO rm CE 27;rw[F9]at bw;have qw:=mC [0,1,2] [0,1,2] 0 0 3 3;have VA:=CF;unfold Lp.enc at bw;unfold Gb at qw;simp only[List.map_cons,List.map_nil,decide_true,Bool.and_self]at bw qw;generalize rm=u at *;refine zf true 0 Tryz.func8 Tryz.ntmps8 ?_;dsimp only[Tmp,TypeId,slotsOf];refine ay (ah ?_);refine ay ?_;refine zi VA ?_;refine zi bw ?_;refine ah ?_;refine ay ?_;refine zi qw ?_;refine ah ?_;refine aq ?_;simp -dsimp only[simprocAttr,↓aa,zp,zr,Tryz.results8]

theorem rV{X:Type}{step:X->Nat->List Bool->X}{l:List Ins}{J:Nat->X->List Bool->Prop}(hs:∀n x s i,l[n]?=some i->J (n+1) x s->J n (step x (n+1) s) (Ep i s)):∀n x s,n<=l.length->J n x s->∃x' s',J 0 x' s'∧sV step l n x s=step x' 0 s'
 | 0,x,s,_,h=>⟨x,s,h,rfl⟩
 | n+1,x,s,hn,h=>by
  obtain⟨i,hi⟩:∃i,l[n]?=some i:=⟨l[n],List.getElem?_eq_getElem _⟩
  obtain⟨x',s',h1,h2⟩:=rV hs n _ _ (by omega) (hs n x s i hi h);refine⟨x',s',h1,?_⟩;simp only[sV,hi];exact h2
def setAt(f:Func)(S:List (List Bool))(k n:Nat):List Bool:=Of ((aF f k).ins.drop n) (S[k]?.getD [])
theorem DY{f:Func}{S:List (List Bool)}{k n:Nat}{i:Ins}(h:(aF f k).ins[n]?=some i):setAt f S k n=Ep i (setAt f S k (n+1)):=by
 unfold setAt;rw[bQ h];rfl
def KS(v w:Nat)(s:List Bool):Bool:=s[v]?.getD false&&s[w]?.getD false
def yo(v w:Nat)(x:Bool)(_:Nat)(s:List Bool):Bool:=x ||KS v w s
theorem inBlock{f:Func}{S:List (List Bool)}{k v w:Nat}{s0:List Bool}(Lh:S[k]?=some s0)(x0:Bool) :
  sV (yo v w) (aF f k).ins (aF f k).ins.length x0 s0=true↔x0=true∨∃n,n<=(aF f k).ins.length∧KS v w (setAt f S k n)=true:=by
 obtain⟨x',s',⟨j1,j2,j3⟩,he⟩:=rV (step:=yo v w) (l:=(aF f k).ins) (J:=fun n x s=>s=setAt f S k n∧n<=(aF f k).ins.length∧(x=true↔x0=true∨∃m,n<m∧m<=(aF f k).ins.length∧KS v w (setAt f S k m)=true)) (fun n x s i hi ⟨j1,j2,j3⟩=>by
   subst j1;refine⟨(DY hi).symm,by omega,?_⟩;rw[yo,Bool.or_eq_true,j3];constructor
   ·rintro((q|⟨m,q1,q2,q3⟩)|q)
    ·exact .inl q
    ·exact .inr ⟨m,by omega,q2,q3⟩
    exact .inr ⟨n+1,by omega,j2,q⟩
   rintro(q|⟨m,q1,q2,q3⟩)
   ·exact .inl (.inl q)
   by_cases e:m=n+1
   ·subst e;exact .inr q3
   exact .inl (.inr ⟨m,by omega,q2,q3⟩))
  (aF f k).ins.length x0 s0 (Nat.le_refl _) ⟨by simp[setAt,Lh,Of],Nat.le_refl _,⟨fun q=>.inl q,fun q=>by
   rcases q with q|⟨m,q1,q2,_⟩
   ·exact q
   omega⟩⟩
 subst j1;rw[he,yo,Bool.or_eq_true,j3];constructor
 ·rintro((q|⟨m,q1,q2,q3⟩)|q)
  ·exact .inl q
  ·exact .inr ⟨m,q2,q3⟩
  exact .inr ⟨0,by omega,q⟩
 rintro(q|⟨m,q2,q3⟩)
 ·exact .inl (.inl q)
 by_cases e:m=0
 ·subst e;exact .inr q3
 exact .inl (.inr ⟨m,by omega,q2,q3⟩)



theorem G9(f:Func)(bt:f.fit)(hc:aN f=0):∃(O:List al) (oid:Nat),O[oid]?=some (.cells ((bz f).map aI))∧(∀o∈O,o.upto O.length) ∧
  ba Tryz.prog 52 [] [f.enc] (fun r O'=>r=.cK [.os oid (bz f).length 1,aI 0]∧O'=O):=by
 have sL:=il f bt;rw[hc]at sL;have hg:=(cq bt hc).gr;have qw:=sn f hg;obtain⟨f1,f2,_⟩:=nt hg;have Su:(km f 100000 (gL f)).S=iB f 100000 (cH f):=yP f 100000 (gL f);have hX:=u9 (f:=f) 100000 _ (ml f);obtain⟨X,Vr⟩:∃X,X=km f 100000 (gL f):=⟨_,rfl⟩
 rw[<-Vr]at qw hX Su;have jr:X.S.out=gK f:=by rw[Su];rfl
 unfold bz;obtain⟨l,hl⟩:∃l,l=gK f:=⟨_,rfl⟩
 rw[<-hl]at f1 f2 jr ⊢;have h1:=hX.out;rw[jr,pv,if_neg f1]at h1;obtain⟨h2,h3,h4⟩:=hX.outs (by rw[jr];exact f1);rw[jr]at h2;have br:=hX.up;obtain⟨S,sid,oid,O⟩:=X;simp only at h1 h2 h3 h4 br qw;have ES:=I h2;have Qf:=qL br h2 (by omega);have CY:(O.set oid (.cells (l.reverse.map aI)))[1]?=some (.cells [.os oid l.length 1]):=bm h1 (by omega);have K6:(O.set oid (.cells (l.reverse.map aI)))[oid]?=some (.cells (l.reverse.map aI)):=lP h2;have eS:∀o∈O.set oid (.cells (l.reverse.map aI)),o.upto O.length:=bR br (av _ _);have yh:(O.set oid (.cells (l.reverse.map aI))).length=O.length:=by simp
 have jH:(O.set oid (.cells (l.reverse.map aI))).take O.length=O.set oid (.cells (l.reverse.map aI)):=bX;refine⟨O.set oid (.cells (l.reverse.map aI)),oid,K6,by rw[yh];exact eS,?_⟩;rw[List.length_reverse];generalize O.set oid (.cells (l.reverse.map aI))=O2 at *;have gU:([]:List al).length<=O.length:=Nat.zero_le _;refine eY hT true (O.length) Tryz.func52 rfl (by kernel_rfl) (by simp[Tryz.ntmps52]) (by assumption) ?_;show cu Tryz.prog _ _ _ ⟨17,_,_⟩;dsimp only[Tmp,TypeId,slotsOf];refine ay (ah ?_);refine aA 1 0 (.ip none [aI f.name,aw f.blocks]) rfl (by simp[al.aC]) trivial rfl ?_ ?_;rotate_left;simp -dsimp only[simprocAttr,↓aa,zp]
 ·refine cb ?_;refine zi sL ?_;refine ah ?_;refine ay (ah ?_);refine cd rfl ?_;refine cm ?_;refine ay (ah ?_);refine ay ?_;refine .inr (.inl ⟨_,_,qw,.inl (an (zj ?_))⟩);refine ah ?_;refine aS ?_;simp -dsimp only[simprocAttr,↓aa,zp,h1];refine .inr (.inl ⟨_,_,Qf,.inl (an (zj ?_))⟩);refine ah ?_;refine aS ?_;simp -dsimp only[simprocAttr,↓aa,zp,CY];refine ah ?_;refine aq ?_;simp -dsimp only[simprocAttr,↓aa,zp,zr,Tryz.results52,jH,yh];exact⟨eS,⟨ES,trivial,trivial⟩,rfl⟩
 exact bT.mp rfl rfl
def MS(f:Func):ae:=if aN f=0 then .cK [aT (qH f),aI 0]else .cK [aT [],aI (aN f)]
theorem nq(f:Func)(bt:f.fit):bh Tryz.prog 23 [f.enc] (MS f):=by
 unfold MS;by_cases hc:aN f=0
 ·rw[if_pos hc];obtain⟨O,oid,h1,h2,Lf⟩:=G9 f bt hc;have C7:=(dk (cq bt hc).gr).few;have Li:=xz (O:=O) (id:=oid) (zs:=bz f) h1 (by omega);have h3:(O.set oid (.cells ((gW (bz f)).map aI)))[oid]?=some (.cells ((gW (bz f)).map aI)):=lP h1;have pN:=(kn (bz f)).length_eq;unfold qH;generalize O.set oid (.cells ((gW (bz f)).map aI))=O2 at *;obtain⟨l,hl⟩:∃l,l=gW (bz f):=⟨_,rfl⟩
  rw[<-hl]at h3 pN ⊢;rw[<-pN]at Li Lf;refine zf true 0 Tryz.func23 Tryz.ntmps23 ?_;dsimp only[Tmp,TypeId,slotsOf];refine ay (ah ?_);refine aA 1 0 (.ip none [aI f.name,aw f.blocks]) rfl (by simp[al.aC]) trivial rfl ?_ ?_;rotate_left;simp -dsimp only[simprocAttr,↓aa,zp]
  ·refine bF 0 [(1,.ip none [aI f.name,aw f.blocks])] (by omega) (by omega) [] ?_ ?_ ?_ ?_ ?_
   ·rfl
   ·simp[al.upto]
   ·simp[fL,St.get,bq,aY,Go.Av.look,Sub.refl]
   ·simp[al.upto,au,ae.upto,av,Func.ag,Block.ag,Edge.ag,Ins.ag]
   refine ay ?_;refine .inr (.inl ⟨_,_,Lf,.inl (an (zj ?_))⟩);refine ah ?_;refine ay ?_;refine .inr (.inl ⟨_,_,Li,.inl (an (zj ?_))⟩);refine ah ?_;refine ay (ah ?_);refine aA 2 oid (o:=.cells (l.map aI)) (aT l) h3 (by simp[al.aC]) trivial rfl (bT.os (cs:=l.map aI) h3 ?_ ?_ ?_) ?_
   ·intro x hx;obtain⟨c,_,rfl⟩:=List.mem_map.1 hx;rfl
   ·simp
   ·rw[List.drop_zero,List.take_of_length_le (by simp)];exact kC _
   simp -dsimp only[simprocAttr,↓aa,zp];refine aq ?_;simp -dsimp only[simprocAttr,↓aa,zp,zr,Tryz.results23];exact⟨⟨av _ _,trivial⟩,trivial,trivial⟩
  exact bT.mp rfl rfl
 rw[if_neg hc];have Lf:=uH f bt;unfold yw at Lf;rw[if_neg hc]at Lf;generalize aN f=e at *;refine zf true 0 Tryz.func23 Tryz.ntmps23 ?_;dsimp only[Tmp,TypeId,slotsOf];refine ay (ah ?_);refine aA 1 0 (.ip none [aI f.name,aw f.blocks]) rfl (by simp[al.aC]) trivial rfl ?_ ?_;rotate_left;simp -dsimp only[simprocAttr,↓aa,zp]
 ·refine ay ?_;refine zi Lf ?_;refine ah ?_;refine ay ?_;refine .inr (.inl ⟨_,_,(Kd _),.inl (an (zj ?_))⟩);refine ah ?_;refine ay (ah ?_);refine aq ?_;simp -dsimp only[simprocAttr,↓aa,zp,zr,Tryz.results23];simp[au,ae.upto]
 exact bT.mp rfl rfl
theorem tm{l:List Int}{k:Nat}{x:Int}(h:l[k]?=some x):(l.map aI)[k]?=some (aI x):=by
 rw[List.getElem?_map,h];rfl
theorem G0{O:List al}(br:∀o∈O,o.upto O.length){A B N:Nat}{f:Func}(hw:gX f){ov:List Int}(hA:O[A]?=some (.cells (ov.map aI)))(hB:O[B]?=some (.cells ((fT f).map aI)))(hN:N=f.blocks.length)(ht:Tr f ov){a b:Int}(ha:jW ov a)(hb:jW ov b) :
  ba Tryz.prog 121 O [.agg [.ms A 0 N N,.ms B 0 N N],aI a,aI b] (fun r O'=>r=aI (iw (fT f) ov 300 a b)∧O'=O):=by
 have C1:=I hA;have Rm:=I hB;obtain⟨R,hR⟩:∃R,R=iw (fT f) ov 300 a b:=⟨_,rfl⟩
 rw[<-hR];have C7:=hw.few;have dz:cU f a+cU f b<(300:Nat):=by
  have:=(hw.low a).2;have:=(hw.low b).2;omega
 refine zf true O.length Tryz.func121 Tryz.ntmps121 ?_;dsimp only[Tmp,TypeId,slotsOf];refine ay (ah ?_);refine aJ 3 ([.ms A 0 N N,.ms B 0 N N]) [(1,aI a),(2,aI b),(3,.ip none [.ms A 0 N N,.ms B 0 N N])] (by simp[bq,aY,Go.Av.look]) (by rfl) (by omega) (by simp[bq,aY,Go.Av.look]) ?_ ?_ ?_
 ·exact br
 ·simp[ae.upto,au,C1,Rm]
 refine aH (ai (aO (ι:={x:Nat×Int×Int // R=iw (fT f) ov x.1 x.2.1 x.2.2∧jW ov x.2.1∧jW ov x.2.2∧cU f x.2.1+cU f x.2.2<x.1}) (fun x=>⟨32,[(1,aI x.1.2.1),(2,aI x.1.2.2),(3,.ip none [.ms A 0 N N,.ms B 0 N N])],O⟩) (fun x=>x.1.1) ⟨(300,a,b),hR,ha,hb,dz⟩ ?_ ?_))
 ·refine zq rfl ?_ ?_;simp -dsimp only[simprocAttr,↓aa,zp,zc];rfl
 rintro⟨⟨n,a,b⟩,oz,ha,hb,aZ⟩;simp only at oz ha hb aZ;have pa:=ht.y5 hw ha;have pb:=ht.y5 hw hb;have ra:=hw.range a pa;have rb:=hw.range b pb;obtain⟨n,rfl⟩:∃n',n=n'+1:=⟨n-1,by omega⟩
 have ea:=py ra.1 ra.2;have eb:=py rb.1 rb.2;have pM:dH (fT f) a=cU f a:=by unfold dH;rw[ea];rfl
 have ZK:dH (fT f) b=cU f b:=by unfold dH;rw[eb];rfl
 have K':=tm ea;have VH:=tm eb;by_cases yd:a=b
 ·have hd:decide (a=b)=true:=decide_eq_true yd;refine cJ ?_;simp -dsimp only[simprocAttr,↓aa,zp,hd];refine ah ?_;refine cd rfl ?_;refine aG ?_;simp -dsimp only[bD,ne_eq,Nat.reduceEqDiff,reduceCtorEq];subst yd;have:R=a:=by rw[oz];simp[iw]
  rw[this];refine ay (ah ?_);refine aq ?_;simp -dsimp only[simprocAttr,↓aa,zp,zr,Tryz.results121];exact br
 have hd:decide (a=b)=false:=decide_eq_false yd;simp only[iw,if_neg yd,pM,ZK]at oz;refine cJ ?_;simp -dsimp only[simprocAttr,↓aa,zp,hd];refine ah ?_;apply aM rfl<;>intro h
 ·refine cm ?_;refine ai ?_;refine aS ?_;simp -dsimp only[simprocAttr,↓aa,zp,hB,K',VH,Nat.mul_one]
  repeat(refine⟨by omega,?_⟩)
  refine⟨bN [B] O.length [.pure,.pure,.pure,.pure,.rd 0,.pure,.pure,.pure,.pure,.rd 0,.pure] (by simp) (by simp;omega) rfl rfl (by kernel_rfl),?_⟩;refine ah ?_;by_cases RA:cU f b<cU f a
  ·rw[if_pos RA]at oz;have hu:0<=dH ov a:=by
    rcases ha with q|q
    ·rw[q,hw.zero]at RA;omega
    exact q
   obtain⟨u1,u2,u3⟩:=ht.up a hu;obtain⟨x,hx⟩:∃x,ov[a.toNat]?=some x:=⟨ov[a.toNat]'(by rw[ht.len];omega),List.getElem?_eq_getElem _⟩
   have wW:dH ov a=x:=by simp[dH,hx]
   rw[wW]at oz u1 u2 u3;have Qp:=tm hx;apply aM rfl<;>intro h
   ·refine j4 ?_;simp -dsimp only[simprocAttr,↓aa,zp,hA,Qp,Nat.mul_one]
    repeat(refine⟨by omega,?_⟩)
    refine RS ?_;refine⟨⟨(n,x,b),oz,u3,hb,by simp only;omega⟩,by simp,?_⟩;refine zq rfl ?_ ?_;simp -dsimp only[simprocAttr,↓aa,zp,zc];rfl
   exact absurd RA (of_decide_eq_false h)
  rw[if_neg RA]at oz;have hu:0<=dH ov b:=by
   rcases hb with q|q
   ·rw[q,hw.zero]at RA;have:a=0:=hw.inj a 0 pa (by rw[hw.zero];omega);exact absurd (this.trans q.symm) yd
   exact q
  obtain⟨u1,u2,u3⟩:=ht.up b hu;obtain⟨x,hx⟩:∃x,ov[b.toNat]?=some x:=⟨ov[b.toNat]'(by rw[ht.len];omega),List.getElem?_eq_getElem _⟩
  have wW:dH ov b=x:=by simp[dH,hx]
  rw[wW]at oz u1 u2 u3;have Qp:=tm hx;apply aM rfl<;>intro h
  ·exact absurd (of_decide_eq_true h) RA
  refine j4 ?_;simp -dsimp only[simprocAttr,↓aa,zp,hA,Qp,Nat.mul_one]
  repeat(refine⟨by omega,?_⟩)
  refine RS ?_;refine⟨⟨(n,a,x),oz,ha,u3,by simp only;omega⟩,by simp,?_⟩;refine zq rfl ?_ ?_;simp -dsimp only[simprocAttr,↓aa,zp,zc];rfl
 cases h
end Go.Proofs.YtjdnhamngpafmaaGreat
namespace Go.Av
theorem BE{g:G}(hg:Good g){id m:Nat}(h:g.objs[id]?=some (.spare m))(arr:Array Value)(t:TypeId)(cs:List ae)(hlen:cs.length<=arr.size)
  (uw:∀(g':G) (j:Nat) (c:ae) (u:Value),cs[j]?=some c->arr[j]?=some u->RV g' c u) (ia:∀c∈cs,c.scalar) :
  Le g (g.bp id (some ⟨g.w.heap.size,0,arr.size⟩) (.cells cs) (g.w.alloc (.cells arr t)))∧Good (g.bp id (some ⟨g.w.heap.size,0,arr.size⟩) (.cells cs) (g.w.alloc (.cells arr t))):=by
 have eC:kB g id (.spare m) (some ⟨g.w.heap.size,0,arr.size⟩) (.cells cs) (g.w.alloc (.cells arr t)):={
  obj:=h
  os:=rfl
  tape:=rfl
  output:=rfl
  size:=by show g.w.heap.size<=(g.w.heap.push _).size;rw[Array.size_push];omega
  block:=fun k hk _=>cB g.w _ hk
  cell:=fun b off x hx _=>by
   have:=nK hx;rw[iL (cB g.w (.cells arr t) this)];exact hx
  place:=fun l1 h1 _=>by
   simp only[Option.some.injEq]at h1;subst h1;exact .inl (Nat.le_refl _)
  spare:=fun _ _=>.inr (by simp[al.aC])
  plain:=fun h=>absurd trivial h
  gone:=by simp }
 exact⟨Le.bp hg eC,Good.bp hg eC ⟨_,arr,t,rfl,rfl,cz g.w _,hlen,fun j c u hj hu=>uw _ j c u hj hu,ia,Nat.le_refl _⟩ (fun l1 h1 _=>by
  simp only[Option.some.injEq]at h1;subst h1;exact aW (cz g.w (.cells arr t)))⟩
theorem vx{P:Program}{aR:ed}(hT:bY P aR){o:Oper}{σ:St}{t:TypeId}{ti:cc}{id m:Nat}(ho:o.op=.alloc t)(hd:∀d,o.dst=some d->d<σ.n)(ht:aR t=some ti)(l5:σ.objs[id]?=some (.spare m)) :
  Cert P o σ (.mp id 0) (.new id (.cells ti.zero)) :=
 Cert.tg trivial hd fun base fF a g bE h iC=>by
  have hg:=bE.good;obtain⟨z,hz,h5,_,_,h8,h9⟩:=(hT t ti ht).zeroValue;have gq:g.objs[id]?=some (.spare m):=Eq.trans iC l5;obtain⟨hle,c7⟩:=BE hg gq z.cells t ti.zero (by rw[h5];exact Nat.le_refl _) (fun g' j c u a b=>h8 g' j c u a b) h9;refine⟨.pointer (some ⟨g.w.heap.size,0,none⟩),_,.inl ?_,hle,c7,?_,?_⟩
  ·simp[execOp,ho,Instr.alloc,hz,Go.newVar,Go.newRow,G.bp]
  ·simp[G.bp,Mode.post]
  exact .mp (l:=⟨g.w.heap.size,0,z.cells.size⟩) (o:=.cells ti.zero) (by simp only[G.bp];rw[List.getElem?_set_self (iq hg gq)]) (by simp only[G.bp];rw[List.getElem?_set_self (I gq)]) (by simp[al.aC])
theorem kI{P:Program}{aR:ed}(hT:bY P aR){o:Oper}{σ:St}{t e:TypeId}{x y:Operand}{ti te:cc}{k k':IntKind}{n:Int}{id m':Nat}
  (ho:o.op=.makeSlice t x y) (hd:∀d,o.dst=some d->d<σ.n) (ht:aR t=some ti) (aP:ti.desc=.slice e) (he:aR e=some te) (hx:σ.ev x=some (.v (.int k n))) (hy:σ.ev y=some (.v (.int k' n)))
  (h0:0<=n) (hb:te.bytes*n.toNat<=2 ^ 48) (Om:n.toNat<=2 ^ 62) (hs:0<te.size) (l5:σ.objs[id]?=some (.spare m')) :
  Cert P o σ (.ms id 0 n.toNat n.toNat) (.new id (.cells (List.replicate n.toNat te.zero).flatten)) :=
 Cert.tg trivial hd fun base fF a g bE h iC=>by
  have hg:=bE.good;have gq:g.objs[id]?=some (.spare m'):=Eq.trans iC l5;have ex:=(h x (by simp[ho,Op.operands]) _ hx).bV.1;have ey:=(h y (by simp[ho,Op.operands]) _ hy).bV.1;have hu:=bO hT ht aP;obtain⟨⟨i,z,h1,h2,h3,h4,h5,h6,h7,h8,h9⟩,_⟩:=hT e te he;obtain⟨m,rfl⟩:=Int.eq_ofNat_of_zero_le h0;simp only[Int.toNat_natCast]at *;have Mf:(i.bytes:Int)*(m:Int)<=281474976710656:=by
   rw[h3,<-Int.natCast_mul];omega
  have bw:=run_make (P:=P) g.w t e i z hu h1 h4 k k' m m (by omega) (Int.le_refl _) Mf (by omega);simp only[Int.toNat_natCast]at bw;have hlen:(List.replicate m te.zero).flatten.length=m*te.size:=by simp[h6]
  have fQ:∀(j:Nat) (c:ae),(List.replicate m te.zero).flatten[j]?=some c->te.zero[j % te.size]?=some c:=fun j c=>h6 ▸ og te.zero (by omega) m j c;obtain⟨hle,c7⟩:=BE hg gq (madeCells z.cells (m*i.size)) e (List.replicate m te.zero).flatten (by rw[hlen,size_madeCells,h2];exact Nat.le_refl _) (fun g' j c u hj nW=>by
   have gZ:=fQ j c hj;have aZ:=I hj;rw[hlen]at aZ;have jF:j % te.size<z.cells.size:=by rw[h5];exact I gZ
   refine h8 _ _ _ _ gZ ?_;simp only[madeCells,Array.getElem?_map,h2,Array.getElem?_range,if_pos aZ,Option.map_some,Option.some.injEq]at nW;subst nW;rw[h5,h6];simp[jF]) (fun c hc=>by
   rw[List.mem_flatten]at hc;obtain⟨l,hl,hc⟩:=hc;rw[List.mem_replicate]at hl;exact h9 c (hl.2 ▸ hc))
  refine⟨.slice (some ⟨g.w.heap.size,0,none⟩) m m,_,.inl ?_,hle,c7,?_,?_⟩
  ·simp[execOp,ho,ex,ey,bw,G.bp]
  ·simp[G.bp,Mode.post]
  exact .ms (l:=⟨g.w.heap.size,0,(madeCells z.cells (m*i.size)).size⟩) (o:=.cells (List.replicate m te.zero).flatten) (by simp only[G.bp];rw[List.getElem?_set_self (iq hg gq)]) (by simp only[G.bp];rw[List.getElem?_set_self (I gq)]) (by simp[al.aC]) (Nat.le_refl _) (Nat.le_refl _) Om
theorem zE{P:Program}{kb:Nat}{c:Code}{Q:dP->St->Prop}{n:Nat}{bf:List (Nat×ae)}:∀(k:Nat) {O:List al},cu P kb c Q ⟨n,bf,O++List.replicate k (.spare 0)⟩->cu P kb c Q ⟨n,bf,O⟩
 | 0,O,h=>by simpa using h
 | k+1,O,h=>by
  have h2:cu P kb c Q ⟨n,bf,O++[.spare 0]⟩:=zE k (by simpa[List.replicate_succ]using h);exact h2.weaken fun base a g hb hr=>by
   have hO:g.objs=O:=hr.objs;refine⟨g.mark (.spare 0),rfl,?_⟩;have hle:=Le.mark hr.good (.spare 0);refine { le:=hr.le.trans hle,good:=Good.mark hr.good _,objs:=by simp[G.mark,hO],size:=hr.size,defers:=hr.defers,slot:=fun s x hx=>?_ };obtain⟨u,e1,e2⟩:=hr.slot s x hx;exact⟨u,e1,e2.mono hle⟩
def zk(P:Program)(all:List Oper)(k:Nat)(σ:St)(ks:List Kind)(R:St->List Kind->Prop):Prop :=
 ∃(ρ:St) (sb:List Kind),sb.length+k=all.length∧fj P all.toArray ((sb.zipIdx k).map fun p=>(p.2,p.1)) σ ρ∧R ρ (ks++sb)
theorem zk.fin{P:Program}{all:List Oper}{k:Nat}{σ:St}{ks:List Kind}{R:St->List Kind->Prop}(hk:k=all.length)(h:R σ ks):zk P all k σ ks R :=
 ⟨σ,[],by simpa using hk,pQ.refl σ,by simpa using h⟩
theorem zk.op{P:Program}{all:List Oper}{k:Nat}{σ:St}{ks:List Kind}{R:St->List Kind->Prop}{o:Oper}{x:ae}{m:Mode}(ho:all[k]?=some o)(hg:o.guard=none)(hc:Cert P o σ x m)
  (h:zk P all (k+1) ⟨σ.n,oD o.dst x σ.bf,m.post σ.objs⟩ (ks++[m.kind]) R):zk P all k σ ks R:=by
 obtain⟨ρ,sb,h1,h2,h3⟩:=h;refine⟨ρ,m.kind::sb,by simp only[List.length_cons];omega,?_,by simpa using h3⟩;rw[List.zipIdx_cons,List.map_cons];exact⟨_,⟨o,by simpa using ho,.inl ⟨by simp[cQ,hg],x,m,hc,rfl,rfl⟩⟩,h2⟩
theorem wD{P:Program}{ops:Array Oper}:∀{l1 l2:List (Nat×Kind)} {σ τ ρ:St},fj P ops l1 σ τ->fj P ops l2 τ ρ->fj P ops (l1++l2) σ ρ
 | [],_,_,_,_,h1,h2=>h2.same h1.symm
 | _::_,_,_,_,_,⟨fF,h,h1⟩,h2=>⟨fF,h,wD h1 h2⟩
theorem wE{P:Program}{ops all:Array Oper}{k:Nat}(hk:∀i o,ops[i]?=some o->all[k+i]?=some o)(hg:∀o∈all.toList,o.guard=none):∀{l:List (Nat×Kind)} {σ τ:St},fj P ops l σ τ->fj P all (l.map fun p=>(k+p.1,p.2)) σ τ
 | [],_,_,h=>h
 | (i,q)::r,_,_,h=>by
  obtain⟨fF,⟨o,ho,h1⟩,h2⟩:=h;refine⟨fF,⟨o,hk i o ho,?_⟩,wE hk hg h2⟩;have iC:=hk i o ho;have y9:o.guard=none:=hg o (by
   rw[<-Array.getElem?_toList]at iC;exact List.mem_of_getElem? iC)
  have w1:∀(a:Array Oper) (σ:St),cQ a o σ=some true:=fun a σ=>by simp[cQ,y9]
  rcases h1 with⟨_,h1⟩|⟨h1,_⟩
  ·exact .inl ⟨w1 _ _,h1⟩
  rw[w1]at h1;cases h1
theorem zk.UU{P:Program}{aR:ed}(md:Md)(hT:bY P aR){all l1:List Oper}{k:Nat}{σ:St}{ks:List Kind}{R:St->List Kind->Prop}(n:Nat)(h1:(all.drop k).take n=l1)(hn:l1.length=n)(hg:∀o∈all,o.guard=none)
  (h:ff P aR md l1 0 [] σ [] fun τ wZ=>zk P all (k+n) τ (ks++wZ.reverse) R):zk P all k σ ks R:=by
 obtain⟨τ,wZ,c1,n1,ρ,OZ,h3,c2,hR⟩:=dO (all:=l1.toArray) hT l1 0 [] σ [] (fun j=>by simp) (fun j t hj=>by simp[iA]at hj) h;have hl:k+n<=all.length:=by
  have:l1.length<=all.length-k:=by rw[<-h1,List.length_take,List.length_drop];omega
  by_cases hz:n=0
  ·omega
  omega
 have d1:=wE (all:=all.toArray) (k:=k) (fun i o hi=>by
  have gI:l1[i]?=some o:=by simpa using hi
  rw[<-h1,List.getElem?_take]at gI;split at gI
  ·rw[List.getElem?_drop]at gI;simpa using gI
  cases gI) (by simpa using hg) c1
 refine⟨ρ,wZ++OZ,by rw[List.length_append];omega,?_,by simpa using hR⟩;rw[List.zipIdx_append,List.map_append];have e1:(wZ.zipIdx k).map (fun p=>(p.2,p.1))=((wZ.zipIdx 0).map fun p=>(p.2,p.1)).map fun p=>(k+p.1,p.2):=by
  apply List.ext_getElem?;intro i;simp only[List.getElem?_map,List.getElem?_zipIdx];cases wZ[i]?<;>simp
 rw[e1];refine wD d1 ?_;rw[show k+wZ.length=k+n by omega];exact c2
theorem Cl{P:Program}{kb:Nat}(hm:P.follows .mixedOrders=true){id:Nat}{l:List Oper}{draw:Bool}{Q:dP->St->Prop}{σ:St}
  (h:zk P l 0 σ [] fun τ ks=>iH draw (fun _=>fm l.toArray ks)∧At τ (Q .norm)):cu P kb (.region id l.toArray draw) Q σ:=by
 obtain⟨τ,ks,h1,h2,h3,h4⟩:=h;intro base a g hb hr;have oI:fj P l.toArray ((List.range l.toArray.size).map fun i=>(i,ks.getD i .write)) σ τ:=by
  have e:(ks.zipIdx 0).map (fun p=>(p.2,p.1))=(List.range l.toArray.size).map fun i=>(i,ks.getD i .write):=by
   apply List.ext_getElem?;intro i;simp only[List.getElem?_map];have hlen:ks.length=l.toArray.size:=by simpa using h1
   by_cases hi:i<l.toArray.size
   ·have gI:i<ks.length:=by omega
    rw[List.getElem?_range hi];simp[gI]
   rw[List.getElem?_eq_none (by simp only[List.length_zipIdx];omega),List.getElem?_eq_none (by simp only[List.length_range];omega)];rfl
  rw[<-e];exact h2
 cases draw with
 | false=>exact k9 oI hr fun a g wU=>⟨g,τ,rfl,wU,h4⟩
 | true =>
  have hB:=h3 rfl;simp only[List.nil_append]at hB;exact mD hm hB oI hr fun a g wU=>⟨g,τ,rfl,wU,h4⟩
end Go.Av
namespace Go.Proofs.YtjdnhamngpafmaaGreat
open Go.Av
def Us(f:Func)(O:List Int)(N:Nat)(r:List ae):List al:=[.gone,.gone,.cells r,.cells (O.map aI),.cells ((fT f).map aI),.cells [.ms 3 0 N N,.ms 4 0 N N]]
theorem zW(f:Func)(O:List Int)(N:Nat)(r:List ae)(hr:au 6 r):∀o∈Us f O N r,o.upto 6:=by
 intro o ho;simp only[Us,List.mem_cons,List.not_mem_nil,or_false]at ho;rcases ho with rfl|rfl|rfl|rfl|rfl|rfl
 ·trivial
 ·trivial
 ·exact hr
 ·exact av _ _
 ·exact av _ _
 exact⟨show 3<6 by omega,show 4<6 by omega,trivial⟩
theorem sw(n:Nat):(List.replicate n [ae.v (.int .i64 0)]).flatten=(List.replicate n 0).map aI:=by
 induction n with
 | zero=>rfl
 | succ n ih=>rw[List.replicate_succ,List.flatten_cons,ih,List.replicate_succ];rfl
theorem B5{l:List Int}{j:Nat}(h:j<l.length)(b:Int):bk (l.map aI) j [.v (.int .i64 b)]=(l.set j b).map aI:=by
 rw[fX _ (by simpa using h),List.map_set]
theorem Ad{k n:Nat}{l:List Int}{x y:Int}(hl:l.length=k)(hk:k<n):(l++List.replicate (n-k) x).set k y=(l++[y])++List.replicate (n-(k+1)) x:=by
 rw[List.set_append_right _ _ (by omega),hl,Nat.sub_self,show n-k=(n-(k+1))+1 by omega,List.replicate_succ,List.set_cons_zero,List.append_assoc];rfl
theorem zT(f:Func)(bt:f.fit)(hc:aN f=0) :
  ba Tryz.prog 92 [.gone] [f.enc] (fun r O'=>r=.cK [.agg [.ms 3 0 f.blocks.length f.blocks.length,.ms 4 0 f.blocks.length f.blocks.length],aI 0]∧O'=Us f (dn f) f.blocks.length [.ms 3 0 f.blocks.length f.blocks.length,.ms 4 0 f.blocks.length f.blocks.length]):=by
 have Lf:=uH f bt;have lr:=pA f bt;unfold yw at Lf;unfold uR at lr;rw[if_pos hc]at Lf lr;have hg:=(cq bt hc).gr;have hw:=dk hg;have hn:f.blocks.length<=128:=hg.few;obtain⟨R,hR⟩:∃R,R=dn f:=⟨_,rfl⟩
 rw[<-hR];unfold dn at hR;obtain⟨N,hN⟩:∃N,N=f.blocks.length:=⟨_,rfl⟩
 have gU:[al.gone].length<=6:=by simp
 have s7:=hw.pos;have hpf:=hw.few;have Vj:((bz f).length:Int) ≥ 1:=by omega
 rw[<-hN];have XZ:(fT f).length=N:=by simp[fT,hN]
 refine eY hT true (6) Tryz.func92 rfl (by kernel_rfl) (by simp[Tryz.ntmps92]) (by assumption) ?_;show cu Tryz.prog _ _ _ ⟨116,_,_⟩;dsimp only[Tmp,TypeId,slotsOf];refine ay (ah ?_);refine aA 1 1 (.ip none [aI f.name,aw f.blocks]) rfl (by simp[al.aC]) trivial rfl ?_ ?_;rotate_left;simp -dsimp only[simprocAttr,↓aa,zp]
 ·refine ay ?_;refine zi Lf ?_;refine ah ?_;refine cb (ah ?_);apply aM rfl<;>intro h
  ·cases h
  refine cm ?_;refine ay ?_;refine zi lr ?_;refine ah ?_;refine zE 3 ?_;show cu Tryz.prog _ _ _ ⟨_,_,[.gone,.gone,.cells [.aB 1 [] .ex,.aB 1 [] .ex],.spare 0,.spare 0,.spare 0]⟩;refine aH (Cl hm (zk.UU ⟨false,false⟩ hT 3 rfl rfl (by simp) ?_));simp -dsimp only[simprocAttr,↓aa,zp,<-hN];refine zk.op rfl rfl (kI hT (id:=3) rfl (by simp) D9 rfl Kj rfl rfl (by omega) (by simp;omega) (by omega) (by decide) rfl) ?_;simp -dsimp only[simprocAttr,↓aa,zp,sw];refine zk.UU ⟨false,false⟩ hT 3 rfl rfl (by simp) ?_;simp -dsimp only[simprocAttr,↓aa,zp,<-hN];refine zk.op rfl rfl (kI hT (id:=4) rfl (by simp) D9 rfl Kj rfl rfl (by omega) (by simp;omega) (by omega) (by decide) rfl) ?_;simp -dsimp only[simprocAttr,↓aa,zp,sw];refine zk.UU ⟨false,false⟩ hT 1 rfl rfl (by simp) ?_;simp -dsimp only[simprocAttr,↓aa,zp];refine zk.op rfl rfl (vx hT (id:=5) rfl (by simp) FL rfl) ?_;simp -dsimp only[simprocAttr,↓aa,zp];refine zk.UU ⟨false,false⟩ hT 1 rfl rfl (by simp) ?_;simp -dsimp only[simprocAttr,↓aa,zp];refine zk.fin rfl ⟨ob (by kernel_rfl),?_⟩;refine ah ?_;refine cb (ah ?_);refine ai (aO (ι:={k:Nat // k<=N}) (fun k=>⟨116,[(1,.ip none [aI f.name,aw f.blocks]),(2,.mp 2 0),(4,aT (bz f)),(6,.aB 1 ((dj f).map aT) .sh),(8,.mp 5 0),(41,aI N),(42,aI k.1)],[.gone,.gone,.cells [.aB 1 [] .ex,.aB 1 [] .ex],.cells ((List.replicate k.1 (-1)++List.replicate (N-k.1) 0).map aI),.cells (((fT f).take k.1++List.replicate (N-k.1) 0).map aI),.cells [.ms 3 0 N N,.ms 4 0 N N]]⟩) (fun k=>N-k.1) ⟨0,by omega⟩ ?_ ?_)
  ·refine zq rfl ?_ ?_;simp -dsimp only[simprocAttr,↓aa,zp,zc]
   all_goals rfl
  rintro⟨k,hk⟩;refine ay (ah ?_);apply ib rfl<;>intro h
  ·refine cm ?_;have aZ:k<N:=by simpa using h
   have Mq:=pn (bz f) (k:Int);have vS:bk ((List.replicate k (-1)++List.replicate (N-k) 0).map aI) k [.v (.int .i64 (-1))]=(List.replicate (k+1) (-1)++List.replicate (N-(k+1)) 0).map aI:=by
    rw[B5 (by simp;omega),Ad (by simp) aZ,<-List.replicate_succ']
   have kr:((fT f).take k).length=k:=by rw[List.length_take];omega
   have vR:=py (f:=f) (k:=(k:Int)) (by omega) (by omega);rw[Int.toNat_natCast]at vR;have My:bk (((fT f).take k++List.replicate (N-k) 0).map aI) k [.v (.int .i64 (m9 (bz f) k))]=((fT f).take (k+1)++List.replicate (N-(k+1)) 0).map aI:=by
    rw[B5 (by simp;omega),Ad kr aZ,List.take_add_one,vR];rfl
   refine aH (ai ?_);refine ay (ah ?_);refine cF ?_;refine .inl ⟨_,Mq,by simp only[au,ae.upto,zt,zu,av],an ?_⟩;simp -dsimp only[simprocAttr,↓aa,zp,vS,My,Int.toNat_natCast,Nat.mul_one];refine⟨by omega,by simp;omega,by omega,by simp;omega,?_⟩;refine⟨ob (by kernel_rfl),?_⟩;refine ah ?_;refine cF ?_
   repeat(refine⟨by omega,?_⟩)
   refine fw ?_;refine⟨⟨k+1,aZ⟩,by simp;omega,?_⟩;refine zq rfl ?_ ?_;simp -dsimp only[simprocAttr,↓aa,zp,zc]
   ·exact Sub.int (by simp)
   rfl
  refine aG ?_;simp -dsimp only[bD,ne_eq,Nat.reduceEqDiff,reduceCtorEq];have gU:k=N:=by simp at h;omega
  subst gU;have e1:List.replicate k (-1:Int)++List.replicate (k-k) 0=(CJ f).over:=by simp[CJ,hN]
  have e2:(fT f).take k++List.replicate (k-k) 0=fT f:=by
   rw[List.take_of_length_le (by omega),Nat.sub_self,List.replicate_zero,List.append_nil]
  rw[e1,e2];have Oq:=CK hw;have hW0:=tW hn;have Sm:((bz f).map aI).drop 1=((bz f).drop 1).map aI:=by rw[List.map_drop]
  have pL:∀(j:Nat) z,((bz f).drop 1)[j]?=some z->cU f z=((1+j:Nat):Int):=fun j z hj=>by
   rw[List.getElem?_drop]at hj;exact hw.at_ _ _ hj
  obtain⟨L1,Px⟩:∃L1,L1=(bz f).drop 1:=⟨_,rfl⟩
  have YM:L1.length<=128:=by rw[Px,List.length_drop];omega
  rw[<-Px]at Sm pL;refine cb (ah ?_);refine ai (aO (ι:={x:Dm×Nat // ku f 1 x.1.over∧R=(Eu f x.2 x.1).over∧(x.1.again=true->x.1.weight f<x.2)}) (fun x=>⟨116,[(1,.ip none [aI f.name,aw f.blocks]),(2,.mp 2 0),(4,aT (bz f)),(6,.aB 1 ((dj f).map aT) .sh),(8,.mp 5 0),(10,.v (.bool x.1.1.again))],[.gone,.gone,.cells [.aB 1 [] .ex,.aB 1 [] .ex],.cells (x.1.1.over.map aI),.cells ((fT f).map aI),.cells [.ms 3 0 k k,.ms 4 0 k k]]⟩) (fun x=>x.1.1.weight f+if x.1.1.again then 1 else 0) ⟨(CJ f,30000),Oq,hR,fun _=>by simp only;omega⟩ ?_ ?_)
  ·refine zq rfl ?_ ?_;simp -dsimp only[simprocAttr,↓aa,zp,zc]
   all_goals first|rfl|exact Sub.refl _
  rintro⟨⟨S,q⟩,I4,Ma,Qo⟩;simp only at I4 Ma Qo;refine cb (ah ?_);apply aM rfl<;>intro h
  ·refine cm ?_;have my:S.again=true:=h;have Qo:=Qo my;obtain⟨q,rfl⟩:∃q',q=q'+1:=⟨q-1,by omega⟩
   have I3:R=(Eu f q (HL f ⟨S.over,false⟩)).over:=by
    rw[Ma];simp[Eu,my]
   have TI:=CI hg hw (S:=⟨S.over,false⟩) I4;obtain⟨S1,Pz⟩:∃S1,S1=HL f ⟨S.over,false⟩:=⟨_,rfl⟩
   rw[<-Pz]at I3 TI;obtain⟨WN,WO,QB,_⟩:=TI;have RI:(⟨S.over,false⟩:Dm).weight f=S.weight f:=rfl;rw[RI]at WO QB;unfold HL at Pz;rw[<-Px]at Pz;refine ai ?_;refine ay (ah ?_);refine aS ?_;simp -dsimp only[simprocAttr,↓aa,zp,Sm]
   repeat(refine⟨by omega,?_⟩)
   refine ah ?_;refine ai (aO (ι:={y:Nat×Dm // y.1<=L1.length∧ku f (1+y.1:Nat) y.2.over∧S1=(L1.drop y.1).foldl (ew f) y.2}) (fun y=>⟨116,[(1,.ip none [aI f.name,aw f.blocks]),(2,.mp 2 0),(4,aT (bz f)),(6,.aB 1 ((dj f).map aT) .sh),(8,.mp 5 0),(10,.v (.bool y.1.2.again)),(59,aT L1),(60,aI L1.length),(61,aI y.1.1)],[.gone,.gone,.cells [.aB 1 [] .ex,.aB 1 [] .ex],.cells (y.1.2.over.map aI),.cells ((fT f).map aI),.cells [.ms 3 0 k k,.ms 4 0 k k]]⟩) (fun y=>L1.length-y.1.1) ⟨(0,⟨S.over,false⟩),by simp,I4,Pz⟩ ?_ ?_)
   ·refine zq rfl ?_ ?_;simp -dsimp only[simprocAttr,↓aa,zp,zc]
    all_goals rfl
   rintro⟨⟨y,T⟩,hy,Gr,wS⟩;simp only at hy Gr wS;refine ay (ah ?_);apply ib rfl<;>intro h
   ·refine cm ?_;have aZ:y<L1.length:=by simpa using h
    obtain⟨z,hz⟩:∃z,L1[y]?=some z:=⟨L1[y],by simp[aZ]⟩
    have ZP:=pL y z hz;have wX:=hw.range z (by omega);have dz:=rn hg hw Gr ZP (by omega);rw[bQ hz,List.foldl_cons]at wS;have hTl:=Gr.tr.len;obtain⟨ps,mI⟩:∃ps,(dj f)[z.toNat]?=some ps:=⟨(dj f)[z.toNat]'(by rw[rK];omega),List.getElem?_eq_getElem _⟩
    have pM:bB f z=ps:=by simp[bB,mI]
    have Wg:∀p∈ps,0<=p∧p<f.blocks.length:=fun p hp=>(iT hg wX.1 (by rw[pM];exact hp)).1;obtain⟨o,ho⟩:∃o,T.over[z.toNat]?=some o:=⟨T.over[z.toNat]'(by omega),List.getElem?_eq_getElem _⟩
    have ZJ:dH T.over z=o:=by simp[dH,ho]
    obtain⟨NX,Vn⟩:∃NX,NX=gV (fT f) T.over ps:=⟨_,rfl⟩
    have bJ:ew f T z=if NX≠o then⟨T.over.set z.toNat NX,true⟩else T:=by
     unfold ew;rw[pM,ZJ,<-Vn]
    unfold gV at Vn;refine aH (ai ?_);refine aS ?_;simp -dsimp only[simprocAttr,↓aa,zp,hz];refine ah ?_;refine ay (ah ?_);refine cJ ?_;simp -dsimp only[simprocAttr,↓aa,zp,mI]
    repeat(refine⟨by omega,?_⟩)
    refine ah ?_;refine fp 68 rfl (fun We=>?_);simp only[List.length_map]at We;refine ai (aO (ι:={w:Nat×Int // w.1<=ps.length∧(w.2=-1∨jW T.over w.2)∧NX=(ps.drop w.1).foldl (cM (fT f) T.over) w.2}) (fun w=>⟨116,[(1,.ip none [aI f.name,aw f.blocks]),(2,.mp 2 0),(4,aT (bz f)),(6,.aB 1 ((dj f).map aT) .sh),(8,.mp 5 0),(10,.v (.bool T.again)),(59,aT L1),(60,aI L1.length),(61,aI y),(12,aI z),(13,aI w.1.2),(68,aT ps),(69,aI ps.length),(70,aI w.1.1)],[.gone,.gone,.cells [.aB 1 [] .ex,.aB 1 [] .ex],.cells (T.over.map aI),.cells ((fT f).map aI),.cells [.ms 3 0 k k,.ms 4 0 k k]]⟩) (fun w=>ps.length-w.1.1) ⟨(0,-1),by simp,.inl rfl,Vn⟩ ?_ ?_)
    ·refine zq rfl ?_ ?_;simp -dsimp only[simprocAttr,↓aa,zp,zc]
     all_goals rfl
    rintro⟨⟨w,acc⟩,sR,rr,yl⟩;simp only at sR rr yl;refine ay (ah ?_);apply ib rfl<;>intro h
    ·refine cm ?_;have Ti:w<ps.length:=by simpa using h
     obtain⟨p,hp⟩:∃p,ps[w]?=some p:=⟨ps[w],by simp[Ti]⟩
     have Mx:=Wg p (List.mem_of_getElem? hp);have Xy:=py Mx.1 Mx.2;have Gx:=tm Xy;obtain⟨x,hx⟩:∃x,T.over[p.toNat]?=some x:=⟨T.over[p.toNat]'(by omega),List.getElem?_eq_getElem _⟩
     have Ya:dH T.over p=x:=by simp[dH,hx]
     have Qp:=tm hx;rw[bQ hp,List.foldl_cons]at yl;obtain⟨nx,ER⟩:∃nx,nx=cM (fT f) T.over acc p:=⟨_,rfl⟩
     have Tp:nx=-1∨jW T.over nx:=by
      rcases nT hw Gr.tr [p] acc (by simpa using Mx) rr with⟨a,_⟩|⟨a,_⟩
      ·exact .inl (ER.trans a)
      exact .inr (ER ▸ a)
     rw[<-ER]at yl;have Qb:=np hw Gr.tr Mx;have SX:dH (fT f) p=cU f p:=by simp[dH,Xy]
     rw[SX,Ya]at Qb;have Qc:cM (fT f) T.over acc p=if cU f p<0∨(p≠0∧x<0)then acc else if acc<0 then p else iw (fT f) T.over 300 acc p:=by
      unfold cM;rw[SX,Ya]
     refine jP (⟨116,[(1,.ip none [aI f.name,aw f.blocks]),(2,.mp 2 0),(4,aT (bz f)),(6,.aB 1 ((dj f).map aT) .sh),(8,.mp 5 0),(10,.v (.bool T.again)),(59,aT L1),(60,aI L1.length),(61,aI y),(12,aI z),(13,aI nx),(68,aT ps),(69,aI ps.length),(70,aI w)],[.gone,.gone,.cells [.aB 1 [] .ex,.aB 1 [] .ex],.cells (T.over.map aI),.cells ((fT f).map aI),.cells [.ms 3 0 k k,.ms 4 0 k k]]⟩) ?_ ?_
     ·refine ai ?_;refine aS ?_;simp -dsimp only[simprocAttr,↓aa,zp,hp];refine ah ?_;refine ai ?_;by_cases hA:jW T.over p
      ·have P2:=fun q=>Qb.1 q hA;have On:decide (cU f p<0)=false:=decide_eq_false fun q=>P2 (.inl q);rw[if_neg P2]at Qc;have As:p=0∨(p≠0∧¬x<0):=by
        by_cases e:p=0
        ·exact .inl e
        exact .inr ⟨e,fun q=>P2 (.inr ⟨e,q⟩)⟩
       rcases rr with Sv|Sv
       ·have Ow:decide (acc<0)=true:=decide_eq_true (by omega);rw[if_pos (by omega)]at Qc;rw[Qc]at ER;rcases As with BU|⟨BU,Df⟩
        ·have lK:decide (p=0)=true:=decide_eq_true BU;refine aS ?_;simp -dsimp only[simprocAttr,↓aa,zp,Gx,On,lK,Int.toNat_natCast,Nat.mul_one]
         repeat(refine⟨by omega,?_⟩)
         refine ah ?_;refine cd rfl ?_;refine aS ?_;simp -dsimp only[simprocAttr,↓aa,zp,Ow];refine ah ?_;refine cN rfl ?_;refine fM hT hm ?_;simp -dsimp only[simprocAttr,↓aa,zp];refine aV ?_;show bd _ _;refine zq rfl ?_ ?_;simp -dsimp only[simprocAttr,↓aa,zp,zc]
         all_goals first|rfl|exact Sub.int (by omega)
        have lK:decide (p=0)=false:=decide_eq_false BU;have kq:decide (x<0)=false:=decide_eq_false Df;refine aS ?_;simp -dsimp only[simprocAttr,↓aa,zp,Gx,On,lK,kq,Qp,Int.toNat_natCast,Nat.mul_one]
        repeat(refine⟨by omega,?_⟩)
        refine ah ?_;refine cd rfl ?_;refine aS ?_;simp -dsimp only[simprocAttr,↓aa,zp,Ow];refine ah ?_;refine cN rfl ?_;refine fM hT hm ?_;simp -dsimp only[simprocAttr,↓aa,zp];refine aV ?_;show bd _ _;refine zq rfl ?_ ?_;simp -dsimp only[simprocAttr,↓aa,zp,zc]
        all_goals first|rfl|exact Sub.int (by omega)
       have Y4:=Sv.nn hw Gr.tr;have Ow:decide (acc<0)=false:=decide_eq_false (by omega);rw[if_neg (by omega)]at Qc;rw[Qc]at ER;have Jg:=G0 (O:=[.gone,.gone,.cells [.aB 1 [] .ex,.aB 1 [] .ex],.cells (T.over.map aI),.cells ((fT f).map aI),.cells [.ms 3 0 k k,.ms 4 0 k k]]) (by
        have:=zW f T.over k [.aB 1 [] .ex,.aB 1 [] .ex] (by simp[au,ae.upto]);exact this) (A:=3) (B:=4) (N:=k) hw rfl rfl hN Gr.tr Sv hA
       rw[<-ER]at Jg;rcases As with BU|⟨BU,Df⟩
       ·have lK:decide (p=0)=true:=decide_eq_true BU;refine aS ?_;simp -dsimp only[simprocAttr,↓aa,zp,Gx,On,lK,Int.toNat_natCast,Nat.mul_one]
        repeat(refine⟨by omega,?_⟩)
        refine ah ?_;refine cd rfl ?_;refine aS ?_;simp -dsimp only[simprocAttr,↓aa,zp,Ow];refine ah ?_;refine cd rfl ?_;refine fM hT hm ?_;simp -dsimp only[simprocAttr,↓aa,zp];refine .inr (.inr ⟨_,Jg,an (zj ?_)⟩);refine aV ?_;show bd _ _;refine zq rfl ?_ ?_;simp -dsimp only[simprocAttr,↓aa,zp,zc]
        all_goals rfl
       have lK:decide (p=0)=false:=decide_eq_false BU;have kq:decide (x<0)=false:=decide_eq_false Df;refine aS ?_;simp -dsimp only[simprocAttr,↓aa,zp,Gx,On,lK,kq,Qp,Int.toNat_natCast,Nat.mul_one]
       repeat(refine⟨by omega,?_⟩)
       refine ah ?_;refine cd rfl ?_;refine aS ?_;simp -dsimp only[simprocAttr,↓aa,zp,Ow];refine ah ?_;refine cd rfl ?_;refine fM hT hm ?_;simp -dsimp only[simprocAttr,↓aa,zp];refine .inr (.inr ⟨_,Jg,an (zj ?_)⟩);refine aV ?_;show bd _ _;refine zq rfl ?_ ?_;simp -dsimp only[simprocAttr,↓aa,zp,zc]
       all_goals rfl
      have P2:=Qb.2 hA;rw[if_pos P2]at Qc;rw[Qc]at ER;subst ER;by_cases TB:cU f p<0
      ·have On:decide (cU f p<0)=true:=decide_eq_true TB;refine aS ?_;simp -dsimp only[simprocAttr,↓aa,zp,Gx,On,Int.toNat_natCast,Nat.mul_one]
       repeat(refine⟨by omega,?_⟩)
       refine ah ?_;refine cN rfl ?_;refine a6 ?_;show bd _ _;refine zq rfl ?_ ?_;simp -dsimp only[simprocAttr,↓aa,zp,zc]
       all_goals rfl
      have On:decide (cU f p<0)=false:=decide_eq_false TB;have lK:decide (p=0)=false:=decide_eq_false fun e=>hA (.inl e);have kq:decide (x<0)=true:=decide_eq_true (by omega);refine aS ?_;simp -dsimp only[simprocAttr,↓aa,zp,Gx,On,lK,kq,Qp,Int.toNat_natCast,Nat.mul_one]
      repeat(refine⟨by omega,?_⟩)
      refine ah ?_;refine cN rfl ?_;refine a6 ?_;show bd _ _;refine zq rfl ?_ ?_;simp -dsimp only[simprocAttr,↓aa,zp,zc]
      all_goals rfl
     refine cF ?_
     repeat(refine⟨by omega,?_⟩)
     refine fw ?_;refine⟨⟨(w+1,nx),Ti,Tp,yl⟩,by simp;omega,?_⟩;refine zq rfl ?_ ?_;simp -dsimp only[simprocAttr,↓aa,zp,zc]
     all_goals first|rfl|exact Sub.refl _
    refine aG ?_;simp -dsimp only[bD,ne_eq,Nat.reduceEqDiff,reduceCtorEq];have UR:w=ps.length:=by simp at h;omega
    subst UR;rw[List.drop_length,List.foldl_nil]at yl;subst yl;have RC:=tm ho;have l6:=B5 (l:=T.over) (j:=z.toNat) (by omega) NX;by_cases bI:NX=o
    ·have BP:decide (NX=o)=true:=decide_eq_true bI;rw[if_neg (by simp[bI])]at bJ;rw[bJ]at dz wS;refine aS ?_;simp -dsimp only[simprocAttr,↓aa,zp,RC,BP,Nat.mul_one]
     repeat(refine⟨by omega,?_⟩)
     refine ah ?_;refine cd rfl ?_;refine kA ?_;refine cF ?_
     repeat(refine⟨by omega,?_⟩)
     refine fw ?_;refine⟨⟨(y+1,T),aZ,by rw[show((1+(y+1):Nat):Int)=((1+y:Nat):Int)+1 by omega];exact dz.1,wS⟩,by simp;omega,?_⟩;refine zq rfl ?_ ?_;simp -dsimp only[simprocAttr,↓aa,zp,zc]
     all_goals first|rfl|exact Sub.refl _
    have BP:decide (NX=o)=false:=decide_eq_false bI;rw[if_pos bI]at bJ;rw[bJ]at dz wS;refine aS ?_;simp -dsimp only[simprocAttr,↓aa,zp,RC,BP,Nat.mul_one]
    repeat(refine⟨by omega,?_⟩)
    refine ah ?_;refine cN rfl ?_;refine j4 ?_;simp -dsimp only[simprocAttr,↓aa,zp,l6,Nat.mul_one]
    repeat(refine⟨by omega,?_⟩)
    refine ah ?_;refine cF ?_
    repeat(refine⟨by omega,?_⟩)
    refine fw ?_;refine⟨⟨(y+1,⟨T.over.set z.toNat NX,true⟩),aZ,by rw[show((1+(y+1):Nat):Int)=((1+y:Nat):Int)+1 by omega];exact dz.1,wS⟩,by simp;omega,?_⟩;refine zq rfl ?_ ?_;simp -dsimp only[simprocAttr,↓aa,zp,zc]
    all_goals first|rfl|exact Sub.refl _
   refine aG ?_;simp -dsimp only[bD,ne_eq,Nat.reduceEqDiff,reduceCtorEq];have WE:y=L1.length:=by simp at h;omega
   subst WE;rw[List.drop_length,List.foldl_nil]at wS;subst wS;have AG:S1.again=true->S1.weight f<q:=fun hh=>by
    rcases QB hh with r|r
    ·cases r
    omega
   refine⟨⟨(S1,q),pd hw WN,I3,AG⟩,?_,?_⟩
   ·simp only[my,if_true];cases vS:S1.again
    ·simp;omega
    rcases QB vS with r|r
    ·cases r
    simp;omega
   refine zq rfl ?_ ?_;simp -dsimp only[simprocAttr,↓aa,zp,zc]
   all_goals rfl
  refine aG ?_;simp -dsimp only[bD,ne_eq,Nat.reduceEqDiff,reduceCtorEq];have my:S.again=false:=h;rw[zV my]at Ma;subst Ma;refine ay ?_
  repeat(refine⟨by omega,?_⟩)
  refine ah ?_;refine aq ?_;simp -dsimp only[simprocAttr,↓aa,zp,zr,Tryz.results92];exact⟨zW f S.over k [.ms 3 0 k k,.ms 4 0 k k] ⟨show 3<6 by omega,show 4<6 by omega,trivial⟩,⟨⟨show 3<6 by omega,show 4<6 by omega,trivial⟩,trivial,trivial⟩,rfl⟩
 exact bT.mp rfl rfl

theorem HF(f:Func)(bt:f.fit)(hc:aN f=0):bh Tryz.prog 62 [f.enc] (.cK [aT (dn f),aI 0]):=by
 have hb:=zT f bt hc;have hg:=(cq bt hc).gr;have hl:=(ko hg).tr.len;unfold Us at hb;generalize dn f=O at *;obtain⟨N,hN⟩:∃N,N=f.blocks.length:=⟨_,rfl⟩
 rw[<-hN]at hb hl;refine zf true 0 Tryz.func62 Tryz.ntmps62 ?_;dsimp only[Tmp,TypeId,slotsOf];refine ay (ah ?_);refine aA 1 0 (.ip none [aI f.name,aw f.blocks]) rfl (by simp[al.aC]) trivial rfl ?_ ?_;rotate_left;simp -dsimp only[simprocAttr,↓aa,zp]
 ·refine ay ?_;refine .inr (.inl ⟨_,_,hb,.inl (an (zj ?_))⟩);refine ah ?_;refine ay (ah ?_);refine aA 2 3 (o:=.cells (O.map aI)) (aT O) rfl (by simp[al.aC]) trivial rfl (bT.ms (cs:=O.map aI) rfl (fun x hx=>by obtain⟨v,_,rfl⟩:=List.mem_map.1 hx;rfl) (by simpa using hl) (by rw[List.drop_zero,List.take_of_length_le (by simp;omega),kC])) ?_;simp -dsimp only[simprocAttr,↓aa,zp];refine aq ?_;simp -dsimp only[simprocAttr,↓aa,zp,zr,Tryz.results62];exact⟨⟨av _ _,trivial⟩,trivial,trivial⟩
 exact bT.mp rfl rfl
theorem Dt{f:Func}(hw:gX f){ov:List Int}(ht:Tr f ov){a b:Int}(ha:0<=a)(hb:jW ov b):bh Tryz.prog 63 [aT ov,aI a,aI b] (.v (.bool (ou ov a b))):=by
 obtain⟨R,hR⟩:∃R,R=ou ov a b:=⟨_,rfl⟩
 rw[<-hR];refine zf true 0 Tryz.func63 Tryz.ntmps63 ?_;dsimp only[Tmp,TypeId,slotsOf];refine ay (ah ?_);refine aH (ai (aO (ι:={x:Int // (jW ov x∧R=ou ov a x)∨(x=-1∧R=false)}) (fun x=>⟨21,[(0,aT ov),(1,aI a),(2,aI x.1)],[]⟩) (fun x=>if 0<=x.1 then(cU f x.1).toNat+1 else 0) ⟨b,.inl ⟨hb,hR⟩⟩ ?_ ?_))
 ·refine zq rfl ?_ ?_;simp -dsimp only[simprocAttr,↓aa,zp,zc];rfl
 rintro⟨x,hx⟩;rcases hx with⟨AL,Uy⟩|⟨EW,Uy⟩
 ·have Df:=AL.nn hw ht;have lK:decide (0<=x)=true:=decide_eq_true Df;have ZO:=ht.y5 hw AL;have ym:=hw.range x ZO;by_cases wW:x=a
  ·have kq:decide (x=a)=true:=decide_eq_true wW;have Ze:decide (a=x)=true:=decide_eq_true wW.symm;have YY:R=true:=by rw[Uy,wW];exact FX hw ht (wW ▸ AL)
   refine cJ ?_;simp -dsimp only[simprocAttr,↓aa,zp,lK,kq];refine ah ?_;refine cd rfl ?_;refine aG ?_;simp -dsimp only[bD,ne_eq,Nat.reduceEqDiff,reduceCtorEq];refine aS ?_;simp -dsimp only[simprocAttr,↓aa,zp,Ze];refine ah ?_;rw[YY];refine aq ?_;simp -dsimp only[simprocAttr,↓aa,zp,zr,Tryz.results63]
  have kq:decide (x=a)=false:=decide_eq_false wW;obtain⟨y,hy⟩:∃y,ov[x.toNat]?=some y:=⟨ov[x.toNat]'(by rw[ht.len];omega),List.getElem?_eq_getElem _⟩
  have MD:dH ov x=y:=by simp[dH,hy]
  have dz:=H9 hw ht AL wW;rw[MD,<-Uy]at dz;refine cJ ?_;simp -dsimp only[simprocAttr,↓aa,zp,lK,kq];refine ah ?_;refine cN rfl ?_;refine cm ?_;refine ai ?_;refine j4 ?_;simp -dsimp only[simprocAttr,↓aa,zp,hy]
  repeat(refine⟨by omega,?_⟩)
  refine RS ?_;rcases dz with⟨s1,s2,s3,s4⟩|⟨s1,s2⟩
  ·refine⟨⟨y,.inl ⟨s2,s4⟩⟩,by simp only;rw[if_pos s1,if_pos Df];have:=ht.y5 hw s2;omega,?_⟩;refine zq rfl ?_ ?_;simp -dsimp only[simprocAttr,↓aa,zp,zc];rfl
  refine⟨⟨y,.inr ⟨s1,s2⟩⟩,by simp only;rw[if_neg (by omega),if_pos Df];omega,?_⟩;refine zq rfl ?_ ?_;simp -dsimp only[simprocAttr,↓aa,zp,zc];rfl
 have lK:decide (0<=x)=false:=decide_eq_false (by omega);have kq:decide (a=x)=false:=decide_eq_false (by omega);refine cJ ?_;simp -dsimp only[simprocAttr,↓aa,zp,lK];refine ah ?_;refine cd rfl ?_;refine aG ?_;simp -dsimp only[bD,ne_eq,Nat.reduceEqDiff,reduceCtorEq];refine aS ?_;simp -dsimp only[simprocAttr,↓aa,zp,kq];refine ah ?_;rw[Uy];refine aq ?_;simp -dsimp only[simprocAttr,↓aa,zp,zr,Tryz.results63]
def F'(p:Int×Int):ae:=.agg [aI p.1,aI p.2]
theorem ub(n:Nat)(l:List (Int×Int)):au n (l.map F'):=by
 rw[bZ];intro x hx;obtain⟨p,_,rfl⟩:=List.mem_map.1 hx;exact⟨trivial,trivial,trivial⟩
def tz(f:Func)(k:Int)(l:List Edge):List (Int×Int):=(l.filter fun x=>ou (dn f) x.block k).map fun x=>(k,x.block)
theorem Cm{f:Func}{k:Int}{x:Edge}{l:List Edge}:tz f k (x::l)=if ou (dn f) x.block k then(k,x.block)::tz f k l else tz f k l:=by
 unfold tz;cases h:ou (dn f) x.block k<;>simp[h]
def Ib(f:Func):ae:=if aN f=0 then .cK [.aB 2 ((ig f).map F') .sh,aI 0]else .cK [.aB 2 [] .sh,aI (aN f)]
theorem Cn(f:Func)(bt:f.fit):bh Tryz.prog 37 [f.enc] (Ib f):=by
 have Jl:=nq f bt;unfold MS at Jl;unfold Ib;by_cases hc:aN f=0
 ·rw[if_pos hc]at Jl ⊢;have hg:=(cq bt hc).gr;have hw:=dk hg;have ht:=ko hg;have Ql:=HF f bt hc;have hn:f.blocks.length<=128:=hg.few;have Xf:(qH f).length<=128:=by rw[uT];exact hw.few
  have YN:∀k∈qH f,0<=cU f k:=fun k hk=>kf.1 hk;have Za:=rf hg;obtain⟨R,hR⟩:∃R,R=ig f:=⟨_,rfl⟩
  rw[<-hR]at Za ⊢;unfold ig at hR;generalize qH f=L at *;refine zf true 0 Tryz.func37 Tryz.ntmps37 ?_;dsimp only[Tmp,TypeId,slotsOf];refine ay (ah ?_);refine aA 1 0 (.ip none [aI f.name,aw f.blocks]) rfl (by simp[al.aC]) trivial rfl ?_ ?_;rotate_left;simp -dsimp only[simprocAttr,↓aa,zp]
  ·refine ay ?_;refine zi Jl ?_;refine ah ?_;refine cb (ah ?_);apply aM rfl<;>intro h
   ·cases h
   refine cm ?_;refine ay ?_;refine zi Ql ?_;refine ah ?_;refine ay (ah ?_);refine Eo 8 rfl ?_;simp -dsimp only[simprocAttr,↓aa,zp];refine cb (ah ?_);refine ai (aO (ι:={x:Nat×List (Int×Int) // x.1<=L.length∧R=x.2++(L.drop x.1).flatMap (rU f)}) (fun x=>⟨59,[(1,.ip none [aI f.name,aw f.blocks]),(6,aT (dn f)),(8,.aB 2 (x.1.2.map F') (.tok 1)),(26,aT L),(27,aI L.length),(28,aI x.1.1)],[.gone,.spare x.1.2.length]⟩) (fun x=>L.length-x.1.1) ⟨(0,[]),by simp,by simpa using hR⟩ ?_ ?_)
   ·refine zq rfl ?_ ?_;simp -dsimp only[simprocAttr,↓aa,zp,zc]
    all_goals rfl
   rintro⟨⟨i,acc⟩,hi,oz⟩;simp only at hi oz;refine ay (ah ?_);apply ib rfl<;>intro h
   ·refine cm ?_;have aZ:i<L.length:=by simpa using h
    obtain⟨k,hk⟩:∃k,L[i]?=some k:=⟨L[i],by simp[aZ]⟩
    have XL:=YN k (List.mem_of_getElem? hk);have vN:=hw.range k XL;rw[bQ hk,List.flatMap_cons,<-List.append_assoc]at oz;obtain⟨B,hB⟩:∃B,f.blocks[k.toNat]?=some B:=⟨f.blocks[k.toNat]'(by omega),List.getElem?_eq_getElem _⟩
    have BV:fY f k=B.term.to:=by simp[fY,aF,hB]
    have Xb:=List.mem_of_getElem? hB;have I9:=hg.eZ B Xb;have W9:=hg.to B Xb;have I6:rU f k=tz f k B.term.to:=by rw[<-BV];rfl
    obtain⟨A,hA⟩:∃A,A=acc++rU f k:=⟨_,rfl⟩
    rw[<-hA]at oz;rw[I6]at hA;have vJ:=ht.Cd hw XL;refine aH (ai ?_);refine aS ?_;simp -dsimp only[simprocAttr,↓aa,zp,hk];refine ah ?_;refine aS ?_;simp -dsimp only[simprocAttr,↓aa,zp,hB]
    repeat(refine⟨by omega,?_⟩)
    refine ah ?_;refine ai (aO (ι:={y:Nat×List (Int×Int) // y.1<=B.term.to.length∧A=y.2++tz f k (B.term.to.drop y.1)}) (fun y=>⟨59,[(1,.ip none [aI f.name,aw f.blocks]),(6,aT (dn f)),(8,.aB 2 (y.1.2.map F') (.tok 1)),(26,aT L),(27,aI L.length),(28,aI i),(10,aI k),(38,aE B.term.to),(39,aI B.term.to.length),(40,aI y.1.1)],[.gone,.spare y.1.2.length]⟩) (fun y=>B.term.to.length-y.1.1) ⟨(0,acc),by simp,by simpa using hA⟩ ?_ ?_)
    ·refine zq rfl ?_ ?_;simp -dsimp only[simprocAttr,↓aa,zp,zc]
     all_goals rfl
    rintro⟨⟨z,a2⟩,hz,L7⟩;simp only at hz L7;refine ay (ah ?_);apply ib rfl<;>intro h
    ·refine cm ?_;have ur:z<B.term.to.length:=by simpa using h
     obtain⟨x,hx⟩:∃x,B.term.to[z]?=some x:=⟨B.term.to[z],by simp[ur]⟩
     have ym:=I9 x (List.mem_of_getElem? hx);rw[bQ hx,Cm]at L7;have V4:=Dt hw ht.tr (a:=x.block) (b:=k) (by omega) vJ;have C1:a2.length<=33000:=by
      have h1:=congrArg List.length oz;have h2:=congrArg List.length L7;simp only[List.length_append]at h1 h2;omega
     refine aH (ai ?_);refine aS ?_;simp -dsimp only[simprocAttr,↓aa,zp,hx];refine ah ?_;show cu Tryz.prog _ _ _ ⟨_,_,[.gone,.spare a2.length]++[.cells [aI x.block,aT x.args]]⟩;refine aJ 12 ([aI x.block,aT x.args]) [(1,.ip none [aI f.name,aw f.blocks]),(6,aT (dn f)),(8,.aB 2 (a2.map F') (.tok 1)),(26,aT L),(27,aI L.length),(28,aI i),(10,aI k),(38,aE B.term.to),(39,aI B.term.to.length),(40,aI z),(12,.ip none [aI x.block,aT x.args])] (by simp[bq,aY,Go.Av.look]) (by rfl) (by omega) (by simp[bq,aY,Go.Av.look]) ?_ ?_ ?_
     ·simp[al.upto]
     ·simp[ae.upto,au,av,Edge.ag,Ins.ag,Block.ag,ub]
     refine ay ?_;refine zi V4 ?_;refine ah ?_;cases Xs:ou (dn f) x.block k with
     | true =>
      rw[if_pos Xs]at L7;refine cN rfl ?_;refine cF ?_
      repeat(refine⟨by omega,?_⟩)
      refine ah ?_;refine cF ?_
      repeat(refine⟨by omega,?_⟩)
      refine fw ?_;refine⟨⟨(z+1,a2++[(k,x.block)]),ur,by rw[L7];simp⟩,by simp;omega,?_⟩;refine zq rfl ?_ ?_;simp -dsimp only[simprocAttr,↓aa,zp,zc]
      ·exact⟨Sub.aB (by simp[F']),Sub.int (by simp)⟩
      simp
     | false =>
      rw[if_neg (by simp[Xs])]at L7;refine cd rfl ?_;refine kA ?_;refine cF ?_
      repeat(refine⟨by omega,?_⟩)
      refine fw ?_;refine⟨⟨(z+1,a2),ur,L7⟩,by simp;omega,?_⟩;refine zq rfl ?_ ?_;simp -dsimp only[simprocAttr,↓aa,zp,zc]
      ·exact Sub.int (by simp)
      rfl
    refine aG ?_;simp -dsimp only[bD,ne_eq,Nat.reduceEqDiff,reduceCtorEq];have ta:B.term.to.length<=z:=by simpa using h
    rw[List.drop_of_length_le ta]at L7;have Vg:A=a2:=by rw[L7];simp[tz]
    subst Vg;refine cF ?_
    repeat(refine⟨by omega,?_⟩)
    refine fw ?_;refine⟨⟨(i+1,A),aZ,oz⟩,by simp;omega,?_⟩;refine zq rfl ?_ ?_;simp -dsimp only[simprocAttr,↓aa,zp,zc]
    ·exact Sub.int (by simp)
    rfl
   refine aG ?_;simp -dsimp only[bD,ne_eq,Nat.reduceEqDiff,reduceCtorEq];have PT:L.length<=i:=by simpa using h
   rw[List.drop_of_length_le PT]at oz;have Py:R=acc:=by rw[oz];simp
   subst Py;refine ay (ah ?_);refine aq ?_;simp -dsimp only[simprocAttr,↓aa,zp,zr,Tryz.results37];exact⟨⟨ub _ _,trivial⟩,trivial,trivial⟩
  exact bT.mp rfl rfl
 rw[if_neg hc]at Jl ⊢;obtain⟨e,he⟩:∃e,e=aN f:=⟨_,rfl⟩
 rw[<-he]at hc Jl ⊢;have m5:decide (e=0)=false:=decide_eq_false hc;refine zf true 0 Tryz.func37 Tryz.ntmps37 ?_;dsimp only[Tmp,TypeId,slotsOf];refine ay (ah ?_);refine aA 1 0 (.ip none [aI f.name,aw f.blocks]) rfl (by simp[al.aC]) trivial rfl ?_ ?_;rotate_left;simp -dsimp only[simprocAttr,↓aa,zp]
 ·refine ay ?_;refine zi Jl ?_;refine ah ?_;refine cJ ?_;simp -dsimp only[simprocAttr,↓aa,zp,m5];refine ah ?_;refine cN rfl ?_;refine ay (ah ?_);refine aq ?_;simp -dsimp only[simprocAttr,↓aa,zp,zr,Tryz.results37];simp[au,ae.upto]
 exact bT.mp rfl rfl
theorem G5{O:List al}(br:∀o∈O,o.upto O.length){id:Nat}{l:List aX}(ho:O[id]?=some (.cells (jU l)))(yh:l.length<=1000)(mH:∀x∈l,x.parent=-1) :
  ba Tryz.prog 41 O [.os id l.length 3] (fun r O'=>r=.cK []∧O'=O.set id (.cells (jU (ni l)))):=by
 have ES:=I ho;have fB:O.set id (.cells (jU l))=O:=jw ho;have EM:∀x,(O.set id x)[id]?=some x:=fun x=>List.getElem?_set_self ES;have Zs:∀x Z,(O.set id x++Z)[id]?=some x:=fun x Z=>cj (EM x);have jH:∀m:List aX,(O.set id (.cells (jU m))).take O.length=O.set id (.cells (jU m)):=fun m=>bX;have eS:∀m:List aX,∀o∈O.set id (.cells (jU m)),o.upto O.length:=fun m=>bR br (uA _ _);have Tb:∀x,(O.set id x).length=O.length:=fun x=>by simp
 have vU:∀m:List aX,∀o∈O.set id (.cells (jU m)),o.upto (O.set id (.cells (jU m))).length:=fun m=>by rw[Tb];exact eS m
 have h0:jB l l:=⟨rfl,fun x hx=>by
  have:=mH x hx;omega⟩
 obtain⟨R,hR⟩:∃R,R=ni l:=⟨_,rfl⟩
 unfold ni at hR;obtain⟨n,hn⟩:∃n,n=l.length:=⟨_,rfl⟩
 have Oo:ni l=R:=by rw[hR];rfl
 rw[Oo,<-hn];rw[<-hn]at hR;refine zf true O.length Tryz.func41 Tryz.ntmps41 ?_;dsimp only[Tmp,TypeId,slotsOf];refine ay (ah ?_);refine ai (aO (ι:={x:Nat×List aX // x.1<=n∧jB l x.2∧R=A3 n (n-x.1) x.1 x.2}) (fun x=>⟨58,[(0,.os id n 3),(7,aI n),(8,aI x.1.1)],O.set id (.cells (jU x.1.2))⟩) (fun x=>n-x.1.1) ⟨(0,l),by simp,h0,by simpa using hR⟩ ?_ ?_)
 ·refine zq rfl ?_ ?_;simp -dsimp only[simprocAttr,↓aa,zp,zc];exact fB.symm
 rintro⟨⟨i,m⟩,hi,lp,oz⟩;simp only at hi lp oz;refine ay (ah ?_);apply ib rfl<;>intro h
 ·refine cm ?_;have aZ:i<n:=by simpa using h
  obtain⟨M,hM⟩:∃M,M=xd i n 0 m:=⟨_,rfl⟩
  have Py:R=A3 n (n-(i+1)) (i+1) M:=by
   rw[oz,show n-i=(n-(i+1))+1 by omega,hM];rfl
  have Vm:jB l M:=by rw[hM];exact uB i n 0 lp (by omega)
  refine aH (ai ?_);refine ay (ah ?_);refine ay (ah ?_);refine ai (aO (ι:={y:Nat×List aX // y.1<=n∧jB l y.2∧M=xd i (n-y.1) y.1 y.2}) (fun y=>⟨58,[(0,.os id n 3),(7,aI n),(8,aI i),(2,aI i),(11,.os id n 3),(12,aI n),(13,aI y.1.1)],O.set id (.cells (jU y.1.2))⟩) (fun y=>n-y.1.1) ⟨(0,m),by simp,lp,by simpa using hM⟩ ?_ ?_)
  ·refine zq rfl ?_ ?_;simp -dsimp only[simprocAttr,↓aa,zp,zc];rfl
  rintro⟨⟨k,c⟩,hk,K7,Vk⟩;simp only at hk K7 Vk;have gA:=K7.len;refine ay (ah ?_);apply ib rfl<;>intro h
  ·refine cm ?_;have Td:k<n:=by simpa using h
   have C2:M=xd i (n-(k+1)) (k+1) (lz c i k):=by
    rw[Vk,show n-k=(n-(k+1))+1 by omega];rfl
   have bJ:=sj K7 i k (by omega);obtain⟨b,hb⟩:∃b,c[k]?=some b:=⟨c[k]'(by omega),List.getElem?_eq_getElem _⟩
   obtain⟨a,ha⟩:∃a,c[i]?=some a:=⟨c[i]'(by omega),List.getElem?_eq_getElem _⟩
   obtain⟨b1,b2,b3,b4⟩:=Du hb;obtain⟨a1,a2,a3,a4⟩:=Du ha;have EI:(jU c).length=n*3:=by rw[n5];omega
   have pM:=K7.2 a (List.mem_of_getElem? ha);have gh:=MF ha (k:Int);have Ov:=iZ b.blocks a.head;have sQ:lz c i k=if k=i∨dK b.blocks a.head=false then c else if a.parent<0∨b.blocks.length<((c[a.parent.toNat]?.map fun y=>y.blocks.length).getD 0)then c.set i ⟨a.head,a.blocks,k⟩else c:=by
    simp only[lz,ha,hb]
   refine aH (ai ?_);refine aS ?_;simp -dsimp only[simprocAttr,↓aa,zp,EM,EI,b4]
   repeat(refine⟨by omega,?_⟩)
   refine ah ?_;refine aJ 4 ([aI b.head,aT b.blocks,aI b.parent]) [(0,.os id n 3),(7,aI n),(8,aI i),(2,aI i),(11,.os id n 3),(12,aI n),(13,aI k),(3,aI k),(4,.ip none [aI b.head,aT b.blocks,aI b.parent])] (by simp[bq,aY,Go.Av.look]) (by rfl) (by simp) (by simp[bq,aY,Go.Av.look]) ?_ ?_ ?_
   ·exact vU c
   ·simp[ae.upto,au,av,ES]
   by_cases Rx:k=i
   ·have hd:decide ((k:Int)=(i:Int))=true:=decide_eq_true (by omega);rw[if_pos (.inl Rx)]at sQ;refine cJ ?_;simp -dsimp only[simprocAttr,↓aa,zp,hd];refine⟨ob (by kernel_rfl),?_⟩;refine ah ?_;refine cN rfl ?_;refine aG ?_;simp -dsimp only[bD,ne_eq,Nat.reduceEqDiff,reduceCtorEq];refine cF ?_
    repeat(refine⟨by omega,?_⟩)
    refine fw ?_;refine⟨⟨(k+1,c),Td,K7,by rw[C2,sQ]⟩,by simp;omega,?_⟩;refine zq rfl ?_ ?_;simp -dsimp only[simprocAttr,↓aa,zp,zc]
    ·exact Sub.int (by simp)
    rfl
   have hd:decide ((k:Int)=(i:Int))=false:=decide_eq_false (by omega);refine cJ ?_;simp -dsimp only[simprocAttr,↓aa,zp,hd,EM,EI,a1,b2]
   repeat(refine⟨by omega,?_⟩)
   refine .inl ⟨_,Ov,by simp only[au,ae.upto,zt,zu,av,uA],an ?_⟩;simp -dsimp only[simprocAttr,↓aa,zp];refine⟨bN [id] O.length [.pure,.pure,.pure,.pure,.pure,.pure,.pure,.pure,.pure,.pure,.rd 0,.pure,.pure,.pure] (by simp) (by simp;omega) rfl rfl (by kernel_rfl),aV ?_⟩;simp -dsimp only[bD,ne_eq,Nat.reduceEqDiff,reduceCtorEq];cases hh:dK b.blocks a.head with
   | false =>
    rw[if_pos (.inr hh)]at sQ;refine cN rfl ?_;refine aG ?_;simp -dsimp only[bD,ne_eq,Nat.reduceEqDiff,reduceCtorEq];refine cF ?_
    repeat(refine⟨by omega,?_⟩)
    refine fw ?_;refine⟨⟨(k+1,c),Td,K7,by rw[C2,sQ]⟩,by simp;omega,?_⟩;refine zq rfl ?_ ?_;simp -dsimp only[simprocAttr,↓aa,zp,zc]
    ·exact Sub.int (by simp)
    rfl
   | true =>
    rw[if_neg (by simp[Rx,hh])]at sQ;apply aM rfl<;>intro h
    ·cases h
    refine cm ?_;refine aS ?_;simp -dsimp only[simprocAttr,↓aa,zp,EM,EI,a3]
    repeat(refine⟨by omega,?_⟩)
    refine ah ?_;by_cases hp:a.parent<0
    ·have EJ:decide (a.parent<0)=true:=decide_eq_true hp;rw[if_pos (.inl hp)]at sQ;rw[sQ]at bJ C2;refine aS ?_;simp -dsimp only[simprocAttr,↓aa,zp,EJ];refine⟨ob (by kernel_rfl),?_⟩;refine ah ?_;refine cN rfl ?_;refine j4 ?_;simp -dsimp only[simprocAttr,↓aa,zp,EM,EI]
     repeat(refine⟨by omega,?_⟩)
     refine ah ?_;rw[gh,List.set_set];refine cF ?_
     repeat(refine⟨by omega,?_⟩)
     refine fw ?_;refine⟨⟨(k+1,c.set i ⟨a.head,a.blocks,k⟩),Td,bJ,C2⟩,by simp;omega,?_⟩;refine zq rfl ?_ ?_;simp -dsimp only[simprocAttr,↓aa,zp,zc]
     ·exact Sub.int (by simp)
     rfl
    have EJ:decide (a.parent<0)=false:=decide_eq_false hp;obtain⟨q,hq⟩:∃q:Nat,a.parent=(q:Int):=⟨a.parent.toNat,by omega⟩
    have hqn:q<n:=by omega
    obtain⟨pp,TE⟩:∃pp,c[q]?=some pp:=⟨c[q]'(by omega),List.getElem?_eq_getElem _⟩
    obtain⟨p1,p2,p3,p4⟩:=Du TE;have ZE:((c[a.parent.toNat]?.map fun y=>y.blocks.length).getD 0)=pp.blocks.length:=by
     rw[hq,Int.toNat_natCast,TE];rfl
    rw[ZE]at sQ;rw[hq]at EJ;refine aS ?_;simp -dsimp only[simprocAttr,↓aa,zp,EJ,EM,EI,hq,p2]
    repeat(refine⟨by omega,?_⟩)
    refine⟨bN [id] O.length [.pure,.pure,.pure,.pure,.pure,.pure,.pure,.pure,.pure,.pure,.rd 0,.pure,.pure,.pure] (by simp) (by simp;omega) rfl rfl (by kernel_rfl),aV ?_⟩;simp -dsimp only[bD,ne_eq,Nat.reduceEqDiff,reduceCtorEq];apply aM rfl<;>intro h
    ·have AG:b.blocks.length<pp.blocks.length:=by
      have:=of_decide_eq_true h;omega
     rw[if_pos (.inr AG)]at sQ;rw[sQ]at bJ C2;refine j4 ?_;simp -dsimp only[simprocAttr,↓aa,zp,EM,EI]
     repeat(refine⟨by omega,?_⟩)
     refine ah ?_;rw[gh,List.set_set];refine cF ?_
     repeat(refine⟨by omega,?_⟩)
     refine fw ?_;refine⟨⟨(k+1,c.set i ⟨a.head,a.blocks,k⟩),Td,bJ,C2⟩,by simp;omega,?_⟩;refine zq rfl ?_ ?_;simp -dsimp only[simprocAttr,↓aa,zp,zc]
     ·exact Sub.int (by simp)
     rfl
    have AG:¬b.blocks.length<pp.blocks.length:=by
     have:=of_decide_eq_false h;omega
    rw[if_neg (by omega)]at sQ;refine kA ?_;refine cF ?_
    repeat(refine⟨by omega,?_⟩)
    refine fw ?_;refine⟨⟨(k+1,c),Td,K7,by rw[C2,sQ]⟩,by simp;omega,?_⟩;refine zq rfl ?_ ?_;simp -dsimp only[simprocAttr,↓aa,zp,zc]
    ·exact Sub.int (by simp)
    rfl
  refine aG ?_;simp -dsimp only[bD,ne_eq,Nat.reduceEqDiff,reduceCtorEq];have ZA:k=n:=by
   have:=of_decide_eq_false h;omega
  subst ZA;have YQ:M=c:=by rw[Vk,Nat.sub_self];rfl
  subst YQ;refine cF ?_
  repeat(refine⟨by omega,?_⟩)
  refine fw ?_;refine⟨⟨(i+1,M),aZ,Vm,Py⟩,by simp;omega,?_⟩;refine zq rfl ?_ ?_;simp -dsimp only[simprocAttr,↓aa,zp,zc]
  ·exact Sub.int (by simp)
  rfl
 refine aG ?_;simp -dsimp only[bD,ne_eq,Nat.reduceEqDiff,reduceCtorEq];have r6:i=n:=by
  have:=of_decide_eq_false h;omega
 subst r6;have YX:R=m:=by rw[oz,Nat.sub_self];rfl
 subst YX
 skip
 simp -dsimp only[simprocAttr,↓aa,zp,zr,Tryz.results41,jH,List.length_set];exact⟨eS _,trivial⟩
theorem JD:bh Tryz.prog 41 [.aB 3 [] .sh] (.cK []):=by
 refine zf true 0 Tryz.func41 Tryz.ntmps41 ?_;dsimp only[Tmp,TypeId,slotsOf];refine ay (ah ?_);refine ai (aO (ι:=Unit) (fun x=>⟨58,[(7,aI 0),(8,aI 0)],[]⟩) (fun x=>0) () ?_ ?_)
 ·refine zq rfl ?_ ?_;simp -dsimp only[simprocAttr,↓aa,zp,zc];rfl
 rintro⟨⟩;refine ay (ah ?_);refine Yp rfl ?_;refine aG ?_;simp -dsimp only[bD,ne_eq,Nat.reduceEqDiff,reduceCtorEq]
 skip
 simp -dsimp only[simprocAttr,↓aa,zp,zr,Tryz.results41];trivial
def EC(f:Func):ae:=if aN f=0 then .cK [.aB 3 ((cS f).map fO) .sh,aI 0]else .cK [.aB 3 [] .sh,aI (aN f)]
structure Fs where
 h:Nat
 acc:List aX
 oid:Nat
 O:List al
structure Fw where
 z:Nat
 w:List Int
 wid:Nat
 O:List al
structure Fz where
 S:Wl
 wid:Nat
 wy:Nat
 O:List al
 qx:List ae
theorem Hb(wid:Nat)(w:List Int){O:List al}(h:w≠[]->O[wid]?=some (.cells (w.map aI))):(pv wid w).upto O.length:=by
 by_cases q:w=[]
 ·rw[show pv wid w=.aB 1 [] .ex from if_pos q];exact⟨trivial,trivial⟩
 rw[show pv wid w=.os wid w.length 1 from if_neg q];exact I (h q)
theorem xh(n:Nat)(w:List Int)(x:Int):pv n (w++[x])=.os n (w.length+1) 1:=by
 have:w++[x]≠[]:=by simp
 rw[pv,if_neg this,List.length_append];rfl
theorem find_spec(f:Func)(bt:f.fit):bh Tryz.prog 13 [f.enc] (EC f):=by
 have I6:=Cn f bt;unfold Ib at I6;unfold EC;by_cases hc:aN f=0
 ·rw[if_pos hc]at I6 ⊢;have Jl:=nq f bt;have lr:=pA f bt;unfold MS at Jl;unfold uR at lr;rw[if_pos hc]at Jl lr;have hg:=(cq bt hc).gr;have hw:=dk hg;have hn:f.blocks.length<=128:=hg.few;have Xf:(qH f).length<=128:=by rw[uT];exact hw.few
  have YO:=yQ (bz f);have Vj:qH f≠[]:=List.ne_nil_of_mem (kf.2 (by rw[hw.zero];omega:0<=cU f 0));have UB:=fun k=>xO Vj (by omega) YO k;have Rm:=rf hg;have YE:∀p∈ig f,0<=p.1∧p.1<f.blocks.length:=fun p hp=>hw.range p.1 (w9.1 (show(p.1,p.2)∈ig f from hp)).1;obtain⟨N,hN⟩:∃N,N=f.blocks.length:=⟨_,rfl⟩
  obtain⟨L,hL⟩:∃L,L=qH f:=⟨_,rfl⟩
  obtain⟨B,hB⟩:∃B,B=ig f:=⟨_,rfl⟩
  obtain⟨R,hR⟩:∃R,R=sS f:=⟨_,rfl⟩
  have hZ:cS f=ni R:=by rw[hR];rfl
  rw[hZ];have Wu:∀h:Int,iG f h=((B.filter fun p=>decide (p.2=h)).map (·.1)):=fun h=>by rw[hB];rfl
  have Jo:=fun h z p (hp:B[z]?=some p)=>D7 (f:=f) (h:=h) (z:=z) (p:=p) (by rw[<-hB];exact hp);rw[<-hB]at Jo I6 Rm YE;rw[<-hL]at Jl UB Vj Xf;unfold sS at hR;rw[<-hN]at hR hn;have Wh:=rK f;refine zf true 0 Tryz.func13 Tryz.ntmps13 ?_;dsimp only[Tmp,TypeId,slotsOf];refine ay (ah ?_);refine aA 1 0 (.ip none [aI f.name,aw f.blocks]) rfl (by simp[al.aC]) trivial rfl ?_ ?_;rotate_left;simp -dsimp only[simprocAttr,↓aa,zp]
  ·refine ay ?_;refine zi I6 ?_;refine ah ?_;refine cb (ah ?_);apply aM rfl<;>intro h
   ·cases h
   refine cm ?_;refine ay ?_;refine zi Jl ?_;refine ah ?_;refine ay ?_;refine zi lr ?_;refine ah ?_;refine ay (ah ?_);refine cJ ?_;simp -dsimp only[simprocAttr,↓aa,zp,<-hN];refine ah ?_;refine ai (aO (ι:={X:Fs // X.h<=N∧FO X.acc X.oid X.O∧X.acc.length<=X.h∧(∀x∈X.acc,x.parent=-1)∧R=X.acc++((List.range N).drop X.h).flatMap (yC f)}) (fun X=>⟨113,[(1,.ip none [aI f.name,aw f.blocks]),(4,.aB 2 (B.map F') .sh),(6,aT L),(8,.aB 1 ((dj f).map aT) .sh),(10,v7 X.1.oid X.1.acc),(39,aI N),(40,aI X.1.h)],X.1.O⟩) (fun X=>N-X.1.h) ⟨⟨0,[],0,[.gone]⟩,by simp,⟨by simp[al.upto],fun q=>absurd rfl q⟩,by simp,by simp,by simpa using hR⟩ ?_ ?_)
   ·refine zq rfl ?_ ?_;simp -dsimp only[simprocAttr,↓aa,zp,zc]
    all_goals first|rfl|exact Sub.refl _
   rintro⟨⟨hd,acc,oid,O⟩,hh,hF,jK,mH,oz⟩;simp only at hh hF jK mH oz;refine ay (ah ?_);apply ib rfl<;>intro h
   ·refine cm ?_;have aZ:hd<N:=by simpa using h
    have Wm:(List.range N)[hd]?=some hd:=by simp[aZ]
    rw[bQ Wm,List.flatMap_cons,<-List.append_assoc]at oz;have qw:=Wu (hd:Int);obtain⟨src,De⟩:∃src,src=iG f (hd:Int):=⟨_,rfl⟩
    have RF:=FH hg (hd:Int);rw[<-De]at qw RF;have Mg:=Jo (hd:Int);refine aH (ai ?_);refine ay (ah ?_);refine ay (ah ?_);refine cb (ah ?_);refine ai (aO (ι:={y:Fw // y.z<=B.length∧FO acc oid y.O∧(y.w≠[]->y.O[y.wid]?=some (.cells (y.w.map aI))∧(acc≠[]->y.wid≠oid))∧src=y.w++(((B.drop y.z).filter fun p=>decide (p.2=(hd:Int))).map (·.1))}) (fun y=>⟨113,[(1,.ip none [aI f.name,aw f.blocks]),(4,.aB 2 (B.map F') .sh),(6,aT L),(8,.aB 1 ((dj f).map aT) .sh),(10,v7 oid acc),(39,aI N),(40,aI hd),(11,aI hd),(12,pv y.1.wid y.1.w),(43,.aB 2 (B.map F') .sh),(44,aI B.length),(45,aI y.1.z)],y.1.O⟩) (fun y=>B.length-y.1.z) ⟨⟨0,[],0,O⟩,by simp,hF,fun q=>absurd rfl q,by simpa using qw⟩ ?_ ?_)
    ·refine zq rfl ?_ ?_;simp -dsimp only[simprocAttr,↓aa,zp,zc]
     all_goals first|rfl|exact Sub.refl _
    rintro⟨⟨z,w,wid,O⟩,hz,hF,T3,zb⟩;simp only at hz hF T3 zb;refine ay (ah ?_);apply ib rfl<;>intro h
    ·refine cm ?_;have ur:z<B.length:=by simpa using h
     obtain⟨p,hp⟩:∃p,B[z]?=some p:=⟨B[z],by simp[ur]⟩
     rw[Mg z p hp,<-List.append_assoc]at zb;have hwl:w.length<=33000:=by
      have:=congrArg List.length zb;simp only[List.length_append]at this;omega
     refine aH (ai ?_);refine aS ?_;simp -dsimp only[simprocAttr,↓aa,zp,hp,F'];refine ah ?_;refine aJ 14 ([aI p.1,aI p.2]) [(1,.ip none [aI f.name,aw f.blocks]),(4,.aB 2 (B.map F') .sh),(6,aT L),(8,.aB 1 ((dj f).map aT) .sh),(10,v7 oid acc),(39,aI N),(40,aI hd),(11,aI hd),(12,pv wid w),(43,.aB 2 (B.map F') .sh),(44,aI B.length),(45,aI z),(14,.ip none [aI p.1,aI p.2])] (by simp[bq,aY,Go.Av.look]) (by rfl) (by omega) (by simp[bq,aY,Go.Av.look]) ?_ ?_ ?_
     ·exact hF.up
     ·have UN:=hF.aaa;have oC:=Hb wid w (O:=O) fun q=>(T3 q).1;simp[ae.upto,au,av,ub,Ga,Edge.ag,Ins.ag,Block.ag,UN,oC]
     by_cases Lg:p.2=hd
     ·have EJ:decide (p.2=(hd:Int))=true:=decide_eq_true Lg;rw[if_pos Lg]at zb;refine aS ?_;simp -dsimp only[simprocAttr,↓aa,zp,EJ];refine ah ?_;refine cN rfl ?_;by_cases T2:w=[]
      ·have jL:pv wid w=.aB 1 [] .ex:=if_pos T2;refine Oa ?_;simp -dsimp only[simprocAttr,↓aa,zp,jL,dG,dC];refine ah ?_;refine cF ?_
       repeat(refine⟨by omega,?_⟩)
       refine fw ?_;refine⟨⟨⟨z+1,w++[p.1],O.length,O++[al.cells [aI p.1]]⟩,ur,hF.push ⟨trivial,trivial⟩,fun _=>⟨by rw[T2];exact eK _ _,fun q e=>?_⟩,zb⟩,by simp;omega,?_⟩
       ·have h1:=I (hF.out q);have h2:O.length=oid:=e;omega
       refine zq rfl ?_ ?_;simp -dsimp only[simprocAttr,↓aa,zp,zc]
       ·exact⟨by rw[xh,T2];exact Sub.refl _,Sub.int (by simp)⟩
       rfl
      obtain⟨w1,w2⟩:=T3 T2;have jL:pv wid w=.os wid w.length 1:=if_neg T2;have EG:(w.map aI).take (w.length*1)=w.map aI:=List.take_of_length_le (by simp);have EM:(O.set wid .gone++[al.cells (w.map aI++[aI p.1])])[O.length]?=some (.cells ((w++[p.1]).map aI)):=by
       have h1:=eK (O.set wid .gone) (al.cells (w.map aI++[aI p.1]));rw[List.length_set]at h1;rw[h1,List.map_append];rfl
      refine j4 ?_;simp -dsimp only[simprocAttr,↓aa,zp,jL,w1,dG,dC,EG]
      repeat(refine⟨by omega,?_⟩)
      refine ah ?_;refine cF ?_
      repeat(refine⟨by omega,?_⟩)
      refine fw ?_;refine⟨⟨⟨z+1,w++[p.1],O.length,O.set wid .gone++[al.cells (w.map aI++[aI p.1])]⟩,ur,hF.move w2 ?_,fun _=>⟨EM,fun q e=>?_⟩,zb⟩,by simp;omega,?_⟩
      ·have:=av (O.length+1) (w++[p.1]);simpa using this
      ·have h1:=I (hF.out q);have h2:O.length=oid:=e;omega
      refine zq rfl ?_ ?_;simp -dsimp only[simprocAttr,↓aa,zp,zc]
      ·exact⟨by rw[xh];exact Sub.refl _,Sub.int (by simp)⟩
      rfl
     have EJ:decide (p.2=(hd:Int))=false:=decide_eq_false Lg;rw[if_neg Lg,List.append_nil]at zb;refine aS ?_;simp -dsimp only[simprocAttr,↓aa,zp,EJ];refine ah ?_;refine cd rfl ?_;refine kA ?_;refine cF ?_
     repeat(refine⟨by omega,?_⟩)
     refine fw ?_;refine⟨⟨⟨z+1,w,wid,O⟩,ur,hF,T3,zb⟩,by simp;omega,?_⟩;refine zq rfl ?_ ?_;simp -dsimp only[simprocAttr,↓aa,zp,zc]
     ·exact Sub.int (by simp)
     rfl
    refine aG ?_;simp -dsimp only[bD,ne_eq,Nat.reduceEqDiff,reduceCtorEq];have ta:B.length<=z:=by
     have:=of_decide_eq_false h;omega
    rw[List.drop_of_length_le ta]at zb;have ZV:src=w:=by rw[zb];simp
    subst ZV;by_cases MA:src=[]
    ·have jL:pv wid src=.aB 1 [] .ex:=if_pos MA;have pk:yC f hd=[]:=if_pos (by rw[<-De];exact MA);rw[pk,List.append_nil]at oz;refine cJ ?_;simp -dsimp only[simprocAttr,↓aa,zp,jL];refine ah ?_;refine cN rfl ?_;refine aG ?_;simp -dsimp only[bD,ne_eq,Nat.reduceEqDiff,reduceCtorEq];refine cF ?_
     repeat(refine⟨by omega,?_⟩)
     refine fw ?_;refine⟨⟨⟨hd+1,acc,oid,O⟩,aZ,hF,by simp only;omega,mH,oz⟩,by simp;omega,?_⟩;refine zq rfl ?_ ?_;simp -dsimp only[simprocAttr,↓aa,zp,zc]
     ·exact Sub.int (by simp)
     rfl
    obtain⟨w1,w2⟩:=T3 MA;have jL:pv wid src=.os wid src.length 1:=if_neg MA;have pk:yC f hd=[⟨hd,gW (iF f hd),-1⟩]:=if_neg (by rw[<-De];exact MA);rw[pk]at oz;have pN:0<src.length:=List.length_pos_iff.2 MA;have lZ:decide ((src.length:Int)=0)=false:=decide_eq_false (by omega);refine cJ ?_;simp -dsimp only[simprocAttr,↓aa,zp,jL,lZ];refine ah ?_;apply aM rfl<;>intro h
    ·cases h
    refine cm ?_;refine aH (oX ⟨false,false⟩ hT 1 rfl rfl rfl (by simp) ?_);simp -dsimp only[simprocAttr,↓aa,zp];refine AX hT rfl rfl (by simp) rfl rfl rfl (by simp) rfl (by intro p hp;simp at hp;subst hp;trivial) rfl rfl (by intro x hx;simp at hx;subst hx;rfl) (by simp) (by simp) ?_;simp -dsimp only[simprocAttr,↓aa,zp];refine ah ?_;have Zu:0<=(hd:Int)∧(hd:Int)<f.blocks.length:=⟨by omega,by omega⟩
    obtain⟨s1,s2⟩:=xc hg Zu;rw[<-De]at s1 s2;have YG:FO acc oid (O++[al.cells (ao [aI (hd:Int)])]):=hF.push ⟨trivial,trivial⟩;have RJ:∀(S:Wl),vq f (hd:Int) src S->∀k∈S.work,0<=cU f k->bB f k≠[]:=fun S hS k h1 h2=>K2 hg (h:=(hd:Int)) (by rw[<-De];exact MA) (by rw[<-De];exact hS) h1 h2;have V6:iF f (hd:Int)=(nE f 10000000 ⟨src,[(hd:Int)]⟩).all:=by rw[De];rfl
    have g1:(O++[al.cells (ao [aI (hd:Int)])])[wid]?=some (.cells (src.map aI++[])):=by
     rw[List.append_nil];exact cj w1
    have g2:(O++[al.cells (ao [aI (hd:Int)])])[O.length]?=some (.cells ([(hd:Int)].map aI)):=eK _ _;have Z1:=I w1;refine aH (ai (aO (ι:={y:Fz // vq f hd src y.S∧FO acc oid y.O∧y.O[y.wid]?=some (.cells (y.S.work.map aI++y.qx))∧y.O[y.wy]?=some (.cells (y.S.all.map aI))∧(acc≠[]->y.wid≠oid∧y.wy≠oid)∧y.wid≠y.wy∧∃n,y.S.weight f<n∧n<=10000000∧iF f hd=(nE f n y.S).all}) (fun y=>⟨113,[(1,.ip none [aI f.name,aw f.blocks]),(4,.aB 2 (B.map F') .sh),(6,aT L),(8,.aB 1 ((dj f).map aT) .sh),(10,v7 oid acc),(39,aI N),(40,aI hd),(11,aI hd),(12,.os y.1.wid y.1.S.work.length 1),(15,.os y.1.wy y.1.S.all.length 1)],y.1.O⟩) (fun y=>y.1.S.weight f) ⟨⟨⟨src,[(hd:Int)]⟩,wid,O.length,_,[]⟩,s1,YG,g1,g2,fun q=>⟨w2 q,by have:=I (hF.out q);simp only;omega⟩,by simp only;omega,10000000,s2,Nat.le_refl _,V6⟩ ?_ ?_))
    ·refine zq rfl ?_ ?_;simp -dsimp only[simprocAttr,↓aa,zp,zc]
     all_goals rfl
    rintro⟨⟨S,wid,wy,O,qx⟩,hS,hF,k1,k2,k3,k4,n,BT,HR,bI⟩;simp only at hS hF k1 k2 k3 k4 BT HR bI;by_cases yl:S.work=[]
    ·have PX:S.work.length=0:=by rw[yl];rfl
     rw[Eh yl]at bI;refine cJ ?_;simp -dsimp only[simprocAttr,↓aa,zp,PX];refine ah ?_;refine cd rfl ?_;refine aG ?_;simp -dsimp only[bD,ne_eq,Nat.reduceEqDiff,reduceCtorEq];have XB:=hS.few;have Li:=xz (O:=O) (id:=wy) (zs:=S.all) k2 (by omega);have h3:(O.set wy (.cells ((gW S.all).map aI)))[wy]?=some (.cells ((gW S.all).map aI)):=lP k2;have pN:=(kn S.all).length_eq;rw[bI]at oz;refine ay ?_;refine .inr (.inl ⟨_,_,Li,.inl (an (zj ?_))⟩);refine ah ?_;refine aA 15 wy (o:=.cells ((gW S.all).map aI)) (aT (gW S.all)) h3 (by simp[al.aC]) trivial rfl (bT.os (cs:=(gW S.all).map aI) h3 ?_ ?_ ?_) ?_
     ·intro x hx;obtain⟨c,_,rfl⟩:=List.mem_map.1 hx;rfl
     ·simp[pN]
     ·rw[List.drop_zero,List.take_of_length_le (by simp[pN])];exact kC _
     simp -dsimp only[simprocAttr,↓aa,zp,List.set_set];have Vi:FO acc oid (O.set wy .gone):=hF.set (fun q=>(k3 q).2) trivial;have Je:(O.set wy al.gone).length=O.length:=by simp
     generalize O.set wy al.gone=O3 at *;obtain⟨ss,OQ⟩:∃ss,ss=gW S.all:=⟨_,rfl⟩
     rw[<-OQ]at oz ⊢;by_cases Sx:acc=[]
     ·have jL:v7 oid acc=.aB 3 [] .ex:=if_pos Sx;refine Oa ?_;simp -dsimp only[simprocAttr,↓aa,zp,jL,dC];refine ah ?_;refine cF ?_
      repeat(refine⟨by omega,?_⟩)
      refine fw ?_;refine⟨⟨⟨hd+1,acc++[⟨hd,ss,-1⟩],O3.length,O3++[al.cells (aX.cells ⟨hd,ss,-1⟩)]⟩,aZ,⟨?_,fun _=>?_⟩,by simp;omega,fun x hx=>?_,by rw[oz]⟩,by simp;omega,?_⟩
      ·exact(Vi.push (cs:=aX.cells ⟨hd,ss,-1⟩) ⟨trivial,⟨av _ _,trivial⟩,trivial,trivial⟩).up
      ·rw[Sx];exact eK _ _
      ·rcases List.mem_append.1 hx with q|q
       ·exact mH x q
       simp only[List.mem_singleton]at q;rw[q]
      refine zq rfl ?_ ?_;simp -dsimp only[simprocAttr,↓aa,zp,zc]
      ·exact⟨by rw[xg,Sx];exact Sub.refl _,Sub.int (by simp)⟩
      rfl
     have jL:v7 oid acc=.os oid acc.length 3:=if_neg Sx;have ho:=Vi.out Sx;have Y1:(jU acc).take (acc.length*3)=jU acc:=List.take_of_length_le (by rw[n5];omega);refine j4 ?_;simp -dsimp only[simprocAttr,↓aa,zp,jL,ho,Y1,dC];refine⟨by rw[n5];omega,by omega,by omega,?_⟩;refine ah ?_;refine cF ?_
     repeat(refine⟨by omega,?_⟩)
     refine fw ?_;refine⟨⟨⟨hd+1,acc++[⟨hd,ss,-1⟩],O3.length,O3.set oid .gone++[al.cells (jU acc++aX.cells ⟨hd,ss,-1⟩)]⟩,aZ,⟨?_,fun _=>?_⟩,by simp;omega,fun x hx=>?_,by rw[oz]⟩,by simp;omega,?_⟩
     ·have br:=pH (x:=al.cells (jU acc++aX.cells ⟨hd,ss,-1⟩)) (bR (k:=oid) (x:=.gone) (fun o ho=>al.cE (show O3.length<=O3.length+1 by omega) (Vi.up o ho)) trivial) (by
       have h1:=uA (O3.length+1) (acc++[⟨hd,ss,-1⟩]);rw[AS]at h1;exact h1)
      intro o ho;have:=br o ho;simpa using this
     ·have h1:=eK (O3.set oid .gone) (al.cells (jU acc++aX.cells ⟨hd,ss,-1⟩));rw[List.length_set]at h1;rw[AS];exact h1
     ·rcases List.mem_append.1 hx with q|q
      ·exact mH x q
      simp only[List.mem_singleton]at q;rw[q]
     refine zq rfl ?_ ?_;simp -dsimp only[simprocAttr,↓aa,zp,zc]
     ·exact⟨by rw[xg];exact Sub.refl _,Sub.int (by simp)⟩
     rfl
    obtain⟨n,rfl⟩:∃n',n=n'+1:=⟨n-1,by omega⟩
    have Dc:iF f hd=(nE f n (nF f S)).all:=by
     rw[bI];simp only[nE];rw[if_neg (by simpa using yl)]
    have bJ:=rP hg hS;have RK:=oT hg hS yl;obtain⟨k,hk⟩:∃k,S.work.getLast?=some k:=⟨S.work.getLast yl,List.getLast?_eq_some_getLast yl⟩
    have yg:=kV hk;obtain⟨r,hr⟩:∃r,r=S.work.dropLast:=⟨_,rfl⟩
    rw[<-hr]at yg;have PW:k∈S.work:=by rw[yg];simp
    have vN:=hS.wk k PW;have yh:S.work.length=r.length+1:=by rw[yg];simp
    have HU:S.work.length<=10000000:=by
     simp only[Wl.weight]at BT;omega
    have yd:=hS.few;have HT:((r.length+1:Nat):Int)-1=(r.length:Nat):=by omega
    obtain⟨cs,gn⟩:∃cs,cs=S.work.map aI++qx:=⟨_,rfl⟩
    have Gv:cs=r.map aI++(aI k::qx):=by rw[gn,yg];simp
    have Mh:cs[r.length]?=some (aI k):=by
     rw[Gv,List.getElem?_append_right (by simp)];simp
    have gA:r.length+1<=cs.length:=by rw[Gv];simp
    rw[<-gn]at k1;have Vx:=UB k;have GL:nF f S=if k∈L∧k ∉ S.all then⟨r++bB f k,S.all++[k]⟩else⟨r,S.all⟩:=by
     simp only[nF,hk,<-hL,<-hr]
    refine cJ ?_;simp -dsimp only[simprocAttr,↓aa,zp,yh];refine ah ?_;apply aM rfl<;>intro h
    ·refine cm ?_;refine ai ?_;refine aS ?_;simp -dsimp only[simprocAttr,↓aa,zp,HT,k1,Mh,Nat.mul_one]
     repeat(refine⟨by omega,?_⟩)
     refine ah ?_;refine aS ?_;simp -dsimp only[simprocAttr,↓aa,zp,HT,k1,Nat.mul_one]
     repeat(refine⟨by omega,?_⟩)
     refine ah ?_;refine ay ?_;refine zi Vx ?_;refine ah ?_;by_cases S8:k∈L
     ·have UE:decide (k∈L)=true:=decide_eq_true S8;have Ov:=bh.os (iZ S.all k) k2;cases PF:dK S.all k with
      | true =>
       have r6:k∈S.all:=fA.1 PF;rw[if_neg (fun q=>q.2 r6)]at GL;rw[GL]at bJ RK Dc;rw[PF]at Ov;refine aS ?_;simp -dsimp only[simprocAttr,↓aa,zp,UE];refine .inr (.inr ⟨_,Ov,an (zj ?_)⟩);refine ah ?_;refine cd rfl ?_;refine WV ?_;have Gt:O[wid]?=some (.cells (r.map aI++(aI k::qx))):=by rw[k1,Gv]
       refine⟨⟨⟨⟨r,S.all⟩,wid,wy,O,aI k::qx⟩,bJ,hF,Gt,k2,k3,k4,n,by simp only;omega,by omega,Dc⟩,by simp only;omega,?_⟩;refine zq rfl ?_ ?_;simp -dsimp only[simprocAttr,↓aa,zp,zc]
       all_goals rfl
      | false =>
       have r6:k ∉ S.all:=fun q=>by rw[fA.2 q]at PF;cases PF
       rw[if_pos ⟨S8,r6⟩]at GL;rw[GL]at bJ RK Dc;rw[PF]at Ov;refine aS ?_;simp -dsimp only[simprocAttr,↓aa,zp,UE];refine .inr (.inr ⟨_,Ov,an (zj ?_)⟩);refine ah ?_;refine cN rfl ?_;have YC:(S.all.map aI).take (S.all.length*1)=S.all.map aI:=List.take_of_length_le (by simp);obtain⟨ps,mI⟩:∃ps,(dj f)[k.toNat]?=some ps:=⟨(dj f)[k.toNat]'(by omega),List.getElem?_eq_getElem _⟩
       have pM:bB f k=ps:=by simp[bB,mI]
       have TC:=RJ S hS k PW (kf.1 (by rw[<-hL];exact S8));have TA:=xr hg k;rw[pM]at TC TA bJ RK Dc;have s7:ps.length≠0:=fun q=>TC (List.eq_nil_of_length_eq_zero q);have Aw:cs.take (r.length*1)=r.map aI:=by
        rw[Gv,Nat.mul_one,List.take_left' (by simp)]
       have VD:cs.take r.length=r.map aI:=by
        rw[Gv,List.take_left' (by simp)]
       refine aS ?_;simp -dsimp only[simprocAttr,↓aa,zp,k2,dG,dC,YC]
       repeat(refine⟨by omega,?_⟩)
       refine ah ?_;have L8:FO acc oid (O.set wy .gone++[al.cells (S.all.map aI++[aI k])]):=hF.move (fun q=>(k3 q).2) (by
        have:=av (O.length+1) (S.all++[k]);simpa using this)
       have Z7:(O.set wy .gone++[al.cells (S.all.map aI++[aI k])])[wid]?=some (.cells cs):=cj (bm k1 (Ne.symm k4));have Z6:(O.set wy .gone++[al.cells (S.all.map aI++[aI k])])[O.length]?=some (.cells ((S.all++[k]).map aI)):=by
        have h1:=eK (O.set wy .gone) (al.cells (S.all.map aI++[aI k]));rw[List.length_set]at h1;rw[h1,List.map_append];rfl
       have YS:(O.set wy .gone++[al.cells (S.all.map aI++[aI k])]).length=O.length+1:=by simp
       have Z1:=I k1;generalize (O.set wy .gone++[al.cells (S.all.map aI++[aI k])])=O1 at *;refine j4 ?_;simp -dsimp only[simprocAttr,↓aa,zp,mI,Z7,Aw,VD,iY]
       repeat(refine⟨by omega,?_⟩)
       refine RS ?_;have g1:(O1.set wid .gone++[al.cells (r.map aI++ps.map aI)])[O1.length]?=some (.cells ((r++ps).map aI++[])):=by
        have h1:=eK (O1.set wid .gone) (al.cells (r.map aI++ps.map aI));rw[List.length_set]at h1;rw[h1,List.map_append,List.append_nil]
       have br:au (O1.length+1) (r.map aI++ps.map aI):=by
        have:=av (O1.length+1) (r++ps);simpa using this
       refine⟨⟨⟨⟨r++ps,S.all++[k]⟩,O1.length,O.length,O1.set wid .gone++[al.cells (r.map aI++ps.map aI)],[]⟩,bJ,L8.move (fun q=>(k3 q).1) br,g1,cj (bm Z6 (show wid≠O.length by omega)),fun q=>?_,by simp only;omega,n,by simp only;omega,by omega,Dc⟩,by simp only;omega,?_⟩
       ·have h1:=I (hF.out q);simp only;omega
       refine zq rfl ?_ ?_;simp -dsimp only[simprocAttr,↓aa,zp,zc]
       all_goals rfl
     have UE:decide (k∈L)=false:=decide_eq_false S8;rw[if_neg (fun q=>S8 q.1)]at GL;rw[GL]at bJ RK Dc;refine aS ?_;simp -dsimp only[simprocAttr,↓aa,zp,UE];refine ah ?_;refine cd rfl ?_;refine WV ?_;have Gt:O[wid]?=some (.cells (r.map aI++(aI k::qx))):=by rw[k1,Gv]
     refine⟨⟨⟨⟨r,S.all⟩,wid,wy,O,aI k::qx⟩,bJ,hF,Gt,k2,k3,k4,n,by simp only;omega,by omega,Dc⟩,by simp only;omega,?_⟩;refine zq rfl ?_ ?_;simp -dsimp only[simprocAttr,↓aa,zp,zc]
     all_goals rfl
    exact af h (by omega)
   refine aG ?_;simp -dsimp only[bD,ne_eq,Nat.reduceEqDiff,reduceCtorEq];have Zt:hd=N:=by
    have:=of_decide_eq_false h;omega
   subst Zt;rw[List.drop_of_length_le (by simp)]at oz;have YV:R=acc:=by rw[oz];simp
   subst YV;by_cases Oo:R=[]
   ·have jL:v7 oid R=.aB 3 [] .ex:=if_pos Oo;refine aS ?_;simp -dsimp only[simprocAttr,↓aa,zp,jL];refine zi JD ?_;refine ah ?_;refine aS ?_;simp -dsimp only[simprocAttr,↓aa,zp,jL];refine ah ?_;rw[Oo];refine aq ?_;simp -dsimp only[simprocAttr,↓aa,zp,zr,Tryz.results13];exact⟨⟨⟨trivial,trivial⟩,trivial,trivial⟩,rfl⟩
   have jL:v7 oid R=.os oid R.length 3:=if_neg Oo;have ho:=hF.out Oo;have Ts:=G5 hF.up ho (by omega) mH;have GI:=(A5 mH).len;have h3:(O.set oid (.cells (jU (ni R))))[oid]?=some (.cells (jU (ni R))):=lP ho;generalize O.set oid (.cells (jU (ni R)))=O2 at *;obtain⟨m,OH⟩:∃m,m=ni R:=⟨_,rfl⟩
   rw[<-OH]at GI h3 ⊢;rw[<-GI]at jL Ts;refine aS ?_;simp -dsimp only[simprocAttr,↓aa,zp,jL];refine .inr (.inl ⟨_,_,Ts,.inl (an (zj ?_))⟩);refine ah ?_;refine aS ?_;simp -dsimp only[simprocAttr,↓aa,zp,jL];refine ah ?_;refine aA 2 oid (o:=.cells (jU m)) (.aB 3 (m.map fO) .sh) h3 (by simp[al.aC]) trivial rfl (bT.os (cs:=jU m) h3 ?_ ?_ ?_) ?_
   ·intro x hx;obtain⟨y,_,rfl⟩:=List.mem_map.1 hx;rfl
   ·simp
   ·rw[List.drop_zero,List.take_of_length_le (by rw[n5];omega)];exact GZ m
   simp -dsimp only[simprocAttr,↓aa,zp];refine aq ?_;simp -dsimp only[simprocAttr,↓aa,zp,zr,Tryz.results13];exact⟨⟨gP _ _,trivial⟩,trivial,trivial⟩
  exact bT.mp rfl rfl
 rw[if_neg hc]at I6 ⊢;obtain⟨e,he⟩:∃e,e=aN f:=⟨_,rfl⟩
 rw[<-he]at hc I6 ⊢;have m5:decide (e=0)=false:=decide_eq_false hc;refine zf true 0 Tryz.func13 Tryz.ntmps13 ?_;dsimp only[Tmp,TypeId,slotsOf];refine ay (ah ?_);refine aA 1 0 (.ip none [aI f.name,aw f.blocks]) rfl (by simp[al.aC]) trivial rfl ?_ ?_;rotate_left;simp -dsimp only[simprocAttr,↓aa,zp]
 ·refine ay ?_;refine zi I6 ?_;refine ah ?_;refine cJ ?_;simp -dsimp only[simprocAttr,↓aa,zp,m5];refine ah ?_;refine cN rfl ?_;refine ay (ah ?_);refine aq ?_;simp -dsimp only[simprocAttr,↓aa,zp,zr,Tryz.results13];simp[au,ae.upto]
 exact bT.mp rfl rfl
def FC(p:Nat)(k:Int)(es:List Edge):List Int:=(es.filter fun e=>decide (e.block=k)).map fun _=>(p:Int)
def zg(k:Int):Nat->List Block->List Int
 | _,[]=>[]
 | p,b::r=>FC p k b.term.to++zg k (p+1) r
def HX(f:Func)(k:Int):List Int:=zg k 0 f.blocks
theorem M0(p:Nat)(k:Int)(es:List Edge):(FC p k es).length<=es.length:=by
 unfold FC;rw[List.length_map];exact List.length_filter_le _ _
theorem FD(k:Int):∀(bs:List Block) (p:Nat),(∀b∈bs,b.term.to.length<=257)->(zg k p bs).length<=bs.length*257
 | [],_,_=>by simp[zg]
 | b::r,p,h=>by
  have h1:=FD k r (p+1) fun x hx=>h x (List.mem_cons_of_mem _ hx);have h2:=M0 p k b.term.to;have h3:=h b List.mem_cons_self;simp only[zg,List.length_append,List.length_cons];omega
theorem Bn{P:Int->Bool}{k:Int}{p:Nat}{es:List Edge}(h:(∃e∈es,e.block=k)->P (p:Int)=false):(FC p k es).filter P=[]:=by
 rw[List.filter_eq_nil_iff];intro a ha;unfold FC at ha;obtain⟨e,he,rfl⟩:=List.mem_map.1 ha;rw[List.mem_filter]at he;rw[h ⟨e,he.1,by simpa using he.2⟩];simp
theorem Bo{P:Int->Bool}{k:Int}:∀(bs:List Block) (p:Nat),(∀(j:Nat) b,bs[j]?=some b->(∃e∈b.term.to,e.block=k)->P ((p+j:Nat):Int)=false)->(zg k p bs).filter P=[]
 | [],p,_=>rfl
 | b::r,p,h=>by
  rw[zg,List.filter_append,Bn (p:=p) (h 0 b rfl),Bo r (p+1) fun j c hj he=>by
   have:=h (j+1) c (by simpa using hj) he;rw[show p+1+j=p+(j+1) by omega];exact this]
  rfl
theorem yF{P:Int->Bool}{k:Int}:∀(bs:List Block) (p j0:Nat) (b0:Block),bs[j0]?=some b0->(b0.term.to.filter fun e=>decide (e.block=k)).length=1->P ((p+j0:Nat):Int)=true ->
  (∀(j:Nat) b,j≠j0->bs[j]?=some b->(∃e∈b.term.to,e.block=k)->P ((p+j:Nat):Int)=false)->(zg k p bs).filter P=[((p+j0:Nat):Int)]
 | [],p,j0,b0,h0,_,_,_=>by simp at h0
 | b::r,p,0,b0,h0,h1,h2,h=>by
  simp only[List.getElem?_cons_zero,Option.some.injEq]at h0;subst h0;have e1:(FC p k b.term.to).filter P=[((p+0:Nat):Int)]:=by
   obtain⟨e,he⟩:=List.length_eq_one_iff.1 h1;unfold FC;rw[he];have K6:P (p:Int)=true:=h2;simp[K6]
  rw[zg,List.filter_append,e1,Bo r (p+1) fun j c hj he=>by
   have:=h (j+1) c (by omega) (by simpa using hj) he;rw[show p+1+j=p+(j+1) by omega];exact this]
  rfl
 | b::r,p,j0+1,b0,h0,h1,h2,h=>by
  have e:p+(j0+1)=p+1+j0:=by omega
  rw[zg,List.filter_append,Bn (p:=p) (h 0 b (by omega) rfl),e,yF r (p+1) j0 b0 (by simpa using h0) h1 (by rw[<-e];exact h2) fun j c bI hj he=>by
   have:=h (j+1) c (by omega) (by simpa using hj) he;rw[show p+1+j=p+(j+1) by omega];exact this]
  rfl
end Go.Proofs.YtjdnhamngpafmaaGreat
namespace Go.Proofs.YtjdnhamngpafmaaGreat
open Go.Av
section
variable {f:Func}
theorem BD{g:Func}{j:Nat}{b:Block}(h:g.blocks[j]?=some b):fY g (j:Int)=b.term.to:=by
 unfold fY aF;rw[Int.toNat_natCast,h];rfl
theorem CR(hv:xF f)(gf:gb (bu f)){i:Nat}{x:aX}(hx:(bn f)[i]?=some x){bl:List Int}(hb:∀k,k∈bl↔k∈iF (bu f) x.head) :
  (HX (bu f) x.head).filter (fun q=>!dK bl q)=[((f.blocks.length+i:Nat):Int)]:=by
 have hg:=hv.fn.gr;have E0:=iR hx;have ym:=E0.qZ;have hn:=qF (f:=f) i;rw[hx,Option.map_some]at hn;have key:=yF (P:=fun q=>!dK bl q) (k:=x.head) (bu f).blocks 0 (f.blocks.length+i) _ hn (by simp[qD]) (by
  have h1:=MI hv gf hx;rw[<-hb]at h1;rw[Nat.zero_add];cases h:dK bl ((f.blocks.length+i:Nat):Int)with
  | false=>rfl
  | true=>exact absurd (fA.1 h) h1) (fun j b bI hj he=>by
  obtain⟨e,he,q⟩:=he;rw[Nat.zero_add];have I9:q8 (bu f) (j:Int) x.head:=⟨e,by rw[BD hj];exact he,q⟩
  rcases fU hj with⟨_,h1,_⟩|⟨i',y,h1,h2,_⟩
  ·rcases uc (by omega) (by omega) I9 with⟨_,q2⟩|⟨_,_,q1,_⟩
   ·have h3:=q2 x (List.mem_of_getElem? hx) rfl;have h4:=Fe hv gf ym (E0.mem.1 (fA.1 h3));rw[<-hb]at h4;rw[fA.2 h4];rfl
   omega
  rw[h1]at I9;have:=A0 hx h2 (qh h2 I9);omega)
 rw[Nat.zero_add]at key;exact key
end
end Go.Proofs.YtjdnhamngpafmaaGreat
namespace Go.Proofs.YtjdnhamngpafmaaGreat
open Go.Av
section
variable {f:Func}
theorem GY{x y:aX}(hx:x∈cS f)(hy:y∈cS f)(h:x.head=y.head):x=y:=by
 obtain⟨i,hi⟩:=List.mem_iff_getElem?.1 hx;obtain⟨j,hj⟩:=List.mem_iff_getElem?.1 hy;rcases Nat.lt_trichotomy i j with q|q|q
 ·exact absurd h.symm (AR hj hi q)
 ·subst q;rw[hi]at hj;exact Option.some.inj hj
 exact absurd h (AR hi hj q)
theorem x7(hv:xF f)(gf:gb (bu f)){x:aX}(Js:x∈cS f)(hs:eJ f x=true){bl:List Int}(hb:∀k,k∈bl↔k∈iF (bu f) x.head) :
  ∃k:Int,(HX (bu f) x.head).filter (fun q=>!dK bl q)=[k]∧(fY (bu f) k).length=1:=by
 have hg:=hv.fn.gr;have E0:=nZ Js;have ym:=E0.qZ;have UM:∀y∈bn f,y.head≠x.head:=fun y hy q=>by
  obtain⟨q1,q2⟩:=A1 hy;rw[GY q1 Js q,hs]at q2;cases q2
 obtain⟨p,hp⟩:∃p,fa f x=[p]:=by
  unfold eJ at hs;split at hs
  ·rename_i p h;exact⟨p,h⟩
  cases hs
 have Dd:=hs;unfold eJ at Dd;rw[hp]at Dd;obtain⟨k,n,b,e,q1,q2,q3,q4,q5⟩:=lC.1 (show p∈fa f x by rw[hp];exact List.mem_singleton.2 rfl);subst q3;have Ou:aF f (k:Int)=b:=by simp[aF,q1]
 simp only[Ou]at Dd;have hlen:=of_decide_eq_true Dd;obtain⟨e0,K9⟩:=List.length_eq_one_iff.1 hlen;have BR:e0=e:=by
  have:=List.mem_of_getElem? q2;rw[K9,List.mem_singleton]at this;exact this.symm
 subst BR;have yg:=I q1;have dz:gQ f.blocks.length (bn f) (k:Int) e0=e0:=xv fun y hy q=>UM y hy (by rw[q,q5]);have VM:=(od (f:=f) yg).2 ⟨b,q1,rfl⟩;have PZ:b.term.to.map (gQ f.blocks.length (bn f) (k:Int))=[e0]:=by rw[K9,List.map_singleton,dz]
 rw[PZ]at VM;have I9:q8 f (k:Int) x.head:=⟨e0,by rw[BD q1,K9];exact List.mem_singleton.2 rfl,q5⟩
 refine⟨(k:Int),?_,by rw[BD VM];rfl⟩;have key:=yF (P:=fun q=>!dK bl q) (k:=x.head) (bu f).blocks 0 k _ VM (by simp[eH,q5]) (by
  have h0:(k:Int) ∉ iF f x.head:=fun h=>by
   rw[fA.2 (E0.mem.2 h)]at q4;cases q4
  have h1:=MK hv gf ym (by omega) I9 h0;rw[<-hb]at h1;rw[Nat.zero_add];cases h:dK bl (k:Int)with
  | false=>rfl
  | true=>exact absurd (fA.1 h) h1) (fun j c bI hj he=>by
  obtain⟨d,hd,q⟩:=he;rw[Nat.zero_add];have I9:q8 (bu f) (j:Int) x.head:=⟨d,by rw[BD hj];exact hd,q⟩
  rcases fU hj with⟨c0,h1,h2,_⟩|⟨i',y,h1,h2,_⟩
  ·rcases uc (by omega) (by omega) I9 with⟨⟨z,z1,z2⟩,_⟩|⟨_,_,q1,_⟩
   ·have h3:dK x.blocks (j:Int)=true:=by
     cases h:dK x.blocks (j:Int)with
     | true=>rfl
     | false =>
      rw[BD h2]at z1;obtain⟨m,hm⟩:=List.mem_iff_getElem?.1 z1;have:((j:Int),(m:Int))∈fa f x:=lC.2 ⟨j,m,c0,z,h2,hm,rfl,h,z2⟩;rw[hp,List.mem_singleton,Prod.mk.injEq]at this;omega
    have h4:=Fe hv gf ym (E0.mem.1 (fA.1 h3));rw[<-hb]at h4;rw[fA.2 h4];rfl
   omega
  rw[h1]at I9;exact absurd (qh h2 I9).symm (UM y (List.mem_of_getElem? h2)))
 rw[Nat.zero_add]at key;exact key
end
end Go.Proofs.YtjdnhamngpafmaaGreat
namespace Go.Proofs.YtjdnhamngpafmaaGreat
open Go.Av
theorem Fl{h:Int}{P:Int->Bool}(p:Nat):∀(l:List Edge) (n:Nat),(Fk h (!P (p:Int)) (p:Int) n l).map Prod.fst=(FC p h l).filter P
 | [],n=>rfl
 | e::r,n=>by
  have ih:=Fl (h:=h) (P:=P) p r (n+1);unfold Fk;unfold FC at ih ⊢;by_cases h1:e.block=h
  ·cases h2:P (p:Int)with
   | true =>
    rw[h2]at ih;rw[if_pos ⟨h1,rfl⟩,List.filter_cons_of_pos (by simpa using h1),List.map_cons,List.map_cons,List.filter_cons_of_pos h2];exact congrArg _ ih
   | false =>
    rw[h2]at ih;rw[if_neg (fun q=>by cases q.2),List.filter_cons_of_pos (by simpa using h1),List.map_cons,List.filter_cons_of_neg (by simp[h2])];exact ih
  rw[if_neg (fun q=>h1 q.1),List.filter_cons_of_neg (by simpa using h1)];exact ih
theorem Fg(x:aX):∀(bs:List Block) (k:Nat),(G8 x k bs).map Prod.fst=(zg x.head k bs).filter (fun q=>!dK x.blocks q)
 | [],k=>rfl
 | b::r,k=>by
  have h:=Fl (h:=x.head) (P:=fun q=>!dK x.blocks q) k b.term.to 0;simp only[Bool.not_not]at h;rw[G8,zg,List.map_append,List.filter_append,Fg x r (k+1),h]
theorem Hd(f:Func)(x:aX):(fa f x).map Prod.fst=(HX f x.head).filter (fun q=>!dK x.blocks q):=Fg x f.blocks 0
end Go.Proofs.YtjdnhamngpafmaaGreat
namespace Go.Proofs.YtjdnhamngpafmaaGreat
open Go.Av
section
variable {f:Func}
theorem wM(hv:xF f)(gf:gb (bu f)){y:aX}(hy:y∈cS (bu f)):∃k:Int,(HX (bu f) y.head).filter (fun q=>!dK y.blocks q)=[k]∧(fY (bu f) k).length=1:=by
 have hh:=Bc hv gf;have hm:y.head∈(cS f).map (fun x=>x.head):=by
  rw[<-hh];exact List.mem_map.2 ⟨y,hy,rfl⟩
 obtain⟨x,hx,e⟩:=List.mem_map.1 hm;have T5:=nZ hy;have hb:∀k,k∈y.blocks↔k∈iF (bu f) x.head:=fun k=>by
  rw[e];exact T5.mem
 rw[<-e];cases hs:eJ f x with
 | true=>exact x7 hv gf hx hs hb
 | false =>
  have hn:x∈bn f:=by
   unfold bn;rw[List.mem_filter];exact⟨hx,by simp[hs]⟩
  obtain⟨i,hi⟩:=List.mem_iff_getElem?.1 hn;exact⟨_,CR hv gf hi hb,by rw[DK hi];rfl⟩
theorem D4(hv:xF f)(gf:gb (bu f)){y:aX}(hy:y∈cS (bu f)):eJ (bu f) y=true:=by
 obtain⟨k,h1,h2⟩:=wM hv gf hy;have h3:=Hd (bu f) y;rw[h1]at h3;have hl:=congrArg List.length h3;rw[List.length_map]at hl;obtain⟨p,hp⟩:=List.length_eq_one_iff.1 hl;rw[hp]at h3;have h4:p.1=k:=by simpa using h3
 unfold eJ;rw[hp];simp only[h4];exact decide_eq_true h2
theorem A2(hv:xF f)(gf:gb (bu f)):bn (bu f)=[]:=by
 unfold bn;rw[List.filter_eq_nil_iff];intro y hy;simp[D4 hv gf hy]
end
theorem Br:∀(bs:List Block),List.zipWith eH bs (bs.map fun b=>b.term.to)=bs
 | []=>rfl
 | b::r=>by
  rw[List.map_cons,List.zipWith_cons_cons,Br r];rfl
theorem MO{g:Func}(h:bn g=[]):bu g=g:=by
 have hi:=v8 g;rw[h]at hi;have hn:(vp g).1.news=[]:=by rw[hi.news];rfl
 have ht:(vp g).1.fe=g.blocks.map fun b=>b.term.to:=by
  apply List.ext_getElem?;intro k;cases hb:g.blocks[k]? with
  | none =>
   have:=List.getElem?_eq_none_iff.1 hb;rw[List.getElem?_eq_none (by rw[hi.len];omega),List.getElem?_map,hb];rfl
  | some b =>
   rw[hi.fe k b hb,List.getElem?_map,hb,Option.map_some];congr 1;have l5:gQ g.blocks.length [] (k:Int)=id:=by
    funext e
    simp[gQ]
   rw[l5,List.map_id]
 unfold bu;rw[hn,ht,Br,List.append_nil]
theorem Hh{f:Func}(hv:xF f)(gf:gb (bu f)):bu (bu f)=bu f:=MO (A2 hv gf)
end Go.Proofs.YtjdnhamngpafmaaGreat
namespace Go.Proofs.YtjdnhamngpafmaaGreat
open Go.Av
theorem DI{u:cf}{m:Mach}(hm:dc u m)(ho:m.over=false)(hp:¬m.left<1):dc u (m.db 1)∧(m.db 1).over=false∧(m.db 1).short=false∧(m.db 1).left=m.left-1∧(m.db 1).frames=m.frames:=by
 have h0:=hm.left;have hd:=hm.depth;have Db:m.db 1 = { m with left:=m.left-1 }:=by simp[Mach.db,hp]
 rw[Db];exact⟨⟨fun f hf=>(hm.frames f hf).of_heap (by rfl),fun a ha=>⟨(hm.ld a ha).1,fun v hv=>((hm.ld a ha).2 v hv).of_heap (by rfl)⟩,by simp only;omega,by simp only;omega,hm.out,hm.words,hm.fin,hm.val,hm.done,fun h=>hm.over h⟩,ho,(hm.over ho).2,rfl,rfl⟩
theorem xi{m:Mach}(hp:m.left<1):m.db 1 = { m with short:=true,over:=true }:=by simp[Mach.db,hp]
theorem DW{u:cf}(hu:iK u):∀(k:Nat) (m:Mach),dc u m->m.left.toNat+2<=k->(Mach.run u k m).over=true∧(Mach.run u k m).left<=m.left∧(m.over=false->(Mach.run u k m).short=false->(Mach.run u k m).left<=m.left-1)∧((Mach.run u k m).short=false->dc u (Mach.run u k m))
 | 0,m,hm,hk=>by omega
 | k+1,m,hm,hk=>by
  cases jL:m.over with
  | true=>simp[Mach.run,jL,hm]
  | false =>
   have hl:=hm.left;have hd:=hm.depth;simp only[Mach.run,jL,Bool.false_eq_true,if_false];by_cases hp:m.left<1
   ·rw[xi hp];simp
   obtain⟨q1,q2,q3,q4,q5⟩:=DI hm jL hp;rw[if_neg (by simp[q3])];have lK:(m.db 1).frames.length+(m.db 1).left+1<=2 ^ 40:=by rw[q4,q5];omega
   have hs:=dc.step hu q1 q2 lK;have pN:=xA u (m.db 1) q1 hu q2;have Lh:=hs.left;have ih:=DW hu k _ hs (by omega);refine⟨ih.1,by have:=ih.2.1;omega,fun _ _=>by have:=ih.2.1;omega,ih.2.2.2⟩
namespace Mach
def shift(m:Mach)(c:Int):Mach:={ m with left:=m.left+c }
theorem Hy(m:Mach)(c n:Int)(h:¬m.left<n)(h':¬m.left+c<n):(m.shift c).db n=(m.db n).shift c:=by
 have h1:m.db n = { m with left:=m.left-n }:=by simp[db,h]
 have h2:(m.shift c).db n = { m.shift c with left:=(m.shift c).left-n }:=by simp[db,shift,h']
 rw[h1,h2];simp only[shift];congr 1;omega
theorem u6(m:Mach)(c:Int)(size fill:SV)(hs:(m.bj size fill).1.short=false)(hl:0<=(m.bj size fill).1.left+c):(m.shift c).bj size fill=((m.bj size fill).1.shift c,(m.bj size fill).2):=by
 unfold bj at hs hl ⊢;by_cases h1:size.kind≠0
 ·rw[if_pos h1,if_pos h1]
 rw[if_neg h1]at hs hl;rw[if_neg h1,if_neg h1];by_cases h2:size.n<0∨1024<size.n
 ·rw[if_pos h2,if_pos h2]
 rw[if_neg h2]at hs hl;rw[if_neg h2,if_neg h2];by_cases h3:(m.db size.n).short=true
 ·rw[if_pos h3]at hs;simp only at hs;rw[hs]at h3;cases h3
 rw[if_neg h3]at hl;have h4:¬m.left<size.n:=fun q=>h3 (by simp[db,q]);have h5:m.db size.n = { m with left:=m.left-size.n }:=by simp[db,h4]
 have h7:(m.db size.n).left=m.left-size.n:=by rw[h5]
 simp only[h7]at hl;rw[Hy m c size.n h4 (by omega)];have h6:¬((m.db size.n).shift c).short=true:=h3;rw[if_neg h6,if_neg h3];rfl
theorem yO(m:Mach)(c:Int)(i:Ins)(args:List SV)(hs:(m.effect i args).1.short=false)(hl:0<=(m.effect i args).1.left+c):(m.shift c).effect i args=((m.effect i args).1.shift c,(m.effect i args).2):=by
 unfold effect at hs hl ⊢;by_cases yb:i.op=15
 ·rw[if_pos yb,if_pos yb];show(if _ then _ else if m.out.length=1000 then _ else _)=_;split
  ·rfl
  split<;>rfl
 rw[if_neg yb]at hs hl;rw[if_neg yb,if_neg yb];by_cases wR:i.op=16
 ·rw[if_pos wR]at hs hl;rw[if_pos wR,if_pos wR];exact u6 m c _ _ hs hl
 rw[if_neg wR,if_neg wR];by_cases y7:i.op=18
 ·rw[if_pos y7,if_pos y7];split
  ·rfl
  split<;>rfl
 have hh:(m.shift c).heap=m.heap:=rfl;rw[if_neg y7,if_neg y7,hh];by_cases k1:(bW args 0).kind≠3∨(i.op≠17∧(bW args 1).kind≠0)
 ·rw[if_pos k1,if_pos k1]
 rw[if_neg k1,if_neg k1];by_cases k2:i.op=17
 ·rw[if_pos k2,if_pos k2]
 rw[if_neg k2,if_neg k2];by_cases k3:(bW args 1).n<0∨((gR m.heap (bW args 0).arr).length:Int)<=(bW args 1).n
 ·rw[if_pos k3,if_pos k3]
 rw[if_neg k3,if_neg k3];by_cases k4:i.op=19
 ·rw[if_pos k4,if_pos k4]
 rw[if_neg k4,if_neg k4];rfl
theorem D3(m:Mach)(c:Int)(i:Ins)(args:List SV)(hs:(m.exec i args).1.short=false)(hl:0<=(m.exec i args).1.left+c):(m.shift c).exec i args=((m.exec i args).1.shift c,(m.exec i args).2):=by
 unfold exec at hs hl ⊢;by_cases h0:i.op=0
 ·rw[if_pos h0,if_pos h0]
 rw[if_neg h0]at hs hl;rw[if_neg h0,if_neg h0];by_cases h1:1<=i.op∧i.op<=7
 ·rw[if_pos h1,if_pos h1];split<;>rfl
 rw[if_neg h1]at hs hl;rw[if_neg h1,if_neg h1];by_cases h8:i.op=8
 ·rw[if_pos h8,if_pos h8]
 rw[if_neg h8]at hs hl;rw[if_neg h8,if_neg h8];by_cases h9:i.op=9
 ·rw[if_pos h9,if_pos h9]
 rw[if_neg h9]at hs hl;rw[if_neg h9,if_neg h9];by_cases wQ:i.op=10∨i.op=11∨i.op=12∨i.op=21
 ·rw[if_pos wQ,if_pos wQ]
 rw[if_neg wQ]at hs hl;rw[if_neg wQ,if_neg wQ];by_cases CZ:i.op=22∨i.op=23∨i.op=24
 ·rw[if_pos CZ,if_pos CZ]
 rw[if_neg CZ]at hs hl;rw[if_neg CZ,if_neg CZ];by_cases kz:i.op=100
 ·rw[if_pos kz,if_pos kz]
 rw[if_neg kz]at hs hl;rw[if_neg kz,if_neg kz];exact yO m c i args hs hl
theorem yM(f:Fr)(to:Int)(r:Mach×SV×Int):(settle f to r).short=r.1.short∧(settle f to r).left=r.1.left:=by
 unfold settle;split<;>exact⟨rfl,rfl⟩
end Mach
theorem rM{u:cf}{m:Mach}(h:m.over=true)(k:Nat):Mach.run u k m=m:=by
 cases k with
 | zero=>rfl
 | succ k=>simp[Mach.run,h]
end Go.Proofs.YtjdnhamngpafmaaGreat
namespace Go.Proofs.YtjdnhamngpafmaaGreat
open Go.Av
def Lo(s:Int->Int)(i:Ins):Ins:=⟨s i.to,i.op,i.n,i.args.map s⟩
theorem Al(es:List (Int×SV))(k j:Int)(v:SV):eO (dg es k v) j=if k=j then v else eO es j:=by
 unfold eO;induction es with
 | nil =>
  simp only[dg,gl];split<;>rfl
 | cons p r ih =>
  obtain⟨a,x⟩:=p;simp only[dg];by_cases h:a=k
  ·rw[if_pos h];subst h;simp only[gl];split<;>rfl
  rw[if_neg h];simp only[gl];by_cases h2:a=j
  ·rw[if_pos h2,if_pos h2,if_neg (fun q=>h (by rw[h2,q]))]
  rw[if_neg h2,if_neg h2];exact ih
def VR(D:Int->Prop)(s:Int->Int)(es HM:List (Int×SV)):Prop:=∀k,D k->eO HM (s k)=eO es k
section
variable {D:Int->Prop} {s:Int->Int}
theorem VR.put(hi:∀j k,D j->D k->s j=s k->j=k){es HM:List (Int×SV)}(h:VR D s es HM){k:Int}(hk:D k)(v:SV):VR D s (dg es k v) (dg HM (s k) v):=fun j hj=>by
 rw[Al,Al];by_cases e:k=j
 ·rw[if_pos e,if_pos (by rw[e])]
 rw[if_neg e,if_neg (fun q=>e (hi k j hk hj q)),h j hj]
theorem VR.bind(hi:∀j k,D j->D k->s j=s k->j=k):∀(ps:List Int) (l:List SV) {es HM:List (Int×SV)},(∀p∈ps,D p)->VR D s es HM->VR D s (cL es ps l) (cL HM (ps.map s) l)
 | [],l,es,HM,_,h=>by simpa[cL]using h
 | p::ps,[],es,HM,_,h=>by simpa[cL]using h
 | p::ps,a::l,es,HM,hp,h=>by
  simp only[cL,List.map_cons];exact VR.bind hi ps l (fun q hq=>hp q (List.mem_cons_of_mem _ hq)) (h.put hi (hp p List.mem_cons_self) a)
theorem VR.take{es HM:List (Int×SV)}(h:VR D s es HM){l:List Int}(hl:∀a∈l,D a):cx HM (l.map s)=cx es l:=by
 unfold cx;rw[List.map_map];exact List.map_congr_left fun a ha=>h a (hl a ha)
theorem VR.other{es HM:List (Int×SV)}(h:VR D s es HM){j:Int}(hj:∀k,D k->s k≠j)(v:SV):VR D s es (dg HM j v):=fun k hk=>by
 rw[Al,if_neg fun q=>hj k hk q.symm,h k hk]
end
structure HY(v:cf)(s:Int->Int)(D L:Int->Prop)(β:Int->Int)(pre:Int->List Ins)(c:Int)(fn:Int)(e e':Edge):Prop where
 live:L e.block
 args:∀a∈e.args,D a
 way:(e'.block=β e.block∧e'.args=e.args.map s∧1+((pre e.block).length:Int)<=c) ∨
  ∃(C:Block) (e2:Edge),C=aF (bH v fn) e'.block∧C.ins=[]∧C.term.kind=1∧C.term.to=[e2]∧e2.block=β e.block∧2+((pre e.block).length:Int)<=c ∧
   ∀es,cx (cL es C.params (cx es e'.args)) e2.args=cx es (e.args.map s)∧∀k,D k->eO (cL es C.params (cx es e'.args)) (s k)=eO es (s k)
structure RW(v:cf)(s:Int->Int)(D L:Int->Prop)(β:Int->Int)(pre:Int->List Ins)(c:Int)(fn:Int)(b:Int)(B B':Block):Prop where
 params:B'.params=B.params.map s∧∀p∈B.params,D p
 ins:B'.ins=pre b++B.ins.map (Lo s)
 vals:∀i∈B.ins,D i.to∧∀a∈i.args,D a
 hd:∀i∈pre b,i.op=0∧∀k,D k->s k≠i.to
 term:B'.term.kind=B.term.kind∧B'.term.n=B.term.n∧B'.term.cases=B.term.cases∧B'.term.to.length=B.term.to.length
 arg:B.term.kind≠1->B.term.kind≠4->B'.term.arg=s B.term.arg∧D B.term.arg
 eZ:∀(k:Nat) e e',B.term.to[k]?=some e->B'.term.to[k]?=some e'->HY v s D L β pre c fn e e'
structure rQ(u v:cf)(s:Int->Int)(D L:Int->Int->Prop)(β:Int->Int->Int)(pre:Int->Int->List Ins)(c:Int):Prop where
 fns:v.fns.length=u.fns.length
 main:v.main=u.main
 inj:∀fn j k:Int,D fn j->D fn k->s j=s k->j=k
 zero:∀fn:Int,0<=fn->fn<u.fns.length->L fn 0∧β fn 0=0∧1+((pre fn 0).length:Int)<=c
 FY:∀fn b:Int,0<=fn->fn<u.fns.length->L fn b->RW v s (D fn) (L fn) (β fn) (pre fn) c fn b (aF (bH u fn) b) (aF (bH v fn) (β fn b))
namespace Mach
def put(m:Mach)(fs:List Fr)(l:Int):Mach:={ m with frames:=fs,left:=l }
theorem sI(m:Mach)(fs:List Fr)(size fill:SV):({ m with frames:=fs }:Mach).bj size fill=({ (m.bj size fill).1 with frames:=fs },(m.bj size fill).2):=by
 unfold bj;by_cases h1:size.kind≠0
 ·rw[if_pos h1,if_pos h1]
 rw[if_neg h1,if_neg h1];by_cases h2:size.n<0∨1024<size.n
 ·rw[if_pos h2,if_pos h2]
 rw[if_neg h2,if_neg h2];have e:({ m with frames:=fs }:Mach).db size.n = { m.db size.n with frames:=fs }:=by
  unfold db;by_cases h3:m.left<size.n
  ·rw[if_pos h3,if_pos h3]
  rw[if_neg h3,if_neg h3]
 rw[e];by_cases h4:(m.db size.n).short=true
 ·rw[if_pos h4,if_pos h4]
 rw[if_neg h4,if_neg h4]
theorem vI(m:Mach)(fs:List Fr)(i:Ins)(args:List SV):({ m with frames:=fs }:Mach).effect i args=({ (m.effect i args).1 with frames:=fs },(m.effect i args).2):=by
 unfold effect;by_cases yb:i.op=15
 ·rw[if_pos yb,if_pos yb];show(if _ then _ else if m.out.length=1000 then _ else _)=_;split
  ·rfl
  split<;>rfl
 rw[if_neg yb,if_neg yb];by_cases wR:i.op=16
 ·rw[if_pos wR,if_pos wR];exact sI m fs _ _
 rw[if_neg wR,if_neg wR];by_cases y7:i.op=18
 ·rw[if_pos y7,if_pos y7];split
  ·rfl
  split<;>rfl
 rw[if_neg y7,if_neg y7];by_cases k1:(bW args 0).kind≠3∨(i.op≠17∧(bW args 1).kind≠0)
 ·rw[if_pos k1,if_pos k1]
 rw[if_neg k1,if_neg k1];by_cases k2:i.op=17
 ·rw[if_pos k2,if_pos k2]
 rw[if_neg k2,if_neg k2];show(if(bW args 1).n<0∨((gR m.heap (bW args 0).arr).length:Int)<=(bW args 1).n then _ else _)=_;by_cases k3:(bW args 1).n<0∨((gR m.heap (bW args 0).arr).length:Int)<=(bW args 1).n
 ·rw[if_pos k3,if_pos k3]
 rw[if_neg k3,if_neg k3];by_cases k4:i.op=19
 ·rw[if_pos k4,if_pos k4]
 rw[if_neg k4,if_neg k4]
theorem Aj(m:Mach)(fs:List Fr)(i:Ins)(args:List SV):({ m with frames:=fs }:Mach).exec i args=({ (m.exec i args).1 with frames:=fs },(m.exec i args).2):=by
 unfold exec;by_cases h0:i.op=0
 ·rw[if_pos h0,if_pos h0]
 rw[if_neg h0,if_neg h0];by_cases h1:1<=i.op∧i.op<=7
 ·rw[if_pos h1,if_pos h1];split<;>rfl
 rw[if_neg h1,if_neg h1];by_cases h8:i.op=8
 ·rw[if_pos h8,if_pos h8]
 rw[if_neg h8,if_neg h8];by_cases h9:i.op=9
 ·rw[if_pos h9,if_pos h9]
 rw[if_neg h9,if_neg h9];by_cases wQ:i.op=10∨i.op=11∨i.op=12∨i.op=21
 ·rw[if_pos wQ,if_pos wQ]
 rw[if_neg wQ,if_neg wQ];by_cases CZ:i.op=22∨i.op=23∨i.op=24
 ·rw[if_pos CZ,if_pos CZ]
 rw[if_neg CZ,if_neg CZ];by_cases kz:i.op=100
 ·rw[if_pos kz,if_pos kz]
 rw[if_neg kz,if_neg kz];exact vI m fs i args
theorem J2(m:Mach)(fs:List Fr)(l:Int)(i:Ins)(args:List SV)(hs:(m.exec i args).1.short=false)(h0:0<=(m.exec i args).1.left)(hl:m.left<=l) :
  (m.put fs l).exec i args=((m.exec i args).1.put fs (l-(m.left-(m.exec i args).1.left)),(m.exec i args).2):=by
 have e:m.put fs l = { m.shift (l-m.left)with frames:=fs }:=by
  unfold put shift;simp only[Mach.mk.injEq,true_and,and_true];omega
 rw[e,Aj,D3 m _ i args hs (by omega)];unfold put shift;simp only[Prod.mk.injEq,Mach.mk.injEq,true_and,and_true];omega
inductive Steps(u:cf):Nat->Mach->Mach->Prop
 | refl (m:Mach):Steps u 0 m m
 | cons {n:Nat} {m m':Mach}:m.over=false->m.short=false->1<=m.left->Steps u n (step u { m with left:=m.left-1 }) m'->Steps u (n+1) m m'
theorem Fp{m:Mach}(h:1<=m.left):m.db 1 = { m with left:=m.left-1 }:=by
 unfold db;rw[if_neg (by omega)]
theorem Steps.trans{u:cf}{a b:Nat}{m m' BX:Mach}(h:Steps u a m m')(k:Steps u b m' BX):Steps u (a+b) m BX:=by
 induction h with
 | refl m=>rw[Nat.zero_add];exact k
 | cons h1 h2 h3 _ ih =>
  rw[Nat.add_right_comm];exact .cons h1 h2 h3 (ih k)
theorem Steps.run{u:cf}{n:Nat}{m m':Mach}(h:Steps u n m m')(k:Nat):Mach.run u (n+k) m=Mach.run u k m':=by
 induction h with
 | refl m=>rw[Nat.zero_add]
 | cons h1 h2 h3 _ ih =>
  rw[Nat.add_right_comm];simp only[Mach.run];rw[if_neg (by rw[h1];simp),Fp h3,if_neg (by simp only;rw[h2];simp)];exact ih
theorem Steps.before{u:cf}{n:Nat}{m m':Mach}(h:Steps u n m m'):∀k,k<n->(Mach.run u k m).over=false:=by
 induction h with
 | refl m=>intro k hk;omega
 | cons h1 h2 h3 _ ih =>
  intro k hk;cases k with
  | zero=>exact h1
  | succ k =>
   simp only[Mach.run];rw[if_neg (by rw[h1];simp),Fp h3,if_neg (by simp only;rw[h2];simp)];exact ih k (by omega)
end Mach
section
variable (u v:cf) (s:Int->Int) (D L:Int->Int->Prop) (β:Int->Int->Int) (pre:Int->Int->List Ins)
structure FR(f f':Fr):Prop where
 ids:f'.bL=f.bL∧f'.c8=f.c8∧f'.fn=f.fn
 fn:0<=f.fn∧f.fn<u.fns.length
 live:L f.fn f.blk
 blk:f'.blk=β f.fn f.blk
 pos:f'.pos=(pre f.fn f.blk).length+f.pos
 vals:VR (D f.fn) s f.vals f'.vals
def R2(f f':Fr):List Fr->Prop
 | []=>True
 | g::_=>f'.to=s f.to∧D g.fn f.to
def K4:List Fr->List Fr->Prop
 | [],[]=>True
 | f::r,f'::r'=>FR u s D L β pre f f'∧R2 s D f f' r∧K4 r r'
 | _,_=>False
def Rel(c d:Int)(m m':Mach):Prop:=∃fs l,m'=m.put fs l∧K4 u s D L β pre m.frames fs∧c*m.left<=l∧l<=m.left+d
end
section
variable {u v:cf} {s:Int->Int} {D L:Int->Int->Prop} {β:Int->Int->Int} {pre:Int->Int->List Ins} {c d:Int}
theorem K4.cons{f:Fr}{r:List Fr}{fs:List Fr}(h:K4 u s D L β pre (f::r) fs):∃f' r',fs=f'::r'∧FR u s D L β pre f f'∧R2 s D f f' r∧K4 u s D L β pre r r':=by
 cases fs with
 | nil=>exact False.elim h
 | cons f' r'=>exact⟨f',r',rfl,h.1,h.2.1,h.2.2⟩
theorem ahead{fn b:Int}{B':Block}{rest:List Ins}(hb:aF (bH v fn) (β fn b)=B')(hi:B'.ins=pre fn b++rest)(hp:∀i∈pre fn b,i.op=0∧∀k,D fn k->s k≠i.to){m:Mach}(ho:m.over=false)(hs:m.short=false){f':Fr}{r':List Fr}(h1:f'.fn=fn)(h2:f'.blk=β fn b){es:List (Int×SV)} :
  ∀(n:Nat) (k:Nat) (gG:List (Int×SV)) (l:Int),k+n=(pre fn b).length->(n:Int)<=l->VR (D fn) s es gG ->
   ∃vd,VR (D fn) s es vd∧Mach.Steps v n (m.put ({ f' with pos:=k,vals:=gG }::r') l) (m.put ({ f' with pos:=(pre fn b).length,vals:=vd }::r') (l-n))
 | 0,k,gG,l,hk,hl,hv=>⟨gG,hv,by
   have:l-((0:Nat):Int)=l:=by omega
   rw[this,show k=(pre fn b).length by omega];exact .refl _⟩
 | n+1,k,gG,l,hk,hl,hv=>by
  obtain⟨i,Oz⟩:∃i,(pre fn b)[k]?=some i:=⟨(pre fn b)[k]'(by omega),List.getElem?_eq_getElem _⟩
  obtain⟨q1,q2⟩:=hp i (List.mem_of_getElem? Oz);obtain⟨vd,e1,e2⟩:=ahead hb hi hp ho hs (f':=f') (r':=r') h1 h2 n (k+1) (dg gG i.to (.word i.n)) (l-1) (by omega) (by omega) (hv.other q2 _);refine⟨vd,e1,.cons ho hs (by show 1<=l;omega) ?_⟩;have dz:Mach.step v { m.put ({ f' with pos:=k,vals:=gG }::r') l with left:=l-1 }=m.put ({ f' with pos:=k+1,vals:=dg gG i.to (.word i.n) }::r') (l-1):=by
   unfold Mach.step Mach.put;simp only;rw[h1,h2,hb,hi,List.getElem?_append_left (I Oz),Oz];simp only;unfold Mach.act;rw[if_neg (by omega),if_neg (by omega)];unfold Mach.exec;rw[if_pos q1];rfl
  rw[show l-((n+1:Nat):Int)=l-1-n by omega];show Mach.Steps v n (Mach.step v { m.put ({ f' with pos:=k,vals:=gG }::r') l with left:=l-1 }) _;rw[dz];exact e2
theorem JB{c x l a:Int}(hc:1<=c)(h:c*x<=l)(ha:0<=a):c*(x-a)<=l-a:=by
 have h1:c*(x-a)=c*x-c*a:=Int.mul_sub ..;have h2:1*a<=c*a:=Int.mul_le_mul_of_nonneg_right hc ha;omega
def FU(u v:cf)(s:Int->Int)(D L:Int->Int->Prop)(β:Int->Int->Int)(pre:Int->Int->List Ins)(c d:Int)(m m':Mach):Prop:=∃n BX,Mach.Steps v n m' BX∧Rel u s D L β pre c d m BX
theorem FU.now{m m':Mach}(h:Rel u s D L β pre c d m m'):FU u v s D L β pre c d m m':=⟨0,m',.refl _,h⟩
theorem xK(T:rQ u v s D L β pre c){m:Mach}(ho:m.over=false)(hs:m.short=false){f f':Fr}{r r':List Fr}{l:Int}(hm:m.frames=f::r)
  (h1:f'.bL=f.bL∧f'.c8=f.c8∧f'.fn=f.fn) (h2:0<=f.fn∧f.fn<u.fns.length) (h3:L f.fn f.blk) (h4:f'.blk=β f.fn f.blk) (h5:f.pos=0) (h6:f'.pos=0) (hv:VR (D f.fn) s f.vals f'.vals)
  (ht:R2 s D f f' r) (hr:K4 u s D L β pre r r') (l0:0<=m.left) (l1:c*m.left+(pre f.fn f.blk).length<=l) (l2:l-(pre f.fn f.blk).length<=m.left+d) (hc:1<=c):FU u v s D L β pre c d m (m.put (f'::r') l):=by
 have hB:=T.FY f.fn f.blk h2.1 h2.2 h3;have gA:0<=c*m.left:=Int.mul_nonneg (by omega) l0;obtain⟨vd,e1,e2⟩:=ahead (s:=s) (D:=D) (pre:=pre) (β:=β) (v:=v) rfl hB.ins hB.hd ho hs (f':=f') (r':=r') h1.2.2 h4 (es:=f.vals) (pre f.fn f.blk).length 0 f'.vals l (by omega) (by omega) hv;have e:({ f' with pos:=0,vals:=f'.vals }:Fr)=f':=by
  rw[<-h6]
 rw[e]at e2;refine⟨_,_,e2,_,_,rfl,?_,by omega,by omega⟩;rw[hm];exact⟨⟨h1,h2,h3,h4,by rw[h5];rfl,e1⟩,by cases r<;>exact ht,hr⟩
theorem ug(T:rQ u v s D L β pre c)(hc:1<=c){m:Mach}(ho:m.over=false)(hs:m.short=false){f f':Fr}{r r':List Fr}{y:Int}(hm:m.frames=f::r)(hF:FR u s D L β pre f f')(hT:R2 s D f f' r)(hR:K4 u s D L β pre r r')
  (l0:0<=m.left) (l1:c*m.left+(c-1)<=y) (l2:y<=m.left+d) {e e':Edge} (he:HY v s (D f.fn) (L f.fn) (β f.fn) (pre f.fn) c f.fn e e'):FU u v s D L β pre c d (m.follow u f e) ((m.put (f'::r') y).follow v f' e'):=by
 obtain⟨Yv,Z8,fn',LC,pos',zh,gG⟩:=f';obtain⟨⟨h1,h2,h3⟩,g2,g3,g4,g5,g6⟩:=hF;simp only at h1 h2 h3 g4 g5 g6;subst h1 h2 h3;have hB:=T.FY f.fn e.block g2.1 g2.2 he.live;have ht:cx gG (e.args.map s)=cx f.vals e.args:=g6.take he.args;have dp:(m.follow u f e).frames = { f with blk:=e.block,pos:=0,vals:=cL f.vals (aF (bH u f.fn) e.block).params (cx f.vals e.args) }::r:=by
  show _::m.frames.tail=_;rw[hm];rfl
 rcases he.way with⟨w1,w2,w3⟩|⟨C,e2,w1,w2,w3,w4,w5,w6,w7⟩
 ·have e0:(m.put (⟨f.bL,f.c8,f.fn,LC,pos',zh,gG⟩::r') y).follow v ⟨f.bL,f.c8,f.fn,LC,pos',zh,gG⟩ e'=(m.follow u f e).put (⟨f.bL,f.c8,f.fn,β f.fn e.block,0,zh,cL gG ((aF (bH u f.fn) e.block).params.map s) (cx f.vals e.args)⟩::r') y:=by
   unfold Mach.follow;simp only;rw[w1,w2,hB.params.1,ht];rfl
  rw[e0];exact xK T (m:=m.follow u f e) ho hs dp ⟨rfl,rfl,rfl⟩ g2 he.live rfl rfl rfl (VR.bind (T.inj f.fn) _ _ hB.params.2 g6) hT hR l0 (by
   show c*m.left+(pre f.fn e.block).length<=y;omega) (by
   show y-(pre f.fn e.block).length<=m.left+d;omega) hc
 obtain⟨x1,x2⟩:=w7 gG;have gA:0<=c*m.left:=Int.mul_nonneg (by omega) l0;have s8:VR (D f.fn) s f.vals (cL gG C.params (cx gG e'.args)):=fun k hk=>by rw[x2 k hk,g6 k hk]
 generalize PM:cL gG C.params (cx gG e'.args)=Sg at *;have e0:(m.put (⟨f.bL,f.c8,f.fn,LC,pos',zh,gG⟩::r') y).follow v ⟨f.bL,f.c8,f.fn,LC,pos',zh,gG⟩ e'=m.put (⟨f.bL,f.c8,f.fn,e'.block,0,zh,Sg⟩::r') y:=by
  unfold Mach.follow;simp only;rw[<-w1,PM];rfl
 have e1:Mach.step v { m.put (⟨f.bL,f.c8,f.fn,e'.block,0,zh,Sg⟩::r') y with left:=y-1 }=(m.follow u f e).put (⟨f.bL,f.c8,f.fn,β f.fn e.block,0,zh,cL Sg ((aF (bH u f.fn) e.block).params.map s) (cx f.vals e.args)⟩::r') (y-1):=by
  unfold Mach.step Mach.put;simp only;rw[<-w1,w2];simp only[List.getElem?_nil];unfold Mach.finish;rw[w3,if_neg (by decide),if_pos rfl,w4];simp only[List.getElem?_cons_zero,Option.getD_some];unfold Mach.follow;simp only;rw[x1,ht,w5,hB.params.1];rfl
 rw[e0];obtain⟨n,BX,s1,s2⟩:=xK T (m:=m.follow u f e) (l:=y-1) ho hs dp (f':=⟨f.bL,f.c8,f.fn,β f.fn e.block,0,zh,cL Sg ((aF (bH u f.fn) e.block).params.map s) (cx f.vals e.args)⟩) ⟨rfl,rfl,rfl⟩ g2 he.live rfl rfl rfl (VR.bind (T.inj f.fn) _ _ hB.params.2 s8) hT hR l0 (by
  show c*m.left+(pre f.fn e.block).length<=y-1;omega) (by
  show y-1-(pre f.fn e.block).length<=m.left+d;omega) hc
 refine⟨n+1,BX,.cons ho hs (by show 1<=y;omega) ?_,s2⟩;show Mach.Steps v n (Mach.step v { m.put (⟨f.bL,f.c8,f.fn,e'.block,0,zh,Sg⟩::r') y with left:=y-1 }) BX;rw[e1];exact s1
theorem GU(T:rQ u v s D L β pre c){m:Mach}{f f':Fr}{r r':List Fr}{y:Int}(hm:m.frames=f::r)(hT:R2 s D f f' r)(hR:K4 u s D L β pre r r')(l1:c*m.left<=y)(l2:y<=m.left+d)(x:SV) :
  FU u v s D L β pre c d (m.leave f x) ((m.put (f'::r') y).leave f' x):=by
 refine .now ?_;unfold Mach.leave;rw[hm];simp only[List.tail_cons,Mach.put];cases r with
 | nil =>
  cases r' with
  | nil=>exact⟨[],y,rfl,trivial,l1,l2⟩
  | cons g' r'=>exact False.elim hR
 | cons g r =>
  obtain⟨g',r2,rfl,hG,Vp,YT⟩:=hR.cons;obtain⟨t1,t2⟩:=hT;simp only;refine⟨{ g' with vals:=dg g'.vals f'.to x }::r2,y,rfl,⟨⟨hG.ids,hG.fn,hG.live,hG.blk,hG.pos,?_⟩,by cases r<;>exact Vp,YT⟩,l1,l2⟩;show VR (D g.fn) s (dg g.vals f.to x) (dg g'.vals f'.to x);rw[t1];exact hG.vals.put (T.inj g.fn) t2 x
theorem wN(T:rQ u v s D L β pre c)(hc:1<=c){m:Mach}(ho:m.over=false)(hs:m.short=false){Ut:List Fr}{y:Int}{g:Fr}{r:List Fr}(hm:m.frames=g::r)(hR:K4 u s D L β pre m.frames Ut)(l0:0<=m.left)(l1:c*m.left+(c-1)<=y)(l2:y<=m.left+d)
  {fn:Int} (mz:0<=fn∧fn<u.fns.length) (args:List SV) {to zh:Int} (ht:zh=s to∧D g.fn to):FU u v s D L β pre c d (m.enter u fn args to) ((m.put Ut y).enter v fn args zh):=by
 obtain⟨z1,z2,z3⟩:=T.zero fn mz.1 mz.2;have hB:=T.FY fn 0 mz.1 mz.2 z1;rw[z2]at hB;have e0:(m.put Ut y).enter v fn args zh=(m.enter u fn args to).put (⟨m.next+1,m.next,fn,0,0,zh,cL [] ((aF (bH u fn) 0).params.map s) args⟩::Ut) y:=by
  unfold Mach.enter;rw[hB.params.1];rfl
 rw[e0];refine xK T (m:=m.enter u fn args to) ho hs (f:=⟨m.next+1,m.next,fn,0,0,to,cL [] (aF (bH u fn) 0).params args⟩) (r:=m.frames) rfl ⟨rfl,rfl,rfl⟩ mz z1 z2.symm rfl rfl (VR.bind (T.inj fn) _ _ hB.params.2 (fun _ _=>rfl)) ?_ hR l0 (by
  show c*m.left+(pre fn 0).length<=y;omega) (by
  show y-(pre fn 0).length<=m.left+d;omega) hc
 rw[hm];exact ht
theorem DZ(E:Mach)(E2:SV×Int)(f f':Fr)(fs:List Fr)(to zh y:Int):Mach.settle f' zh (E.put fs y,E2)=(Mach.settle f to (E,E2)).put ({ f' with vals:=dg f'.vals zh E2.1 }::fs.tail) y:=by
 unfold Mach.settle;simp only;split<;>rfl
theorem wj(E:Mach)(E2:SV×Int)(f:Fr)(to:Int):(Mach.settle f to (E,E2)).frames = { f with vals:=dg f.vals to E2.1 }::E.frames.tail∧(Mach.settle f to (E,E2)).left=E.left:=by
 unfold Mach.settle;simp only;split<;>exact⟨rfl,rfl⟩
theorem Kg(T:rQ u v s D L β pre c)(hu:iK u)(hc:1<=c){m m':Mach}(hm:dc u m)(ho:m.over=false)(h1:1<=m.left)(hs:(Mach.step u { m with left:=m.left-1 }).short=false)(hr:Rel u s D L β pre c d m m') :
  ∃n BX,Mach.Steps v (n+1) m' BX∧Rel u s D L β pre c d (Mach.step u { m with left:=m.left-1 }) BX:=by
 obtain⟨fs,l,rfl,Ru,l1,l2⟩:=hr;obtain⟨bI,jT⟩:=hm.over ho;have gA:1*m.left<=c*m.left:=Int.mul_le_mul_of_nonneg_right hc (by omega);have gn:c*(m.left-1)=c*m.left-c:=by rw[Int.mul_sub,Int.mul_one]
 suffices h:FU u v s D L β pre c d (Mach.step u { m with left:=m.left-1 }) (Mach.step v (({ m with left:=m.left-1 }:Mach).put fs (l-1))) by
  obtain⟨n,BX,q1,q2⟩:=h;exact⟨n,BX,.cons ho jT (by show 1<=l;omega) q1,q2⟩
 have oJ:dc u { m with left:=m.left-1 }:=by
  have:=(DI hm ho (by omega)).1
  rwa [Mach.Fp h1]at this
 have e1:({ m with left:=m.left-1 }:Mach).left=m.left-1:=rfl;have k1:c*({ m with left:=m.left-1 }:Mach).left+(c-1)<=l-1:=by rw[e1];omega
 have k2:l-1<=({ m with left:=m.left-1 }:Mach).left+d:=by rw[e1];omega
 have k0:0<=({ m with left:=m.left-1 }:Mach).left:=by rw[e1];omega
 have nV:({ m with left:=m.left-1 }:Mach).over=false:=ho;have vS:({ m with left:=m.left-1 }:Mach).short=false:=jT;have S5:K4 u s D L β pre ({ m with left:=m.left-1 }:Mach).frames fs:=Ru;have Tq:({ m with left:=m.left-1 }:Mach).frames≠[]:=bI;generalize ({ m with left:=m.left-1 }:Mach)=M at *;generalize l-1=y at *;clear hm gA gn l1 l2 Ru bI e1 jT h1 ho;cases dp:M.frames with
 | nil=>exact absurd dp Tq
 | cons f r =>
  rw[dp]at S5;obtain⟨f',r',rfl,hF,hT,hR⟩:=S5.cons;have HP:=oJ.frames f (by rw[dp];simp);have hb:=hu.blocks _ (gz HP.fn.1 HP.fn.2) _ (eW HP.blk.1 HP.blk.2);have hB:=T.FY f.fn f.blk hF.fn.1 hF.fn.2 hF.live;have fQ:(aF (bH v f'.fn) f'.blk).ins[f'.pos]?=((aF (bH u f.fn) f.blk).ins[f.pos]?).map (Lo s):=by
   rw[hF.ids.2.2,hF.blk,hB.ins,hF.pos,List.getElem?_append_right (by omega),Nat.add_sub_cancel_left,List.getElem?_map]
  have l6:(M.put (f'::r') y).frames=f'::r':=rfl;have k3:c*M.left<=y:=by omega
  unfold Mach.step at hs ⊢;rw[dp]at hs ⊢;rw[l6];simp only at hs ⊢;rw[fQ];cases hi:(aF (bH u f.fn) f.blk).ins[f.pos]? with
  | none =>
   simp only[Option.map_none];rw[hF.ids.2.2,hF.blk];generalize aF (bH v f.fn) (β f.fn f.blk)=B' at *;generalize Uv:aF (bH u f.fn) f.blk=B at *;obtain⟨t1,t2,t3,t4⟩:=hB.term;unfold Mach.finish;rw[t1,t2];by_cases q4:B.term.kind=4
   ·rw[if_pos q4,if_pos q4];exact .now ⟨f'::r',y,rfl,by show K4 u s D L β pre M.frames _;rw[dp];exact⟨hF,hT,hR⟩,k3,k2⟩
   rw[if_neg q4,if_neg q4];by_cases q1:B.term.kind=1
   ·rw[if_pos q1,if_pos q1];have hl:=hb.term.jump q1;obtain⟨e,he⟩:∃e,B.term.to[0]?=some e:=⟨B.term.to[0]'(by omega),List.getElem?_eq_getElem _⟩
    obtain⟨e',vM⟩:∃e',B'.term.to[0]?=some e':=⟨B'.term.to[0]'(by omega),List.getElem?_eq_getElem _⟩
    rw[he,vM];exact ug T hc nV vS dp hF hT hR k0 k1 k2 (hB.eZ 0 e e' he vM)
   rw[if_neg q1,if_neg q1];obtain⟨a1,a2⟩:=hB.arg q1 q4;have Zq:eO f'.vals B'.term.arg=eO f.vals B.term.arg:=by rw[a1];exact hF.vals _ a2
   rw[Zq];by_cases q0:B.term.kind=0
   ·rw[if_pos q0,if_pos q0];exact GU T dp hT hR k3 k2 _
   rw[if_neg q0,if_neg q0];by_cases qk:(eO f.vals B.term.arg).kind≠0
   ·rw[if_pos qk,if_pos qk];exact .now ⟨f'::r',y,rfl,by show K4 u s D L β pre M.frames _;rw[dp];exact⟨hF,hT,hR⟩,k3,k2⟩
   rw[if_neg qk,if_neg qk];have oI:eT B'.term (eO f.vals B.term.arg).n=eT B.term (eO f.vals B.term.arg).n:=by
    unfold eT;rw[t1,t3]
   rw[oI];obtain⟨e,he⟩:=wF hb.term q0 q1 q4 (eO f.vals B.term.arg).n;have aZ:=I he;obtain⟨e',vM⟩:∃e',B'.term.to[eT B.term (eO f.vals B.term.arg).n]?=some e':=⟨B'.term.to[eT B.term (eO f.vals B.term.arg).n]'(by omega),List.getElem?_eq_getElem _⟩
   rw[he,vM];exact ug T hc nV vS dp hF hT hR k0 k1 k2 (hB.eZ _ e e' he vM)
  | some i =>
   rw[hi]at hs;simp only[Option.map_some]at hs ⊢;have XK:=List.mem_of_getElem? hi;have za:=hb.ins i XK;have aZ:=I hi;obtain⟨d1,d2⟩:=hB.vals i XK;have en:cx f'.vals (Lo s i).args=cx f.vals i.args:=hF.vals.take d2;rw[en];have l4:B1 u M { f with pos:=f.pos+1 }:=⟨HP.fn,HP.blk,aZ,HP.vals⟩
   have Gy:B1 u (M.bA { f with pos:=f.pos+1 }) { f with pos:=f.pos+1 }:=l4.of_heap (by rfl);have YP:=oJ.bA Tq l4;have ha:=qR Gy.vals i.args;have jK:=oo f.vals i.args;have L8:FR u s D L β pre { f with pos:=f.pos+1 } { f' with pos:=f'.pos+1 }:=⟨hF.ids,hF.fn,hF.live,hF.blk,by show f'.pos+1=_+(f.pos+1);rw[hF.pos];rfl,hF.vals⟩
   have AD:(M.bA { f with pos:=f.pos+1 }).frames = { f with pos:=f.pos+1 }::r:=by
    show _::M.frames.tail=_;rw[dp];rfl
   have e2:(M.put (f'::r') y).bA { f' with pos:=f'.pos+1 }=(M.bA { f with pos:=f.pos+1 }).put ({ f' with pos:=f'.pos+1 }::r') y:=rfl;rw[e2];have Vp:R2 s D { f with pos:=f.pos+1 } { f' with pos:=f'.pos+1 } r:=by cases r<;>exact hT
   have L9:K4 u s D L β pre (M.bA { f with pos:=f.pos+1 }).frames ({ f' with pos:=f'.pos+1 }::r'):=by
    rw[AD];exact⟨L8,Vp,hR⟩
   have Ye:0<=(M.bA { f with pos:=f.pos+1 }).left:=k0;have Yf:c*(M.bA { f with pos:=f.pos+1 }).left+(c-1)<=y:=k1;have Yg:y<=(M.bA { f with pos:=f.pos+1 }).left+d:=k2;have XW:(M.bA { f with pos:=f.pos+1 }).over=false:=nV;have My:(M.bA { f with pos:=f.pos+1 }).short=false:=vS;have ZX:(({ f with pos:=f.pos+1 }:Fr)).vals=f.vals:=rfl;rw[ZX]at ha;unfold Mach.act at hs ⊢;have o1:(Lo s i).op=i.op:=rfl;have o2:(Lo s i).n=i.n:=rfl;have o3:(Lo s i).to=s i.to:=rfl;rw[o1,o2,o3];by_cases Am:i.op=13
   ·rw[if_pos Am,if_pos Am];obtain⟨c1,c2,c3⟩:=za.call Am;exact wN T hc XW My AD L9 Ye Yf Yg ⟨c1,c2⟩ _ ⟨rfl,d1⟩
   rw[if_neg Am]at hs;rw[if_neg Am,if_neg Am];by_cases y6:i.op=14
   ·rw[if_pos y6,if_pos y6];by_cases OB:(bW (cx f.vals i.args) 0).kind=2
    ·have mz:=SV.Wf.fn (ic ha 0) OB;obtain⟨z1,z2,z3⟩:=T.zero _ mz.1 mz.2;have hP:=(T.FY _ 0 mz.1 mz.2 z1).params.1;rw[z2]at hP;rw[hP,List.length_map];by_cases EI:(bW (cx f.vals i.args) 0).kind=2∧(aF (bH u (bW (cx f.vals i.args) 0).n) 0).params.length=(cx f.vals i.args).length
     ·rw[if_pos EI,if_pos EI];exact wN T hc XW My AD L9 Ye Yf Yg mz _ ⟨rfl,d1⟩
     rw[if_neg EI,if_neg EI];exact .now ⟨_,y,rfl,L9,k3,k2⟩
    rw[if_neg (fun q=>OB q.1),if_neg (fun q=>OB q.1)];exact .now ⟨_,y,rfl,L9,k3,k2⟩
   rw[if_neg y6]at hs;rw[if_neg y6,if_neg y6];have hx:=sW YP za jK ha;have Ql:((M.bA { f with pos:=f.pos+1 }).put ({ f' with pos:=f'.pos+1 }::r') y).exec (Lo s i) (cx f.vals i.args)=((M.bA { f with pos:=f.pos+1 }).put ({ f' with pos:=f'.pos+1 }::r') y).exec i (cx f.vals i.args):=rfl;have OQ:=(Mach.yM { f with pos:=f.pos+1 } i.to ((M.bA { f with pos:=f.pos+1 }).exec i (cx f.vals i.args))).1;rw[OQ]at hs;have AH:(M.bA { f with pos:=f.pos+1 }).left<=y:=by
    have:1*M.left<=c*M.left:=Int.mul_le_mul_of_nonneg_right hc k0;show M.left<=y;omega
   rw[Ql,Mach.J2 _ _ _ _ _ hs hx.left.1 AH];generalize (M.bA { f with pos:=f.pos+1 }).exec i (cx f.vals i.args)=X at *;obtain⟨E,E2⟩:=X;have Wz:E.frames = { f with pos:=f.pos+1 }::r:=by
    rw[<-AD];exact hx.frames
   have OW:E.left<=M.left:=hx.left.2;obtain⟨w1,w2⟩:=wj E E2 { f with pos:=f.pos+1 } i.to;refine .now ⟨_,_,DZ E E2 { f with pos:=f.pos+1 } _ _ i.to _ _,?_,?_,?_⟩
   ·rw[w1,Wz];refine⟨⟨L8.ids,L8.fn,L8.live,L8.blk,L8.pos,L8.vals.put (T.inj f.fn) d1 _⟩,by cases r<;>exact hT,hR⟩
   ·rw[w2];have:=JB hc k3 (a:=M.left-E.left) (by omega);rw[show M.left-(M.left-E.left)=E.left by omega]at this;exact this
   rw[w2];show y-(M.left-E.left)<=E.left+d;omega
theorem Rel.core{m m':Mach}(h:Rel u s D L β pre c d m m'):m'.over=m.over∧m'.short=m.short∧m'.out=m.out∧m'.fin=m.fin∧m'.val=m.val∧c*m.left<=m'.left∧m'.left<=m.left+d:=by
 obtain⟨fs,l,rfl,_,l1,l2⟩:=h;exact⟨rfl,rfl,rfl,rfl,rfl,l1,l2⟩
theorem FF(T:rQ u v s D L β pre c)(hu:iK u)(hc:1<=c):∀(k:Nat) (m m':Mach),dc u m->Rel u s D L β pre c d m m'->(Mach.run u k m).short=false->∃n BX,Mach.Steps v n m' BX∧Rel u s D L β pre c d (Mach.run u k m) BX
 | 0,m,m',hm,hr,hs=>⟨0,m',.refl _,hr⟩
 | k+1,m,m',hm,hr,hs=>by
  cases ho:m.over with
  | true =>
   rw[rM ho]at hs ⊢;exact⟨0,m',.refl _,hr⟩
  | false =>
   have bw:Mach.run u (k+1) m=if(m.db 1).short then m.db 1 else Mach.run u k (Mach.step u (m.db 1)):=by simp[Mach.run,ho]
   rw[bw]at hs ⊢;by_cases hp:m.left<1
   ·rw[xi hp]at hs;simp at hs
   obtain⟨q1,q2,q3,q4,q5⟩:=DI hm ho hp;rw[if_neg (by simp[q3])]at hs ⊢;have lK:(m.db 1).frames.length+(m.db 1).left+1<=2 ^ 40:=by
    have:=hm.depth;rw[q4,q5];omega
   have dz:=dc.step hu q1 q2 lK;have OQ:(Mach.step u (m.db 1)).short=false:=by
    cases hx:(Mach.step u (m.db 1)).short with
    | false=>rfl
    | true =>
     have ho:(Mach.step u (m.db 1)).over=true:=by
      cases hy:(Mach.step u (m.db 1)).over with
      | true=>rfl
      | false=>rw[(dz.over hy).2]at hx;cases hx
     rw[rM ho,hx]at hs;cases hs
   rw[Mach.Fp (by omega)]at dz OQ hs ⊢;obtain⟨n,m1,s1,s2⟩:=Kg T hu hc hm ho (by omega) OQ hr;obtain⟨n2,m2,s3,s4⟩:=FF T hu hc k _ m1 dz s2 hs;exact⟨n+1+n2,m2,s1.trans s3,s4⟩
theorem Bb(T:rQ u v s D L β pre c)(hu:iK u)(hv:iK v)(hc:1<=c){F G:Int}(hF:0<=F∧F<=1000000)(hG:G<=1000000)(hZ:c*F+(c-1)<=G)(he:(df u F).e=0) :
  (df v G).e=0∧(df v G).out=(df u F).out∧(df v G).fin=(df u F).fin∧(df v G).val=(df u F).val∧(df v G).n<=G-c*(F-(df u F).n)∧(df u F).n+(pre u.main 0).length<=(df v G).n:=by
 have hcF:1*F<=c*F:=Int.mul_le_mul_of_nonneg_right hc hF.1;obtain⟨z1,z2,z3⟩:=T.zero u.main hu.main.1 hu.main.2;have hB:=T.FY u.main 0 hu.main.1 hu.main.2 z1;rw[z2]at hB;have X6:=va hu (fuel:=F) hF.1 hF.2;have Qj:=va hv (fuel:=G) (by omega) hG;have Qi:FU u v s D L β pre c (G-F-(pre u.main 0).length) ((Mach.start F).enter u u.main [] 0) ((Mach.start G).enter v v.main [] 0):=by
  have e0:(Mach.start G).enter v v.main [] 0=((Mach.start F).enter u u.main [] 0).put [⟨5,4,u.main,0,0,0,cL [] ((aF (bH u u.main) 0).params.map s) []⟩] G:=by
   rw[T.main];unfold Mach.enter;rw[hB.params.1];rfl
  rw[e0];refine xK T (m:=(Mach.start F).enter u u.main [] 0) rfl rfl (f:=⟨5,4,u.main,0,0,0,cL [] (aF (bH u u.main) 0).params []⟩) (r:=[]) rfl ⟨rfl,rfl,rfl⟩ hu.main z1 z2.symm rfl rfl (VR.bind (T.inj u.main) _ _ hB.params.2 (fun _ _=>rfl)) trivial trivial hF.1 (by
   show c*F+(pre u.main 0).length<=G;omega) (by
   show G-(pre u.main 0).length<=F+(G-F-(pre u.main 0).length)
   omega) hc
 obtain⟨n0,m0,s0,r0⟩:=Qi;unfold df at he ⊢;simp only at he ⊢;have ZS:=DW hu (F.toNat+2) _ X6 (by simp[Mach.enter,Mach.start]);have uw:=DW hv (G.toNat+2) _ Qj (by simp[Mach.enter,Mach.start]);have Ws:=fun h=>FF T hu hc (F.toNat+2) _ m0 X6 r0 h;generalize Mach.run u (F.toNat+2) ((Mach.start F).enter u u.main [] 0)=E at *;cases hs:E.short with
 | true =>
  rw[hs]at he;simp at he
 | false =>
  obtain⟨n1,m1,s1,r1⟩:=Ws hs;have S:=s0.trans s1;obtain⟨b1,b2,b3,b4,b5,b6,b7⟩:=r1.core;have hle:n0+n1<=G.toNat+2:=Classical.byContradiction fun q=>by
   have:=S.before (G.toNat+2) (by omega);rw[uw.1]at this;cases this
  have qu:Mach.run v (G.toNat+2) ((Mach.start G).enter v v.main [] 0)=m1:=by
   have:=S.run (G.toNat+2-(n0+n1));rw[show n0+n1+(G.toNat+2-(n0+n1))=G.toNat+2 by omega]at this;rw[this];exact rM (by rw[b1];exact ZS.1) _
  rw[qu,b2,hs];simp only[Bool.false_eq_true,if_false];refine⟨trivial,b3,b4,b5,?_,?_⟩
  ·rw[show F-(F-E.left)=E.left by omega];omega
  omega
end
end Go.Proofs.YtjdnhamngpafmaaGreat
namespace Go.Proofs.YtjdnhamngpafmaaGreat
open Go.Av
theorem rh:∀(ps:List Int) (l:List SV) (es:List (Int×SV)) (k:Int),k ∉ ps->eO (cL es ps l) k=eO es k
 | [],l,es,k,_=>by cases l<;>rfl
 | p::ps,[],es,k,_=>rfl
 | p::ps,a::l,es,k,h=>by
  rw[cL,rh ps l _ k (fun q=>h (List.mem_cons_of_mem _ q)),Al,if_neg (fun q=>h (by rw[q];exact List.mem_cons_self))]
theorem xC:∀(ps:List Int) (l:List SV) (es:List (Int×SV)),ps.Nodup->ps.length=l.length->cx (cL es ps l) ps=l
 | [],[],es,_,_=>rfl
 | p::ps,a::l,es,hn,hl=>by
  rw[List.nodup_cons]at hn;have ih:=xC ps l (dg es p a) hn.2 (by simpa using hl);unfold cx at ih ⊢;rw[cL,List.map_cons,ih,rh ps l _ p hn.1,Al,if_pos rfl]
 | [],a::l,es,_,hl=>by simp at hl
 | p::ps,[],es,_,hl=>by simp at hl
end Go.Proofs.YtjdnhamngpafmaaGreat
namespace Go.Proofs.YtjdnhamngpafmaaGreat
open Go.Av
section
variable {f:Func}
end
end Go.Proofs.YtjdnhamngpafmaaGreat
namespace Go.Proofs.YtjdnhamngpafmaaGreat
open Go.Av
theorem qn:∀{l:List Func},(∀f∈l,aN f=0)->lX l=0
 | [],_=>rfl
 | g::r,h=>by
  unfold lX;rw[dZ (h g List.mem_cons_self)];exact qn fun f hf=>h f (List.mem_cons_of_mem _ hf)
theorem pX{u:cf}:∀{l:List Ins},(∀i∈l,fN u i=0)->o6 u l=0
 | [],_=>rfl
 | g::r,h=>by
  unfold o6;rw[dZ (h g List.mem_cons_self)];exact pX fun f hf=>h f (List.mem_cons_of_mem _ hf)
theorem pV{u:cf}:∀{l:List Block},(∀b∈l,∀i∈b.ins,fN u i=0)->mS u l=0
 | [],_=>rfl
 | g::r,h=>by
  unfold mS;rw[dZ (pX (h g List.mem_cons_self))];exact pV fun f hf=>h f (List.mem_cons_of_mem _ hf)
theorem pW{u:cf}:∀{l:List Func},(∀f∈l,∀b∈f.blocks,∀i∈b.ins,fN u i=0)->j8 u l=0
 | [],_=>rfl
 | g::r,h=>by
  unfold j8;rw[dZ (pV (h g List.mem_cons_self))];exact pW fun f hf=>h f (List.mem_cons_of_mem _ hf)
theorem jk{u:cf}(h:dV u=0):u.fns.length≠0∧u.fns.length<=256∧within u.main 0 ((u.fns.length:Int)-1)=true∧(∀f∈u.fns,aN f=0)∧(aF (bH u u.main) 0).params.length=0∧j8 u u.fns=0:=by
 unfold dV at h;split at h
 ·simp at h
 rename_i h1;split at h
 ·simp at h
 rename_i h2;split at h
 ·simp at h
 rename_i h3;obtain⟨h4,h5⟩:=pt h;split at h5
 ·simp at h5
 rename_i h6;exact⟨h1,by omega,by simpa using h3,lY h4,by omega,h5⟩
theorem CC{u:cf}(h1:u.fns.length≠0)(h2:u.fns.length<=256)(h3:within u.main 0 ((u.fns.length:Int)-1)=true)(h4:∀f∈u.fns,aN f=0)(h5:(aF (bH u u.main) 0).params.length=0)(h6:j8 u u.fns=0):dV u=0:=by
 unfold dV;rw[if_neg h1,if_neg (by omega),if_neg (by simp[h3]),dZ (qn h4),if_neg (by omega)];exact h6
theorem Cs{u v:cf}(h1:v.fns.length=u.fns.length)(h2:∀k:Int,0<=k->k<u.fns.length->(aF (bH v k) 0).params.length=(aF (bH u k) 0).params.length){i j:Ins}(ho:j.op=i.op)(hn:j.n=i.n)(hl:j.args.length=i.args.length)(h0:i.op=13∨i.op=9->0<=i.n):fN v j=fN u i:=by
 unfold fN;rw[ho,hn,hl,h1];split
 ·rfl
 split
 ·rfl
 rw[h2 i.n (h0 (by omega)) (by omega)]
theorem Q6(i:Ins):Lo (fun k=>k) i=i:=by
 unfold Lo;rw[List.map_id']
section
variable {u:cf} (bt:u.fit) (hc:dV u=0)
include bt hc
theorem rL{f:Func}(hf:f∈u.fns):gb f:=(cq (bt.2.2 f hf) ((jk hc).2.2.2.1 f hf)).gr
end
end Go.Proofs.YtjdnhamngpafmaaGreat
namespace Go.Proofs.YtjdnhamngpafmaaGreat
open Go.Av
section
variable {u:cf} (bt:u.fit) (hc:dV u=0) (hm:∀f∈u.fns,f.blocks.length+(spM f).news.length<=128)
include bt hc hm
end
end Go.Proofs.YtjdnhamngpafmaaGreat
namespace Go.Proofs.YtjdnhamngpafmaaGreat
open Go.Av
def nm(u:cf):cf:=⟨u.fns.map bu,u.main⟩
theorem oc{u:cf}{k:Int}(h0:0<=k)(h1:k<u.fns.length):bH (nm u) k=bu (bH u k):=by
 unfold bH nm;rw[List.getElem?_map,List.getElem?_eq_getElem (by omega)];rfl
theorem Ft{f:Func}{k:Int}(h0:0<=k)(h1:k<f.blocks.length):aF (bu f) k=eH (aF f k) ((aF f k).term.to.map (gQ f.blocks.length (bn f) k)):=by
 have:=(od (f:=f) (k:=k.toNat) (by omega)).2 ⟨_,tC h0 h1,rfl⟩;rw[Int.toNat_of_nonneg h0]at this
 conv=>lhs;unfold aF
 rw[this];rfl
theorem Pn{f:Func}{v:Int}{p:Int×Int}(h:zl f v p):v<cv f:=by
 obtain⟨k,b,h1,_,h3⟩:=h;refine fresh_gtP (List.mem_flatMap.2 ⟨b,List.mem_of_getElem? h1,?_⟩);rcases h3 with⟨_,q⟩|⟨j,i,q1,q2,_⟩
 ·exact List.mem_append_left _ q
 exact List.mem_append_right _ (List.mem_map.2 ⟨i,List.mem_of_getElem? q1,q2⟩)
theorem x8{f:Func}{k:Nat}{n v:Int}(h:zm f k n v):v<cv f:=by
 obtain⟨p,h,_⟩:=h;exact Pn h
section
variable {u:cf} (bt:u.fit) (hc:dV u=0) (hm:∀f∈u.fns,f.blocks.length+(bn f).length<=128∧cv f+fi f (bn f)<=4096)
include bt hc hm
theorem Be:(nm u).fit:=by
 refine⟨bt.1,by unfold nm;rw[List.length_map];exact bt.2.1,fun g hg=>?_⟩;obtain⟨f,hf,rfl⟩:=List.mem_map.1 hg;exact Fu (bt.2.2 f hf) (hm f hf).1 (hm f hf).2
theorem sm{k:Int}(h0:0<=k)(h1:k<u.fns.length):(aF (bH (nm u) k) 0).params=(aF (bH u k) 0).params:=by
 have hg:=rL bt hc (gz h0 h1);have hn:=List.length_pos_iff.2 hg.ne;rw[oc h0 h1,Ft (by omega) (by omega)];rfl
theorem DM:dV (nm u)=0:=by
 obtain⟨c1,c2,c3,c4,c5,c6⟩:=jk hc;have hl:(nm u).fns.length=u.fns.length:=List.length_map ..;have hmr:=within_iff.1 c3;refine CC (by rw[hl];exact c1) (by rw[hl];exact c2) (by rw[hl];exact c3) (fun g hg=>?_) (by
  have:=sm bt hc hm (k:=u.main) (by omega) (by omega);rw[show(nm u).main=u.main from rfl,this];exact c5) (pW fun g hg b hb i hi=>?_)
 ·obtain⟨f,hf,rfl⟩:=List.mem_map.1 hg;exact xj (bt.2.2 f hf) (c4 f hf) (hm f hf).1 (hm f hf).2
 obtain⟨f,hf,rfl⟩:=List.mem_map.1 hg;obtain⟨k,hk⟩:=List.mem_iff_getElem?.1 hb;rcases fU hk with⟨c,h1,h2,h4⟩|⟨j,x,h1,h2,h3⟩
 ·have sJ:=List.mem_of_getElem? h2;have gI:i∈c.ins:=by
   rw[h4]at hi;exact hi
  have Jb:=sX (((cq (bt.2.2 f hf) (c4 f hf)).blk _ sJ).Ai i gI);rw[Cs (u:=u) hl (fun k h0 h1=>by rw[sm bt hc hm h0 h1]) (i:=i) rfl rfl rfl (fun q=>(Jb.call (by omega)).1)];exact o5 c6 f hf _ sJ i gI
 rw[h3]at hi;cases hi
theorem MN:rQ u (nm u) (fun k=>k) (fun fn k=>k<cv (bH u fn)) (fun fn b=>0<=b∧b<(bH u fn).blocks.length) (fun _ b=>b) (fun _ _=>[]) 2:=by
 obtain⟨_,_,_,c4,_,_⟩:=jk hc;refine⟨List.length_map ..,rfl,fun _ _ _ _ _ h=>h,fun fn h0 h1=>?_,fun fn b h0 h1 hL=>?_⟩
 ·have hg:=rL bt hc (gz h0 h1);have:=List.length_pos_iff.2 hg.ne;exact⟨⟨by omega,by omega⟩,rfl,by simp⟩
 have hf:=gz h0 h1;have hg:=rL bt hc hf;have hv:=jj (bt.2.2 _ hf) (c4 _ hf);have Rq:=tC hL.1 hL.2;have sJ:=List.mem_of_getElem? Rq;rw[oc h0 h1,Ft hL.1 hL.2];refine⟨⟨by rw[List.map_id'];rfl,fun p hp=>fresh_gtP (List.mem_flatMap.2 ⟨_,sJ,List.mem_append_left _ hp⟩)⟩,?_,fun i hi=>⟨fresh_gtP (List.mem_flatMap.2 ⟨_,sJ,List.mem_append_right _ (List.mem_map.2 ⟨i,hi,rfl⟩)⟩),fun a ha=>?_⟩,fun i hi=>by simp at hi,⟨rfl,rfl,rfl,by simp[eH]⟩,fun k1 k4=>⟨rfl,x8 (hv.BF.arg _ _ Rq k1 k4)⟩,fun k e e' he vM=>?_⟩
 ·show(aF (bH u fn) b).ins=[]++(aF (bH u fn) b).ins.map (Lo fun k=>k);rw[List.nil_append]
  conv=>lhs;rw[<-List.map_id (aF (bH u fn) b).ins]
  exact List.map_congr_left fun i _=>(Q6 i).symm
 ·obtain⟨n,hn⟩:=List.mem_iff_getElem?.1 hi;exact x8 (hv.BF.ins _ _ Rq n i hn a ha)
 have VI:=List.mem_of_getElem? he;have Zl:=hg.eZ _ sJ e VI;refine⟨⟨by omega,Zl.2⟩,fun a ha=>x8 (hv.BF.args _ _ Rq e VI a ha),?_⟩;have Gw:((aF (bH u fn) b).term.to.map (gQ (bH u fn).blocks.length (bn (bH u fn)) b))[k]?=some e':=vM;rw[List.getElem?_map,he,Option.map_some,Option.some.injEq]at Gw;rcases gj (bH u fn).blocks.length (bn (bH u fn)) b e with⟨q,_⟩|⟨i,x,q1,q2,q3,_⟩
 ·rw[q]at Gw;rw[<-Gw];exact .inl ⟨rfl,by rw[List.map_id'],by simp⟩
 rw[q2]at Gw;have hC:aF (bu (bH u fn)) e'.block=qD x.head (ct (cv (bH u fn)+fi (bH u fn) ((bn (bH u fn)).take i)) (qE (bH u fn) x)):=by
  rw[<-Gw];unfold aF;simp only[Int.toNat_natCast];rw[qF,q1];rfl
 have jK:e.args.length=qE (bH u fn) x:=by
  have:=(jS (hv.fn.blk _ sJ).fin).2.2.2 e VI;rw[this.2,q3];rfl
 refine .inr ⟨_,_,rfl,by rw[oc h0 h1,hC];rfl,by rw[oc h0 h1,hC];rfl,by rw[oc h0 h1,hC];rfl,q3.symm,by simp,fun es=>?_⟩;rw[oc h0 h1,hC,<-Gw,List.map_id'];refine⟨xC _ _ es (rq _ _) ((frL_lenP _ _).trans (by unfold cx;rw[List.length_map];exact jK.symm)),fun k hk=>rh _ _ es k fun Zz=>?_⟩;have:=frL_memP.1 Zz;omega
theorem JZ(he:(runM u 1500).e=0):(runM (nm u) 1000000).e=0∧(runM (nm u) 1000000).out=(runM u 1500).out∧(runM (nm u) 1000000).fin=(runM u 1500).fin∧(runM (nm u) 1000000).val=(runM u 1500).val:=by
 have hu:=yW bt hc;have Gt:=DM bt hc hm;have hv:=yW (Be bt hc hm) Gt;have hA:runM u 1500=df u 1500:=by
  unfold runM;rw[if_neg (by simp[hc]),if_neg (by decide)]
 have hB:runM (nm u) 1000000=df (nm u) 1000000:=by
  unfold runM;rw[if_neg (by simp[Gt]),if_neg (by decide)]
 rw[hA]at he ⊢;rw[hB];obtain⟨q1,q2,q3,q4,q5,q6⟩:=Bb (MN bt hc hm) hu hv (by omega) (F:=1500) (G:=1000000) (by omega) (by omega) (by omega) he;exact⟨q1,q2,q3,q4⟩
end
end Go.Proofs.YtjdnhamngpafmaaGreat
