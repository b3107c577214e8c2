/- Texts of the proof, bound together and shortened by a program of mine. -/
import Derived.Test.YtjdnhamngpafmaaGreatG4
import Derived.Sort.Grow
set_option linter.all false
set_option maxRecDepth 100000
set_option maxHeartbeats 4000000
namespace Go.Proofs.YtjdnhamngpafmaaGreat
open Go.Av Tryz
def oS(l:List Int)(n:Int):Bool:=l.any fun x=>decide (x=n)
theorem wE{l:List Int}{n:Int}:oS l n=true↔n∈l:=by
 simp[oS]
def Qj(f:Func)(a b:Int):Prop:=∃x∈Ea f a,x.block=b
def Ve(f:Func):List (Int×Int)->Prop
 | []=>True
 | [p]=>p.1=0
 | p::q::r=>Qj f q.1 p.1∧p.1≠0∧Ve f (q::r)
variable {f:Func}
theorem Ve.tail{p:Int×Int}{r:List (Int×Int)}(h:Ve f (p::r)):Ve f r:=by
 cases r with
 | nil=>trivial
 | cons q r=>exact h.2.2
theorem Ve.head{b e e':Int}{r:List (Int×Int)}(h:Ve f ((b,e)::r)):Ve f ((b,e')::r):=by
 cases r with
 | nil=>exact h
 | cons q r=>exact h
structure Jn(f:Func)(S:Sr):Prop where
 st:Ve f S.st
 out:∀i v,S.out[i]?=some v->(v≠0∧∃a,Qj f a v∧((∃j,i<j∧S.out[j]?=some a)∨∃e,(a,e)∈S.st))∨(v=0∧S.st=[]∧i+1=S.out.length)
theorem Jn.step(hg:FN f){S:Sr}(hS:S7 f S)(h:Jn f S):Jn f (Jf f S):=by
 obtain⟨seen,st,out⟩:=S;obtain⟨h1,h2⟩:=h;simp only at h1 h2;cases st with
 | nil=>exact⟨h1,h2⟩
 | cons p r =>
  obtain⟨b,e⟩:=p;have hp:=hS.blk (b,e) A6;simp only at hp;have hold:∀i v,out[i]?=some v->v≠0∧∃a,Qj f a v∧((∃j,i<j∧out[j]?=some a)∨∃e',(a,e')∈(b,e)::r):=fun i v hi=>by
   rcases h2 i v hi with q|⟨_,q,_⟩
   ·exact q
   cases q
  simp only[Jf];split
  ·refine⟨h1.tail,fun i v hi=>?_⟩;simp only at hi ⊢;by_cases AF:i<out.length
   ·rw[EV AF]at hi;obtain⟨q0,a,q1,q2⟩:=hold i v hi;refine .inl ⟨q0,a,q1,?_⟩;rcases q2 with⟨j,q2,q3⟩|⟨e',q2⟩
    ·exact .inl ⟨j,q2,by rw[EV (AE q3)];exact q3⟩
    rcases List.mem_cons.1 q2 with q|q
    ·simp only[NB]at q;exact .inl ⟨out.length,AF,by rw[q.1];simp⟩
    exact .inr ⟨e',q⟩
   have Bo:=AE hi;simp only[Bf,CE,GD]at Bo;have:i=out.length:=I
   subst this;simp at hi;subst hi;cases r with
   | nil=>exact .inr ⟨h1,rfl,A6⟩
   | cons q r=>exact .inl ⟨h1.2.1,q.1,h1.1,.inr ⟨q.2,A6⟩⟩
  rename_i he;obtain⟨x,hx,Lt,F7,Ib⟩:=hg.next ⟨hp.1,hp.2.1⟩ hp.2.2.1 I
  split
  ·refine⟨h1.head,fun i v hi=>.inl ?_⟩;obtain⟨q0,a,q1,q2⟩:=hold i v hi;refine⟨q0,a,q1,?_⟩;rcases q2 with q2|⟨e',q2⟩
   ·exact .inl q2
   rcases List.mem_cons.1 q2 with q|q
   ·simp only[NB]at q;exact .inr ⟨e+1,by simp[q.1]⟩
   exact .inr ⟨e',aO⟩
  refine⟨⟨⟨x,AK hx,Lt⟩,D6,h1.head⟩,fun i v hi=>.inl ?_⟩;obtain⟨q0,a,q1,q2⟩:=hold i v hi;refine⟨q0,a,q1,?_⟩;rcases q2 with q2|⟨e',q2⟩
  ·exact .inl q2
  rcases List.mem_cons.1 q2 with q|q
  ·simp only[NB]at q;exact .inr ⟨e+1,by simp[q.1]⟩
  exact .inr ⟨e',aO⟩
theorem Jn.run(hg:FN f):∀(n:Nat) (S:Sr),S7 f S->Jn f S->Jn f (Kb f n S)
 | 0,S,_,h=>h
 | n+1,S,hS,h=>by
  simp only[Kb];cases Au:S.st with
  | nil=>simpa[Au]using h
  | cons p r =>
   simp only[iZ,JS,Gf];exact Jn.run hg n _ (kd hg hS qa).1 (h.step hg hS)
theorem Jn.start(f:Func):Jn f (Hi f):=⟨rfl,fun i v h=>by simp[Hi]at h⟩
theorem sr(hg:FN f){n:Nat}{v:Int}(h:(Cf f)[n]?=some v):(n=0∧v=0)∨∃a,Qj f a v∧a∈(Cf f).take n:=by
 have h0:=kO hg;have h1:=ky hg 100000 _ h0.1 h0.2;have hJ:=Jn.run hg 100000 _ h0.1 (Jn.start f);have hn:=AE h;unfold Cf Q9 at *;generalize Kb f 100000 (Hi f)=S at *;have hl:n<S.out.length:=by simpa using hn
 rw[pJ hl]at h;rcases hJ.out _ _ h with⟨_,a,q1,q2⟩|⟨q1,_,q3⟩
 ·rcases q2 with⟨j,q3,q4⟩|⟨e,q3⟩
  ·refine .inr ⟨a,q1,?_⟩;have hj:=AE q4;have:(S.out.reverse)[S.out.length-1-j]?=some a:=by
    rw[pJ I,<-q4];congr 1;omega
   exact AK (i:=S.out.length-1-j) (by rw[GC,A9 I];exact this)
  rw[h1.2]at q3;cases q3
 exact .inl ⟨I,q1⟩
variable {k j:Nat}{a:Int}
theorem qdE{ls:List (List Int)}{e:Edge}(h:a∈ls[j]?.getD []):a∈(Ka k ls e)[j]?.getD []:=by
 unfold Ka;by_cases q:e.block.toNat=j
 ·subst q;by_cases hl:e.block.toNat<ls.length
  ·rw[Bb hl];simp[h]
  rw[H3 I]at h;simp at h
 rw[Ap q];exact h
theorem si{k:Nat}{j:Nat}{a:Int}:∀{es:List Edge} {ls:List (List Int)},a∈ls[j]?.getD []->a∈(LV k ls es)[j]?.getD []
 | [],_,h=>h
 | e::r,ls,h=>si (es:=r) (qdE h)
theorem u7{j:Nat}{a:Int}:∀{bs:List Block} {k:Nat} {ls:List (List Int)},a∈ls[j]?.getD []->a∈(N3 k ls bs)[j]?.getD []
 | [],_,_,h=>h
 | b::r,k,ls,h=>u7 (bs:=r) (si h)
theorem vA{k:Nat}:∀{es:List Edge} {ls:List (List Int)} {x:Edge},x∈es->x.block.toNat<ls.length->(k:Int)∈(LV k ls es)[x.block.toNat]?.getD []
 | [],_,_,h,_=>by cases h
 | e::r,ls,x,h,hl=>by
  show(k:Int)∈(LV k (Ka k ls e) r)[x.block.toNat]?.getD [];rcases List.mem_cons.1 h with q|q
  ·subst q;apply si;unfold Ka;rw[Bb hl];simp
  exact vA q (by rw[su];exact hl)
theorem vE:∀{bs:List Block} {k i:Nat} {ls:List (List Int)} {b:Block} {x:Edge},bs[i]?=some b->x∈b.term.to->x.block.toNat<ls.length->((k+i:Nat):Int)∈(N3 k ls bs)[x.block.toNat]?.getD []
 | [],_,_,_,_,_,h,_,_=>by simp at h
 | c::r,k,i,ls,b,x,h,hx,hl=>by
  cases i with
  | zero =>
   simp only[Dh,AM]at h;subst h;exact u7 (bs:=r) (vA hx hl)
  | succ i =>
   have:=vE (bs:=r) (k:=k+1) (i:=i) (ls:=LV k ls c.term.to) Aa hx (by rw[kX];exact hl);rw[show k+(i+1)=k+1+i from I];exact Cd
theorem uW{v:Int}(ha:0<=a∧a<f.blocks.length)(hv:0<=v∧v<f.blocks.length)(h:Qj f a v):a∈(Eb f)[v.toNat]?.getD []:=by
 obtain⟨x,hx,hxv⟩:=h;have hb:=K2 ha.1 ha.2;have:=vE (bs:=f.blocks) (k:=0) (ls:=List.replicate f.blocks.length []) hb hx (by rw[hxv,OG];omega);rw[hxv,Db,Int.toNat_of_nonneg ha.1]at this;exact Cd
theorem qbx(hg:FN f){n:Nat}{v:Int}(h:(Cf f)[n]?=some v):((decide ((n:Int)=0)&&decide (v=0)) ||((Eb f)[v.toNat]?.getD []).any (oS ((Cf f).take n)))=true:=by
 have hb:=(gy hg).2.2;have ED:∀x∈Cf f,0<=x∧x<f.blocks.length:=fun x hx=>hb x (by simpa[Cf]using hx);rcases sr hg h with⟨q1,q2⟩|⟨a,q1,q2⟩
 ·simp[q1,q2]
 have ha:=ED a (KF q2);have hv:=ED v (AK h);simp only[Hq,dF];exact .inr ⟨a,uW ha hv q1,wE.2 q2⟩
structure Nd(f:Func)(S:Sr):Prop where
 nd:(S.out++S.st.map (·.1)).Nodup
 seen:∀v,v∈S.out++S.st.map (·.1)↔(0<=v∧S.seen[v.toNat]?.getD false=true)
 outs:∀v∈S.out,∀x∈Ea f v,S.seen[x.block.toNat]?.getD false=true
 st:∀p∈S.st,∀(j:Nat) x,(j:Int)<p.2->(Ea f p.1)[j]?=some x->S.seen[x.block.toNat]?.getD false=true
theorem ot{l:List Bool}(h:l[j]?.getD false=true):(l.set k true)[j]?.getD false=true:=by
 have hj:j<l.length:=by
  refine N8 fun q=>?_;rw[H3 I]at h;cases h
 by_cases e:k=j
 ·subst e;rw[Bb hj];rfl
 rw[Ap e];exact h
theorem Nd.step(hg:FN f){S:Sr}(hS:S7 f S)(h:Nd f S):Nd f (Jf f S):=by
 obtain⟨seen,st,out⟩:=S;obtain⟨h1,h2,h3,h4⟩:=h;simp only at h1 h2 h3 h4;cases st with
 | nil=>exact⟨h1,h2,h3,h4⟩
 | cons p r =>
  obtain⟨b,e⟩:=p;have hp:=hS.blk (b,e) A6;simp only at hp;have hlen:=hS.len;simp only at hlen;simp only[Jf];split
  ·rename_i he;refine⟨?_,fun v=>?_,fun v hv x hx=>?_,fun q hq=>h4 q (by simp[hq])⟩
   ·simp only[Ez,JR,HF];simpa using h1
   ·rw[<-h2 v];simp only[Ez,JR,HF,Bc]
   simp only at hv ⊢;rcases List.mem_append.1 hv with q|q
   ·exact h3 v q x hx
   rw[List.mem_singleton.1 q]at hx;obtain⟨j,hj⟩:=MF hx;have:=AE hj;exact h4 (b,e) A6 j x D6 hj
  rename_i he;obtain⟨x,hx,Lt,F7,Ib⟩:=hg.next ⟨hp.1,hp.2.1⟩ hp.2.2.1 I
  split
  ·rename_i hs;refine⟨JT,fun v=>by simpa using h2 v,h3,fun q hq j y hj hy=>?_⟩;simp only at hq ⊢;rcases List.mem_cons.1 hq with q'|q'
   ·subst q';simp only at hj hy;by_cases Bk:(j:Int)<e
    ·exact h4 (b,e) A6 j y Bk hy
    have:j=e.toNat:=I
    subst this;rw[hx]at hy;simp only[AM]at hy;subst hy;rw[Lt];exact hs
   exact h4 q (by simp[q']) j y hj hy
  rename_i hs;have Ls:HN f b e ∉ out++(b::r.map (·.1)):=fun hm=>by
   have:=(h2 (HN f b e)).1 (by simpa using hm);exact hs this.2
  have hk:(HN f b e).toNat<seen.length:=I
  refine⟨?_,fun v=>?_,fun v hv y hy=>ot (h3 v hv y hy),fun q hq j y hj hy=>?_⟩
  ·simp only[Bc]at h1 ⊢;rw[Rc]at h1 ⊢;simp only[HY,not_or]at Ls;refine⟨h1.1,List.nodup_cons.2 ⟨Ls.2,h1.2.1⟩,fun a ha c hc=>?_⟩;rcases List.mem_cons.1 hc with q|q
   ·subst q;exact fun e=>Ls.1 (e ▸ ha)
   exact h1.2.2 a ha c q
  ·simp only[Bc];have Qz:=h2 v;simp only[Bc]at Qz;by_cases e1:v=HN f b e
   ·subst e1;rw[Bb hk];exact KM
   have:v∈out++HN f b e::b::r.map (·.1)↔v∈out++(b::r.map (·.1)):=by
    simp only[HY,CL,e1,false_or]
   rw[this,Qz];by_cases h0:0<=v
   ·rw[Ap I]
   simp[h0]
  simp only at hq ⊢;rcases List.mem_cons.1 hq with q'|q'
  ·subst q';simp only at hj;omega
  rcases List.mem_cons.1 q' with q'|q'
  ·subst q';simp only at hj hy;by_cases Bk:(j:Int)<e
   ·exact ot (h4 (b,e) A6 j y Bk hy)
   have:j=e.toNat:=I
   subst this;rw[hx]at hy;simp only[AM]at hy;subst hy;rw[Lt,Bb hk];rfl
  exact ot (h4 q (by simp[q']) j y hj hy)
theorem Nd.run(hg:FN f):∀(n:Nat) (S:Sr),S7 f S->Nd f S->Nd f (Kb f n S)
 | 0,S,_,h=>h
 | n+1,S,hS,h=>by
  simp only[Kb];cases Au:S.st with
  | nil=>simpa[Au]using h
  | cons p r =>
   simp only[iZ,JS,Gf];exact Nd.run hg n _ (kd hg hS qa).1 (h.step hg hS)
theorem Nd.start(hg:FN f):Nd f (Hi f):=by
 have hl:=List.length_pos_iff.2 hg.ne;refine⟨by simp[Hi],fun v=>?_,fun v hv=>by simp[Hi]at hv,fun p hp j x hj=>?_⟩
 ·simp only[Hi,HF,Bc,Ed,Fq];constructor
  ·intro e;subst e;refine⟨I,?_⟩;rw[Int.toNat_zero,Bb OL];rfl
  rintro⟨h0,h⟩;refine N8 fun q=>?_;rw[Ap I,YA]at h;split at h<;>simp at h
 simp only[Hi,Fq]at hp;subst hp;simp only at hj;omega
theorem P3{l:List Int}{n:Int}:(0<=I5 l n↔n∈l)∧(0<=I5 l n->l[(I5 l n).toNat]?=some n):=by
 unfold I5;have hm:l.findIdx (· == n)<l.length↔n∈l:=by
  rw[List.findIdx_lt_length];simp
 by_cases h:l.findIdx (· == n)<l.length
 ·rw[A9 h];refine⟨⟨fun _=>hm.1 h,fun _=>I⟩,fun _=>?_⟩;have:=List.findIdx_getElem (w:=h);simp only[beq_iff_eq]at this;rw[BH,AY h,this]
 rw[A4 h];exact⟨⟨fun q=>B3 q I,fun q=>B3 (hm.2 q) h⟩,fun q=>B3 q I⟩
def CD(f:Func)(k:Int):Int:=I5 (Cf f) k
structure Kd(f:Func):Prop where
 inj:∀a b,0<=CD f a->CD f a=CD f b->a=b
 zero:CD f 0=0
 at_:∀(i:Nat) v,(Cf f)[i]?=some v->CD f v=i
 get:∀v,0<=CD f v->(Cf f)[(CD f v).toNat]?=some v
 low:∀v,-1<=CD f v∧CD f v<(Cf f).length
 fwd:∀v,1<=CD f v->∃a,Qj f a v∧0<=CD f a∧CD f a<CD f v
 next:∀a b,0<=CD f a->Qj f a b->0<=CD f b
 range:∀v,0<=CD f v->0<=v∧v<f.blocks.length
 few:(Cf f).length<=128
 pos:0<(Cf f).length
theorem Kx(hg:FN f):Kd f:=by
 obtain⟨g1,g2,g3⟩:=gy hg;have h0:=kO hg;have h1:=ky hg 100000 _ h0.1 h0.2;have hN:=Nd.run hg 100000 _ h0.1 (Nd.start hg);have Ic:(Cf f).Nodup:=by
  have:=hN.nd;rw[h1.2]at this;simp only[Ed,F9]at this;unfold Cf List.Nodup;rw[List.pairwise_reverse];exact List.Pairwise.imp (fun h=>Ne.symm h) this
 have ED:∀v,v∈Cf f↔v∈Q9 f:=fun v=>by simp[Cf]
 have AT:0<(Cf f).length:=by
  have:Cf f≠[]:=by simpa[Cf]using g1
  exact List.length_pos_iff.2 this
 have DO:∀v,0<=CD f v->(Cf f)[(CD f v).toNat]?=some v:=fun v hv=>P3.2 hv;have FP:∀(i:Nat) v,(Cf f)[i]?=some v->CD f v=i:=fun i v hi=>by
  have hm:v∈Cf f:=AK hi;have h2:=DO v (P3.1.2 hm);have h3:0<=CD f v:=P3.1.2 hm;have:=(dD (AE h2) Ic).1 (h2.trans hi.symm);omega
 have TN:∀v,-1<=CD f v∧CD f v<(Cf f).length:=fun v=>by
  unfold CD I5;split
  ·omega
  omega
 refine⟨fun a b ha e=>?_,?_,FP,DO,TN,fun v hv=>?_,fun a b ha e=>?_,fun v hv=>?_,by simpa[Cf]using g2,AT⟩
 ·have h2:=DO a ha;have h3:=DO b I;rw[e,h3]at h2;simpa using h2.symm
 ·have:(Cf f)[0]?=some (Cf f)[0]:=AY AT;rcases sr hg this with⟨_,q⟩|⟨a,_,q⟩
  ·have:=FP 0 _ this;rw[q]at this;exact NI
  simp at q
 ·have h2:=DO v I;rcases sr hg h2 with⟨q,_⟩|⟨a,q1,q2⟩
  ·omega
  obtain⟨j,hj⟩:=MF q2;rw[GC]at hj;split at hj
  ·have:=FP j a hj;exact⟨a,q1,I,I⟩
  cases hj
 ·have hm:a∈Q9 f:=(ED a).1 (P3.1.1 ha);obtain⟨x,hx,Lt⟩:=e;have:=hN.outs a hm x hx;rw[Lt]at this;have hb:0<=b:=by
   have hra:=g3 a hm;have:=hg.DN _ (M' hra.1 hra.2) x hx;omega
  have h3:=(hN.seen b).2 ⟨hb,this⟩;rw[h1.2]at h3;simp only[Ed,F9]at h3;exact P3.1.2 ((ED b).2 h3)
 exact g3 v ((ED v).1 (P3.1.1 hv))
def MZ(l:List Int)(k:Int):Int:=l[k.toNat]?.getD (-1)
def UH(f:Func)(k:Int):List Int:=(Eb f)[k.toNat]?.getD []
theorem qeh{ls:List (List Int)}{e:Edge}(h:a∈(Ka k ls e)[j]?.getD []):a∈ls[j]?.getD []∨(a=k∧j=e.block.toNat):=by
 unfold Ka at h;by_cases q:e.block.toNat=j
 ·subst q;by_cases hl:e.block.toNat<ls.length
  ·rw[Bb hl]at h;simp only[Fp,HY,Fq]at h;rcases h with h|h
   ·exact .inl h
   exact .inr ⟨h,rfl⟩
  rw[H3 Ai]at h;simp at h
 rw[Ap q]at h;exact .inl h
theorem v8{k:Nat}{j:Nat}{a:Int}:∀{es:List Edge} {ls:List (List Int)},a∈(LV k ls es)[j]?.getD []->a∈ls[j]?.getD []∨(a=k∧∃e∈es,j=e.block.toNat)
 | [],_,h=>.inl h
 | e::r,ls,h=>by
  have h:a∈(LV k (Ka k ls e) r)[j]?.getD []:=h;rcases v8 h with q|⟨q1,x,q2,q3⟩
  ·rcases qeh q with q|⟨q1,q2⟩
   ·exact JV
   exact .inr ⟨q1,e,A6,q2⟩
  exact .inr ⟨q1,x,by simp[q2],q3⟩
theorem vD{j:Nat}{a:Int}:∀{bs:List Block} {k:Nat} {ls:List (List Int)},a∈(N3 k ls bs)[j]?.getD []->a∈ls[j]?.getD []∨∃(i:Nat) (b:Block),bs[i]?=some b∧a=(k+i:Nat)∧∃e∈b.term.to,j=e.block.toNat
 | [],_,_,h=>.inl h
 | b::r,k,ls,h=>by
  rw[N3]at h;rcases vD h with q|⟨i,c,q1,q2,q3⟩
  ·rcases v8 q with q|⟨q1,q2⟩
   ·exact JV
   exact .inr ⟨0,b,rfl,q1,q2⟩
  exact .inr ⟨i+1,c,q1,by rw[q2];congr 1;omega,q3⟩
theorem qei(hg:FN f){k p:Int}(hk:0<=k)(h:p∈UH f k):(0<=p∧p<f.blocks.length)∧Qj f p k:=by
 rcases vD h with q|⟨i,b,q1,q2,e,q3,q4⟩
 ·rw[YA]at q;split at q<;>simp at q
 have hi:=AE q1;refine⟨I,e,?_,?_⟩
 ·have:A7 f p=b:=by simp[A7,show p.toNat=i from I,q1]
  rw[Ea,this];exact q3
 have:=hg.DN b (AK q1) e q3;omega
open Go.Av Go.Sort
def Rp(l:List Int):List Int:=l.mergeSort fun x y=>decide (x<=y)
theorem cZ(l:List Int):(Rp l).Perm l:=List.mergeSort_perm _ _
theorem adp(l:List Int):(Rp l).Pairwise (fun x y=>x<=y):=by
 have h:=List.pairwise_mergeSort (le:=fun x y:Int=>decide (x<=y)) (fun a b c h1 h2=>by simp only[Cp]at h1 h2 ⊢;omega) (fun a b=>by simp only[Hq,Cp];omega) l;exact h.imp fun q=>dS
def ue(P:Program)(f:FuncId):Prop:=∀(blk off cap:Nat) (zs:List Int) (w:World),Go.Sort.Holds (Value.int .i64) w blk off zs.toArray->blk<w.heap.size->zs.length<4611686018427387904 ->
 Calls P f #[.slice (some ⟨blk,off,none⟩) zs.length cap] w fun e w' =>
  e=.returned (.tuple #[])∧∃n os,w'=grow (putRow (Value.int .i64) (Sort.ahead w n) blk off (zs.mergeSort fun x y=>decide (x<=y)).toArray) os
theorem qc5{P:Program}{f:FuncId}(Fb:Go.Av.Enters P f)(hc:ue P f){O:List A8}{id:Nat}{zs:List Int}(ho:O[id]?=some (.cells (zs.map aI)))(hl:zs.length<=1000) :
  Aq P f O [.os id zs.length 1] (fun r O'=>r=.Ab []∧O'=O.set id (.cells ((Rp zs).map aI))):=by
 refine⟨Fb,fun g vs hg Qi Ma=>?_⟩;subst Qi;obtain⟨h1,h2⟩:=Ma;simp only[IU]at h1;have Nh:vs[0]?=some (vs[0]' I):=UO _;obtain⟨l,o,cap,he,FZ,hns,C1,hb,Bm,KS⟩:=(h2 0 _ _ rfl Nh).Yo;have Ma:vs = #[.slice (some ⟨l.block,0,none⟩) zs.length cap]:=by
  apply Array.ext
  ·simpa using h1
  intro i NZ Na;have:i=0:=I
  subst this;exact KS
 subst Ma;obtain⟨arr,t,CA,CV,hlen,BQ,Iw,TO⟩:=hg.row ho he;rw[BE]at hlen;have Cg:∀(j:Nat) x,zs[j]?=some x->arr[j]?=some (.int .i64 x)∧Mu (.int .i64 x):=fun j x hj=>by
  have Ff:=AE hj;have XV:arr[j]?=some (arr[j]' I):=UO _;obtain⟨e,hf⟩:=(BQ j (aI x) _ (by simp[hj]) XV).D0;exact⟨by rw[XV,e],hf⟩
 have hH:Go.Sort.Holds (Value.int .i64) g.w l.block 0 zs.toArray:=fun j hj=>by
  have CK:j<zs.length:=QO
  refine⟨?_,by simp[World.frozen?,CV]⟩;rw[show g.w.cell? ⟨l.block,0+j,none⟩=arr[0+j]? from Go.Av.cell_of_row CV (0+j),Db,(Cg j _ (AY CK)).1];simp[CK]
 refine(hc l.block 0 cap zs g.w hH (Gq CV) I).mono ?_;rintro e w' ⟨rfl,n,os,JZ⟩;have GK:(zs.mergeSort fun x y=>decide (x<=y))=Rp zs:=rfl;rw[GK]at JZ;have hp:=cZ zs;obtain⟨ss,Pp⟩:∃ss,ss=Rp zs:=⟨_,rfl⟩
 rw[<-Pp]at JZ hp ⊢;have EH:=hp.length_eq;have qld:=Gq CV;have FI:∀k,k<g.w.heap.size->w'.heap[k]?=(g.w.heap.modify l.block (onCells (putCells (Value.int .i64) 0 ss.toArray)))[k]?:=fun k hk=>by
  subst JZ;simp only[grow,putRow,mapBlock,Sort.ahead];rw[Array.getElem?_append_left Ue]
 have qm4:w'.heap[l.block]?=some (.cells (putCells (Value.int .i64) 0 ss.toArray arr) t (0,0)):=by
  rw[FI _ qld,dA,A9 rfl,CV];rfl
 have yR:∀k,k<g.w.heap.size->k≠l.block->w'.heap[k]?=g.w.heap[k]?:=fun k hk AT=>by
  rw[FI k hk,dA,A4 (fun q=>AT q.symm)]
 have El:∀(j:Nat) x,ss[j]?=some x->(putCells (Value.int .i64) 0 ss.toArray arr)[j]?=some (.int .i64 x):=fun j x hj=>by
  have Ff:=AE hj;have XV:arr[j]?=some (arr[j]' I):=UO _;simp only[putCells,Array.getElem?_mapIdx,XV,FV,Db,H4,FA,Zw,Jj];rw[A9 Ff];simp[hj]
 have Ew:N6 g id (.cells (zs.map aI)) (some l) (.cells (ss.map aI)) w' :=
  {obj:=ho
   os:=by rw[JZ];rfl
   tape:=by rw[JZ];rfl
   output:=by rw[JZ];rfl
   size:=by rw[JZ];simp[grow,putRow,mapBlock,Sort.ahead]
   block:=fun k hk AT=>yR k hk fun e=>AT l he trivial e.symm
   cell:=fun b off x hx hb=>by
    by_cases e:b=l.block
    ·have:=hb l he trivial e.symm;omega
    rw[ZW (yR b (ax hx) e)];exact hx
   place:=fun l1 h1 _=>by
    simp only[AM]at h1;subst h1;exact .inr ⟨l,he,trivial,rfl,B6 _⟩
   spare:=fun m h=>NG
   plain:=fun _=>⟨Bd,he⟩
   gone:=A6}
 refine⟨g.Am id (some l) (.cells (ss.map aI)) w',.tuple #[],.Ab [],rfl,rfl,Le.Am hg Ew,Good.Am hg Ew ?_ ?_,.Ab rfl A6,rfl,rfl⟩
 ·refine⟨l,_,t,rfl,CA,qm4,by simp[putCells,EH];omega,fun j c u hj hu=>?_,fun c hc=>?_,by simpa[putCells]using TO⟩
  ·rw[Bv]at hj;obtain⟨x,hx,rfl⟩:=Option.map_eq_some_iff.1 hj;rw[El j x hx]at hu;simp only[AM]at hu;subst hu;have hm:x∈zs:=hp.subset (AK hx);obtain⟨i,hi⟩:=MF hm;exact .v (Cg i x hi).2
  obtain⟨x,_,rfl⟩:=List.mem_map.1 hc;trivial
 intro l1 h1 _;simp only[AM]at h1;subst h1;rw[JZ];simp[grow,putRow,mapBlock,Sort.ahead];omega
def DP(f:Func):List Int:=Rp (Cf f)
theorem LL{k:Int}:k∈DP f↔0<=CD f k:=by
 unfold DP CD;rw[(cZ _).mem_iff];exact P3.1.symm
theorem wQ(f:Func):(DP f).length=(Cf f).length:=(cZ _).length_eq
end Go.Proofs.YtjdnhamngpafmaaGreat
namespace Go.Av
theorem kv{P:Program}{kb:Nat}{c:Code}{Q:E7->St->Prop}{n:Nat}{BG:List (Nat×A2)}{A:Nat}{C:Nat->List A2}{N M:Nat}(pos:Nat->Nat)
  (B1:∀i,∀d∈C i,d.scalar) (hl:∀i,(C i).length=M) (F:Nat->List A8->Prop)
  (hF:∀i O,i<N->O[A]?=some (.cells (C i))->F i O->(C (i+1)=C i∧F (i+1) O) ∨
   ∃id o x y,id≠A∧O[id]?=some o∧¬o.Hx∧o.live∧(C i)[pos i]?=some x∧(C (i+1))=(C i).set (pos i) y∧Eh O id x y∧F (i+1) ((O.set id .gone).set A (.cells (C (i+1))))) :
  ∀(m i:Nat) (O:List A8),i+m=N->O[A]?=some (.cells (C i))->F i O->(∀O',O'.length=O.length->O'[A]?=some (.cells (C N))->F N O'->AU P kb c Q ⟨n,BG,O'⟩)->AU P kb c Q ⟨n,BG,O⟩
 | 0,i,O,hi,hA,hf,h=>by
  have:i=N:=I
  subst this;exact h O rfl hA hf
 | m+1,i,O,hi,hA,hf,h=>by
  rcases hF i O I hA hf with⟨e,DH⟩|⟨id,o,x,y,h1,h2,h3,h4,h5,h6,h7,DH⟩
  ·exact kv pos B1 hl F hF m (i+1) O I (by rw[e];exact hA) DH h
  have Mf:=AE hA;refine ZO id h2 h3 h4 BG (fun s z hz=>⟨z,hz,.refl z⟩) A (Ne.symm h1) (C i) (C (i+1)) hA (by rw[hl,hl]) (B1 (i+1)) (fun j a b ha hb=>?_) (kv pos B1 hl F hF m (i+1) _ I (by rw[Bb (by rw[B2];exact Mf)]) DH fun O' Xb=>h O' (by rw[Xb,B2,B2]));rw[h6,FD]at hb;split at hb
  ·rename_i e;rw[<-e,h5]at ha;rw[A9 (AE h5)]at hb;simp only[AM]at ha hb;subst ha;subst hb;exact h7
  rw[ha]at hb;simp only[AM]at hb;subst hb;exact Uu
end Go.Av
namespace Go.Proofs.YtjdnhamngpafmaaGreat
open Go.Av Tryz
def Fl(A:List Int)(e:Edge):Edge:=⟨MZ A e.block,e.args⟩
def PM(A:List Int)(b:Block):Block:=⟨b.params,b.ins,⟨b.term.kind,b.term.arg,b.term.n,b.term.cases,b.term.to.map (Fl A)⟩⟩
def FG(f:Func):List Int:=(List.range f.blocks.length).map fun(k:Nat)=>I5 (DP f) (k:Int)
def Bj(f:Func):Func:=⟨f.name,(DP f).map fun k=>PM (FG f) (A7 f k)⟩
variable {f:Func}
theorem sj(hw:Kd f):(DP f).Nodup:=by
 refine(cZ _).nodup_iff.2 ?_;unfold List.Nodup;rw[zo];intro i j hi hj F4 e;have h1:=hw.at_ i _ (AY hi);have h2:=hw.at_ j _ (AY hj);rw[e,h2]at h1;omega
theorem ZY(a b:List Edge):B5 (a++b)=B5 a++B5 b:=by simp[B5]
def Kg(A:List Int)(es:List Edge)(n:Nat):List Edge:=(es.take n).map (Fl A)++es.drop n
theorem qfC(A:List Int)(es:List Edge):Kg A es 0=es:=by simp[Kg]
theorem qgu(A:List Int){es:List Edge}{n:Nat}(h:es.length<=n):Kg A es n=es.map (Fl A):=by
 unfold Kg;rw[Cb h,KD h,F9]
theorem wA(A:List Int)(es:List Edge)(n:Nat):(Kg A es n).length=es.length:=by
 unfold Kg;rw[Bf,BE,Dy,ND];omega
variable {es:List Edge}{n:Nat}
theorem xV{e:Edge}(h:es[n]?=some e):(B5 es)[n*2]?=some (aI e.block)∧(B5 es)[n*2+1]?=some (AA e.args):=by
 have hl:=AE h;have e1:es=es.take n++e::es.drop (n+1):=by
  rw[<-D9 h,UP]
 have hlen:(B5 (es.take n)).length=n*2:=by rw[Q5,Dy];omega
 have e2:B5 es=B5 (es.take n)++(aI e.block::AA e.args::B5 (es.drop (n+1))):=by
  conv=>lhs;rw[e1]
  rw[ZY];rfl
 rw[e2];refine⟨?_,?_⟩
 ·rw[Dg I,hlen,FB];rfl
 rw[Dg I,hlen,show n*2+1-n*2=1 from I];rfl
theorem qj9(A:List Int){es:List Edge}{n:Nat}{e:Edge}(h:es[n]?=some e):(Kg A es n)[n]?=some e:=by
 have hl:=AE h;unfold Kg;rw[Dg dM,BE,Dy,show n-min n es.length=0 from I,FC,J4,h]
theorem qfB(A:List Int){es:List Edge}{n:Nat}{e:Edge}(h:es[n]?=some e):As (B5 (Kg A es n)) (n*2) [.v (.int .i64 (MZ A e.block))]=B5 (Kg A es (n+1)):=by
 have hl:=AE h;have hlen:(B5 ((es.take n).map (Fl A))).length=n*2:=by rw[Q5,BE,Dy];omega
 have h1:B5 (Kg A es n)=B5 ((es.take n).map (Fl A))++(aI e.block::AA e.args::B5 (es.drop (n+1))):=by
  unfold Kg;rw[ZY,D9 h];rfl
 have h2:B5 (Kg A es (n+1))=B5 ((es.take n).map (Fl A))++(aI (MZ A e.block)::AA e.args::B5 (es.drop (n+1))):=by
  unfold Kg;rw[ZY,Fs,h,Dx,ZY,Ez];rfl
 rw[LK _ (by rw[Q5,wA];omega),h1,h2,OF _ _ I,hlen,FB,OH]
def IJ(ids:List Nat)(l:List Int):List Nat:=l.map fun k=>ids[k.toNat]?.getD 0
def FU(f:Func)(A:List Int)(l:List Int):List Block:=l.map fun k=>PM A (A7 f k)
structure Qk(f:Func)(A:List Int)(ids:List Nat)(AS X:Nat)(l:List Int)(oid:Nat)(O:List A8):Prop where
 up:∀o∈O,o.upto O.length
 r1:O[1]?=some (.cells [aI 0,.A3 7 [] .ex])
 x5:5<=X
 xb:AS≠X
 bl:5<=AS∧O[AS]?=some (.cells (C9 ids f.blocks))
 li:ids.length=f.blocks.length
 own:∀(j id:Nat) (b:Block),ids[j]?=some id->f.blocks[j]?=some b->b.term.to≠[]->5<=id∧id≠AS∧id≠X∧(l≠[]->id≠oid)∧O[id]?=some (.cells (B5 (if(j:Int)∈l then b.term.to.map (Fl A)else b.term.to)))
 inj:∀(i j id:Nat) (b c:Block),ids[i]?=some id->ids[j]?=some id->f.blocks[i]?=some b->f.blocks[j]?=some c->b.term.to≠[]->c.term.to≠[]->i=j
 out:O[X]?=some (.cells [aI f.name,I2 oid (FU f A l)])
 A3:l≠[]->5<=oid∧oid≠X∧oid≠AS∧O[oid]?=some (.cells (C9 (IJ ids l) (FU f A l)))
theorem Q8(A:List Int)(b:Block):(PM A b).term.to=b.term.to.map (Fl A):=rfl
theorem qgd(A:List Int)(id:Nat)(b:Block):Iz id (b.term.to.map (Fl A))=Iz id b.term.to:=by
 unfold Iz;by_cases h:b.term.to=[]
 ·rw[A9 h,A9 (by rw[h];rfl)]
 rw[A4 h,A4 Aa,BE]
variable {ids:List Nat}{AS X oid:Nat}{O:List A8}
theorem Qk.snoc{A:List Int}{l:List Int}{O1:List A8}(h:Qk f A ids AS X l oid O){k:Nat}{b:Block}{id:Nat}(hb:f.blocks[k]?=some b)(BN:ids[k]?=some id)(hk:(k:Int) ∉ l)
  (hlen:O1.length=O.length) (AN:∀o∈O1,o.upto O.length) (FI:∀j,(b.term.to≠[]->j≠id)->(l≠[]->j≠oid)->O1[j]?=O[j]?) (Qf:b.term.to≠[]->O1[id]?=some (.cells (B5 (b.term.to.map (Fl A))))) {cs ar:List A2}
  (BQ:cs=C9 (IJ ids (l++[(k:Int)])) (FU f A (l++[(k:Int)]))) (R8:ar=[aI f.name,.os O.length (l.length+1) 7]):Qk f A ids AS X (l++[(k:Int)]) O.length ((O1++[A8.cells cs]).set X (.cells ar)):=by
 have Pd:=AE h.out;have CN:=AE h.bl.2;have CA:l≠[]->oid≠X∧oid≠AS∧5<=oid:=fun q=>by obtain⟨a,b,c,_⟩:=h.A3 q;exact⟨b,c,a⟩
 have G2:∀(j id:Nat) (c:Block),ids[j]?=some id->f.blocks[j]?=some c->c.term.to≠[]->id<O.length:=fun j id c h1 h2 h3=>AE (h.own j id c h1 h2 h3).2.2.2.2;have M9:∀j,j<O.length->j≠X->(b.term.to≠[]->j≠id)->(l≠[]->j≠oid)->((O1++[A8.cells cs]).set X (.cells ar))[j]?=O[j]?:=fun j hj hjX h1 h2=>by
  rw[Ap (Ne.symm hjX),EV I,FI j h1 h2]
 have yg:=h.own k id b BN hb;subst BQ;subst R8;exact {
  up:=by
   intro o ho;rw[B2,Bf,IU,hlen];rcases KE ho with q|q
   ·rcases List.mem_append.1 q with q|q
    ·exact Ul
    rw[Fq]at q;subst q;refine uK fun j Da c h1 h2 h3=>?_;unfold IJ at h1;unfold FU at h2;rw[Bv,PB]at h1 h2;obtain⟨k1,e1,e2⟩:=h1;obtain⟨k2,e3,e4⟩:=h2;rw[e1]at e3;simp only[AM]at e3;subst e3;subst e4;rw[Q8]at h3;have DM:(A7 f k1).term.to≠[]:=fun q=>h3 (by rw[q];rfl);have Mk:k1.toNat<f.blocks.length:=by
     refine N8 fun q=>DM ?_;unfold A7;rw[H3 I];rfl
    have Em:f.blocks[k1.toNat]?=some (A7 f k1):=by
     unfold A7;rw[AY Mk];rfl
    have Tm:ids[k1.toNat]?=some Da:=by
     rw[AY (by rw[h.li];exact Mk)]at e2 ⊢;exact Dj some e2
    have:=G2 _ _ _ Tm Em DM;omega
   subst q;exact aW
  r1:=by
   rw[M9 1 (AE h.r1) (by have:=h.x5;omega) (fun q=>by have:=(yg q).1;omega) (fun q=>by have:=(CA q).2.2;omega)];exact h.r1
  x5:=h.x5
  xb:=h.xb
  bl:=by
   refine⟨h.bl.1,?_⟩;rw[M9 AS CN h.xb (fun q=>Ne.symm (yg q).2.1) (fun q=>Ne.symm (CA q).2.1)];exact h.bl.2
  li:=h.li
  own:=fun j Da c h1 h2 h3=>by
   obtain⟨o1,o2,o3,o4,o5⟩:=h.own j Da c h1 h2 h3;have Fv:=AE o5;refine⟨o1,o2,o3,fun _=>I,?_⟩;rw[Ap (Ne.symm o3),EV I];by_cases e:j=k
   ·subst e;rw[BN]at h1;rw[hb]at h2;simp only[AM]at h1 h2;subst h1;subst h2;rw[A9 A6];exact Qf h3
   rw[FI Da (fun q e2=>by
    subst e2;exact e (h.inj j k Da c b h1 BN h2 hb h3 q)) o4,o5]
   have Qv:((j:Int)∈l++[(k:Int)])=((j:Int)∈l):=by
    apply propext;rw[HY,Fq];exact⟨fun q=>q.resolve_right I,.inl⟩
   simp only[Qv]
  inj:=h.inj
  out:=by
   rw[Bb YM];have:I2 O.length (FU f A (l++[(k:Int)]))=.os O.length (l.length+1) 7:=by
    unfold I2 FU;rw[A4 A6,BE,Bf];rfl
   rw[this]
  A3:=fun _=>by
   have h5:=h.x5;refine⟨I,I,I,?_⟩;rw[Ap I,Dg I,hlen,FB];rfl }
theorem qi7(A:List Int)(id:Nat)(b:Block):Fx id (PM A b)=Fx id b:=by
 unfold Fx;rw[Q8,qgd];rfl
theorem m8:∀{ids:List Nat} {bs:List Block} {k id:Nat} {b:Block},ids[k]?=some id->bs[k]?=some b->((C9 ids bs).drop (k*7)).take 7=Fx id b
 | i::ids,c::bs,0,id,b,h1,h2=>by
  simp only[Dh,AM]at h1 h2;subst h1;subst h2;rfl
 | i::ids,c::bs,k+1,id,b,h1,h2=>by
  have ih:=m8 (ids:=ids) (bs:=bs) (k:=k) JT KI;have e:C9 (i::ids) (c::bs)=Fx i c++C9 ids bs:=rfl;have hl:(Fx i c).length=7:=rfl;rw[e,WJ,KD (by rw[hl];omega),hl,HF,show(k+1)*7-7=k*7 from I];exact ih
 | [],_,k,id,b,h1,_=>by simp at h1
 | i::ids,[],k,id,b,_,h2=>by simp at h2
variable {k:Nat}
theorem sq{A:List Int}{l:List Int}{id:Nat}{b:Block}(h1:ids[k]?=some id)(h2:f.blocks[k]?=some b) :
  C9 (IJ ids (l++[(k:Int)])) (FU f A (l++[(k:Int)]))=C9 (IJ ids l) (FU f A l)++Fx id b:=by
 have hb:A7 f (k:Int)=b:=by
  unfold A7;rw[BH,h2];rfl
 unfold IJ FU;rw[Dx,Dx];simp only[Bc,Ed,BH,h1,Fp,hb];rw[tK A6,qi7]
theorem qbR(ids:List Nat)(l:List Int):(IJ ids l).length=l.length:=BE ..
theorem Xx(f:Func)(A:List Int)(l:List Int):(FU f A l).length=l.length:=BE ..
theorem Qk.start(A:List Int){ids:List Nat}{AS:Nat}{O:List A8}(AN:∀o∈O,o.upto O.length)(h1:O[1]?=some (.cells [aI 0,.A3 7 [] .ex]))(hb:5<=AS∧O[AS]?=some (.cells (C9 ids f.blocks)))(hc:XG 5 ids f.blocks O)
  (AT:∀(j id:Nat) (b:Block),ids[j]?=some id->f.blocks[j]?=some b->b.term.to≠[]->id≠AS):Qk f A ids AS O.length [] 0 (O++[A8.cells [aI f.name,.A3 7 [] .ex]]) where
 up:=fun o ho=>by
  rw[Bf,IU];rcases List.mem_append.1 ho with q|q
  ·exact Ul
  rw[Fq]at q;subst q;exact aU
 r1:=D8 h1
 x5:=by
  have:=AE hb.2;omega
 xb:=by
  have:=AE hb.2;omega
 bl:=⟨hb.1,D8 hb.2⟩
 li:=hc.li
 own:=fun j id b q1 q2 q3=>by
  obtain⟨o1,o2⟩:=hc.own j id b q1 q2 q3;have:=AE o2;refine⟨o1,AT j id b q1 q2 q3,I,fun q=>B3 rfl q,?_⟩;rw[A4 A6];exact D8 o2
 inj:=hc.inj
 out:=Se _ _
 A3:=fun q=>B3 rfl q
def I6:Nat->List Nat->List Block->List A2
 | 0,ids,bs=>C9 ids bs
 | i+1,_::ids,b::bs=>b.enc.cells++I6 i ids bs
 | _+1,_,_=>[]
theorem l9:∀(i:Nat) {ids:List Nat} {bs:List Block},ids.length=bs.length->(I6 i ids bs).length=bs.length*7
 | 0,ids,bs,h=>UE h
 | i+1,_::ids,b::bs,h=>by
  have hb:b.enc.cells.length=7:=rfl;rw[I6,Bf,l9 i Aa,hb,CE];omega
 | i+1,[],[],_=>rfl
 | i+1,[],b::bs,h=>by simp at h
 | i+1,x::ids,[],h=>MI
theorem qd5(id:Nat)(b:Block):∀d∈Fx id b,d.scalar:=fun d hd=>by
 simp only[Fx,CL,GG,Di]at hd;rcases hd with rfl|rfl|rfl|rfl|rfl|rfl|rfl
 ·trivial
 ·trivial
 ·trivial
 ·trivial
 ·trivial
 ·trivial
 unfold Iz;split<;>trivial
theorem sF:∀(i:Nat) (ids:List Nat) (bs:List Block),∀d∈I6 i ids bs,d.scalar
 | 0,ids,bs=>fun d hd=>by
  unfold I6 C9 at hd;obtain⟨l,hl,hd⟩:=List.mem_flatten.1 hd;obtain⟨j,hj⟩:=List.mem_iff_getElem?.1 hl;rw[iM]at hj;cases h1:ids[j]? with
  | none=>rw[h1]at hj;cases hj
  | some id =>
   cases h2:bs[j]? with
   | none=>rw[h1,h2]at hj;cases hj
   | some b =>
    rw[h1,h2]at hj;simp only[AM]at hj;subst hj;exact qd5 id b d hd
 | i+1,x::ids,b::bs=>fun d hd=>by
  rw[I6]at hd;rcases List.mem_append.1 hd with q|q
  ·simp only[Block.enc,A2.cells,CL,GG,Di]at q;rcases q with rfl|rfl|rfl|rfl|rfl|rfl|rfl<;>trivial
  exact sF i ids bs d q
 | i+1,[],[]=>fun d hd=>by cases hd
 | i+1,[],b::bs=>fun d hd=>by cases hd
 | i+1,x::ids,[]=>fun d hd=>by cases hd
theorem mY:∀(i:Nat) {ids:List Nat} {bs:List Block} {id:Nat} {b:Block},ids[i]?=some id->bs[i]?=some b ->
  (I6 i ids bs)[i*7+6]?=some (Iz id b.term.to)∧I6 (i+1) ids bs=(I6 i ids bs).set (i*7+6) (An b.term.to)
 | 0,x::ids,c::bs,id,b,h1,h2=>by
  simp only[Dh,AM]at h1 h2;subst h1;subst h2;exact eH
 | i+1,x::ids,c::bs,id,b,h1,h2=>by
  obtain⟨i1,i2⟩:=mY i (ids:=ids) (bs:=bs) (id:=id) (b:=b) JT KI;have hb:c.enc.cells.length=7:=rfl;have e:I6 (i+1) (x::ids) (c::bs)=c.enc.cells++I6 i ids bs:=rfl;have e2:I6 (i+1+1) (x::ids) (c::bs)=c.enc.cells++I6 (i+1) ids bs:=rfl;rw[e,e2,i2];refine⟨?_,?_⟩
  ·rw[Dg I,hb,show(i+1)*7+6-7=i*7+6 from I];exact i1
  rw[OF _ _ I,hb,show(i+1)*7+6-7=i*7+6 from I]
 | 0,[],_,id,b,h1,_=>by simp at h1
 | 0,_::_,[],id,b,_,h2=>by simp at h2
 | i+1,[],_,id,b,h1,_=>by simp at h1
 | i+1,_::_,[],id,b,_,h2=>by simp at h2
theorem l8:∀{ids:List Nat} {bs:List Block},ids.length=bs.length->I6 bs.length ids bs=AP (bs.map Block.enc)
 | [],[],_=>rfl
 | x::ids,b::bs,h=>by
  have e:AP ((b::bs).map Block.enc)=b.enc.cells++AP (bs.map Block.enc):=rfl;rw[e,<-l8 (ids:=ids) Aa];rfl
 | [],b::bs,h=>by simp at h
 | x::ids,[],h=>MI
theorem gp(bs:List Block):(AP (bs.map Block.enc)).map A2.Dd=AP (bs.map Block.enc):=by
 induction bs with
 | nil=>rfl
 | cons b r ih =>
  have e:AP ((b::r).map Block.enc)=b.enc.cells++AP (r.map Block.enc):=rfl;rw[e,Dx,ih];rfl
variable {bs:List Block}
theorem qcz{P:Program}{kb:Nat}{c:Code}{Q:E7->St->Prop}{BG:List (Nat×A2)}{name:Int}
  (hl:ids.length=bs.length) (hX:oid≠X) (Cm:O[X]?=some (.cells [aI name,.os oid bs.length 7])) (oN:O[oid]?=some (.cells (C9 ids bs)))
  (IQ:∀(j id:Nat) (b:Block),ids[j]?=some id->bs[j]?=some b->b.term.to≠[]->id≠oid∧id≠X∧O[id]?=some (.cells (B5 b.term.to)))
  (X8:∀(i j id:Nat) (b d:Block),ids[i]?=some id->ids[j]?=some id->bs[i]?=some b->bs[j]?=some d->b.term.to≠[]->d.term.to≠[]->i=j)
  (h:∀O',O'.length=O.length->O'[X]?=some (.cells [aI name,AR bs])->AU P kb c Q ⟨n,BG,O'⟩):AU P kb c Q ⟨n,BG,O⟩:=by
 refine kv (A:=oid) (C:=fun i=>I6 i ids bs) (N:=bs.length) (M:=bs.length*7) (fun i=>i*7+6) (fun i=>sF i ids bs) (fun i=>l9 i hl)
  (fun i O=>O[X]?=some (.cells [aI name,.os oid bs.length 7])∧∀(j id:Nat) (b:Block),i<=j->ids[j]?=some id->bs[j]?=some b->b.term.to≠[]->id≠oid∧id≠X∧O[id]?=some (.cells (B5 b.term.to)))
  (fun i O hi hA hf=>?_) bs.length 0 O I oN ⟨Cm,fun j id b _=>IQ j id b⟩ (fun O1 Bn hA hf=>?_)
 ·have BN:ids[i]?=some (ids[i]' I):=AY _;have hb:bs[i]?=some (bs[i]'hi):=AY _;generalize ids[i]' I=id at BN;generalize bs[i]'hi=b at hb;obtain⟨m1,m2⟩:=mY i BN hb;by_cases ht:b.term.to=[]
  ·refine .inl ⟨?_,hf.1,fun j id b F4=>hf.2 j id b I⟩;have he:An b.term.to=Iz id b.term.to:=by
    rw[ht];rfl
   show I6 (i+1) ids bs=I6 i ids bs;rw[m2,he];apply Gg;intro j;rw[FD];split
   ·rename_i e;rw[<-e,A9 (AE m1),m1]
   rfl
  obtain⟨o1,o2,o3⟩:=hf.2 i id b (B6 _) BN hb ht;refine .inr ⟨id,.cells (B5 b.term.to),.os id b.term.to.length 2,An b.term.to,o1,o3,Bd,trivial,?_,m2,Eh.os (cs:=B5 b.term.to) o3 (fun x hx=>aaq) A6 aar,?_,fun j Da b' F4 h1 h2 h3=>?_⟩
  ·show(I6 i ids bs)[i*7+6]?=_;rw[m1];exact Dj some (A4 ht)
  ·exact acg
  obtain⟨p1,p2,p3⟩:=hf.2 j Da b' I h1 h2 h3;refine⟨p1,p2,?_⟩;rw[Ap (fun e=>p1 e.symm),Ap (fun e=>?_)]
  ·exact p3
  subst e;have:=X8 i j id b b' BN h1 hb h2 ht h3;omega
 rw[l8 hl]at hA;refine ZO oid hA Bd trivial BG (fun s z hz=>⟨z,hz,.refl z⟩) X (Ne.symm hX) [aI name,.os oid bs.length 7] [aI name,AR bs] hf.1 rfl (fun d hd=>?_) (fun j a d ha hd=>?_) (h _ (by rw[B2,B2,Bn]) ?_)
 ·simp only[CL,GG,Di]at hd;rcases hd with rfl|rfl<;>trivial
 ·match j,ha,hd with
  | 0,ha,hd =>
   simp only[Dh,AM]at ha hd;subst ha;subst hd;exact Uu
  | 1,ha,hd =>
   simp only[LY,Dh,AM]at ha hd;subst ha;subst hd;refine Eh.os hA (fun x hx=>?_) A6 ?_
   ·obtain⟨b,_,rfl⟩:=List.mem_map.1 hx;rfl
   have JY:=l9 bs.length hl;rw[l8 hl]at JY;rw[I7,Cb I];exact gp bs
  | j+2,ha,hd=>simp at ha
 rw[Bb abZ]
def Gb(x:Edge):Block:=⟨[],[],⟨1,0,0,[],[x]⟩⟩
def Dq(b:Block)(es:List Edge):Block:=⟨b.params,b.ins,⟨b.term.kind,b.term.arg,b.term.n,b.term.cases,es⟩⟩
structure Sp where
 tos:List (List Edge)
 news:List Block
def N'(f:Func)(k:Nat)(x:Edge):Bool:=decide (2<=(A7 f (k:Int)).term.to.length)&&decide (2<=(UH f x.block).length)
def QH(f:Func)(k n:Nat)(S:Sp):Sp :=
 match (Ea f (k:Int))[n]? with
 | none=>S
 | some x=>if N' f k x then⟨S.tos.set k ((S.tos[k]?.getD []).set n ⟨((f.blocks.length+S.news.length:Nat):Int),[]⟩),S.news++[Gb x]⟩else S
def Vg(f:Func)(k:Nat):Nat->Nat->Sp->Sp
 | 0,_,S=>S
 | m+1,n,S=>Vg f k m (n+1) (QH f k n S)
def spK(f:Func):Nat->Nat->Sp->Sp
 | 0,_,S=>S
 | m+1,k,S=>spK f m (k+1) (Vg f k (Ea f (k:Int)).length 0 S)
def Kp(f:Func):Sp:=⟨f.blocks.map fun b=>b.term.to,[]⟩
def DI(f:Func):Sp:=spK f f.blocks.length 0 (Kp f)
def DD(f:Func):Func:=⟨f.name,List.zipWith Dq f.blocks (DI f).tos++(DI f).news⟩
structure SpW(f:Func)(S:Sp):Prop where
 len:S.tos.length=f.blocks.length
 each:∀(k:Nat) b l,f.blocks[k]?=some b->S.tos[k]?=some l->l.length=b.term.to.length
theorem y3(f:Func):SpW f (Kp f):=⟨by simp[Kp],fun k b l h1 h2=>by
 unfold Kp at h2;simp only[Bv,h1,FV,AM]at h2;rw[<-h2]⟩
variable {S:Sp}
theorem qhf(h:SpW f S):SpW f (QH f k n S):=by
 unfold QH;split
 ·exact h
 split
 ·refine⟨by rw[B2];exact h.len,fun j b l h1 h2=>?_⟩;simp only at h2;rw[FD]at h2;split at h2
  ·rename_i e;subst e;split at h2
   ·simp only[AM]at h2;rename_i hk;obtain⟨m,hm⟩:∃m,S.tos[k]?=some m:=⟨_,AY hk⟩
    rw[<-h2,B2,hm,Fp];exact h.each k b m h1 hm
   cases h2
  exact h.each j b l h1 h2
 exact h
structure PW(f:Func)(ids:List Nat)(X:Nat)(S:Sp)(AS:Nat)(O:List A8):Prop where
 up:∀o∈O,o.upto O.length
 r1:O[1]?=some (.cells [aI 0,.A3 7 [] .ex])
 x5:5<=X
 xb:AS≠X
 out:O[X]?=some (.cells [aI f.name,.os AS (f.blocks.length+S.news.length) 7])
 bl:5<=AS∧O[AS]?=some (.cells (C9 ids f.blocks++AP (S.news.map Block.enc)))
 li:ids.length=f.blocks.length
 w:SpW f S
 own:∀(j id:Nat) (b:Block) (l:List Edge),ids[j]?=some id->f.blocks[j]?=some b->S.tos[j]?=some l->b.term.to≠[]->5<=id∧id≠AS∧id≠X∧O[id]?=some (.cells (B5 l))
 inj:∀(i j id:Nat) (b c:Block),ids[i]?=some id->ids[j]?=some id->f.blocks[i]?=some b->f.blocks[j]?=some c->b.term.to≠[]->c.term.to≠[]->i=j
theorem PW.start(AN:∀o∈O,o.upto O.length)(h1:O[1]?=some (.cells [aI 0,.A3 7 [] .ex]))(hb:5<=AS∧O[AS]?=some (.cells (C9 ids f.blocks)))(hc:XG 5 ids f.blocks O)
  (AT:∀(j id:Nat) (b:Block),ids[j]?=some id->f.blocks[j]?=some b->b.term.to≠[]->id≠AS):PW f ids O.length (Kp f) AS (O++[A8.cells [aI f.name,.os AS f.blocks.length 7]]) where
 up:=fun o ho=>by
  have CN:=AE hb.2;rw[Bf,IU];rcases List.mem_append.1 ho with q|q
  ·exact Ul
  rw[Fq]at q;subst q;exact aW
 r1:=D8 h1
 x5:=by
  have:=AE hb.2;omega
 xb:=by
  have:=AE hb.2;omega
 out:=Se _ _
 bl:=⟨hb.1,by
  have h2:=D8 (X:=[A8.cells [aI f.name,.os AS f.blocks.length 7]]) hb.2;have e:C9 ids f.blocks++AP ((Kp f).news.map Block.enc)=C9 ids f.blocks:=F9 _;rw[e];exact h2⟩
 li:=hc.li
 w:=y3 f
 own:=fun j id b l q1 q2 q3 q4=>by
  obtain⟨o1,o2⟩:=hc.own j id b q1 q2 q4;have:=AE o2;unfold Kp at q3;simp only[Bv,q2,FV,AM]at q3;rw[<-q3];exact⟨o1,AT j id b q1 q2 q4,I,D8 o2⟩
 inj:=hc.inj
theorem PW.S4(h:PW f ids X S AS O){k id:Nat}{b:Block}{l m:List Edge}(BN:ids[k]?=some id)(hb:f.blocks[k]?=some b)(hl:S.tos[k]?=some l)(AT:b.term.to≠[])(hm:m.length=l.length) :
  PW f ids X ⟨S.tos.set k m,S.news⟩ AS (O.set id (.cells (B5 m))):=by
 obtain⟨o1,o2,o3,o4⟩:=h.own k id b l BN hb hl AT;have Fv:=AE o4;have Ko:=h.x5;have NP:=h.bl.1;exact {
  up:=by
   rw[B2];exact DY h.up (show A8.upto O.length (.cells (B5 m)) from lD _ _)
  r1:=ab2
  x5:=h.x5
  xb:=h.xb
  out:=by rw[Ap o3];exact h.out
  bl:=⟨h.bl.1,by rw[Ap o2];exact h.bl.2⟩
  li:=h.li
  w:=⟨by rw[B2];exact h.w.len,fun j c x h1 h2=>by
   simp only at h2;rw[FD]at h2;split at h2
   ·rename_i e;subst e;split at h2
    ·simp only[AM]at h2;rw[hb]at h1;simp only[AM]at h1;rw[<-h2,<-h1,hm];exact h.w.each k b l hb hl
    cases h2
   exact h.w.each j c x h1 h2⟩
  own:=fun j z c x h1 h2 h3 h4=>by
   simp only at h3;rw[FD]at h3;by_cases e:k=j
   ·subst e;rw[BN]at h1;simp only[AM]at h1;subst h1;rw[A9 rfl]at h3;split at h3
    ·simp only[AM]at h3;subst h3;exact⟨o1,o2,o3,Bb Fv⟩
    cases h3
   rw[A4 e]at h3;obtain⟨p1,p2,p3,p4⟩:=h.own j z c x h1 h2 h3 h4;refine⟨p1,p2,p3,?_⟩;rw[Ap (fun q=>?_)]
   ·exact p4
   subst q;exact e (h.inj k j id b c BN h1 hb h2 AT h4)
  inj:=h.inj }
theorem PW.block(h:PW f ids X S AS O)(c:Block){cs ar:List A2}(BQ:cs=(C9 ids f.blocks++AP (S.news.map Block.enc))++c.enc.cells)(R8:ar=[aI f.name,.os O.length (f.blocks.length+S.news.length+1) 7]) :
  PW f ids X ⟨S.tos,S.news++[c]⟩ O.length ((O.set AS .gone++[A8.cells cs]).set X (.cells ar)):=by
 have Pd:=AE h.out;have CN:=AE h.bl.2;have Ko:=h.x5;have NP:=h.bl.1;have Lt:=h.xb;have M9:∀j,j<O.length->j≠X->j≠AS->((O.set AS .gone++[A8.cells cs]).set X (.cells ar))[j]?=O[j]?:=fun j hj h1 h2=>by
  rw[Ap (Ne.symm h1),EV dY,Ap (Ne.symm h2)]
 have Hg:AP ((S.news++[c]).map Block.enc)=AP (S.news.map Block.enc)++c.enc.cells:=by
  rw[Dx];simp[AP]
 subst R8;exact {
  up:=by
   intro o ho;rw[B2,Bf,B2,IU];rcases KE ho with q|q
   ·rcases List.mem_append.1 q with q|q
    ·rcases KE q with q|q
     ·exact A8.IK I (h.up o q)
     subst q;trivial
    rw[Fq]at q;subst q;subst BQ;show AQ _ _;have h1:=h.up _ (AK h.bl.2);have h2:AQ O.length (C9 ids f.blocks++AP (S.news.map Block.enc)):=h1;rw[CF]at h2 ⊢;intro x hx;rcases List.mem_append.1 hx with q|q
    ·exact A2.IK I x (h2 x q)
    have h3:=Block.Cr (O.length+1) c;have h4:AQ (O.length+1) c.enc.cells:=h3;exact CF.1 h4 x q
   subst q;exact aW
  r1:=by rw[M9 1 (AE h.r1) I I];exact h.r1
  x5:=h.x5
  xb:=I
  out:=by
   rw[Bb (by rw[Bf,B2];omega),Bf];rfl
  bl:=⟨I,by
   rw[Ap I,Dg dY,B2,FB,Hg,<-Ez,<-BQ];rfl⟩
  li:=h.li
  w:=⟨h.w.len,h.w.each⟩
  own:=fun j z b l h1 h2 h3 h4=>by
   obtain⟨p1,p2,p3,p4⟩:=h.own j z b l h1 h2 h3 h4;have:=AE p4;exact⟨p1,I,p3,by rw[M9 z this p3 p2];exact p4⟩
  inj:=h.inj }
theorem iC(bs:List Block):(AP (bs.map Block.enc)).length=bs.length*7:=by
 induction bs with
 | nil=>rfl
 | cons b r ih =>
  have e:AP ((b::r).map Block.enc)=b.enc.cells++AP (r.map Block.enc):=rfl;have hb:b.enc.cells.length=7:=rfl;rw[e,Bf,ih,hb,CE];omega
theorem qaT(bs:List Block):∀d∈AP (bs.map Block.enc),d.scalar:=by
 induction bs with
 | nil=>intro d hd;cases hd
 | cons b r ih =>
  intro d hd;have e:AP ((b::r).map Block.enc)=b.enc.cells++AP (r.map Block.enc):=rfl;rw[e]at hd;rcases List.mem_append.1 hd with q|q
  ·simp only[Block.enc,A2.cells,CL,GG,Di]at q;rcases q with rfl|rfl|rfl|rfl|rfl|rfl|rfl<;>trivial
  exact ih d q
theorem aex{P:Program}{kb:Nat}{c:Code}{Q:E7->St->Prop}{BG:List (Nat×A2)}{T:List Block}{name:Int}
  (hl:ids.length=bs.length) (hX:oid≠X) (Cm:O[X]?=some (.cells [aI name,.os oid (bs.length+T.length) 7])) (oN:O[oid]?=some (.cells (C9 ids bs++AP (T.map Block.enc))))
  (IQ:∀(j id:Nat) (b:Block),ids[j]?=some id->bs[j]?=some b->b.term.to≠[]->id≠oid∧id≠X∧O[id]?=some (.cells (B5 b.term.to)))
  (X8:∀(i j id:Nat) (b d:Block),ids[i]?=some id->ids[j]?=some id->bs[i]?=some b->bs[j]?=some d->b.term.to≠[]->d.term.to≠[]->i=j)
  (h:∀O',O'.length=O.length->O'[X]?=some (.cells [aI name,AR (bs++T)])->AU P kb c Q ⟨n,BG,O'⟩):AU P kb c Q ⟨n,BG,O⟩:=by
 have hT:=iC T;refine kv (A:=oid) (C:=fun i=>I6 i ids bs++AP (T.map Block.enc)) (N:=bs.length) (M:=bs.length*7+T.length*7) (fun i=>i*7+6) (fun i d hd=>by
   rcases List.mem_append.1 hd with q|q
   ·exact sF i ids bs d q
   exact qaT T d q) (fun i=>by rw[Bf,l9 i hl,hT])
  (fun i O=>O[X]?=some (.cells [aI name,.os oid (bs.length+T.length) 7])∧∀(j id:Nat) (b:Block),i<=j->ids[j]?=some id->bs[j]?=some b->b.term.to≠[]->id≠oid∧id≠X∧O[id]?=some (.cells (B5 b.term.to)))
  (fun i O hi hA hf=>?_) bs.length 0 O I oN ⟨Cm,fun j id b _=>IQ j id b⟩ (fun O1 Bn hA hf=>?_)
 ·have BN:ids[i]?=some (ids[i]' I):=AY _;have hb:bs[i]?=some (bs[i]'hi):=AY _;generalize ids[i]' I=id at BN;generalize bs[i]'hi=b at hb;obtain⟨m1,m2⟩:=mY i BN hb;have JY:=AE m1;by_cases ht:b.term.to=[]
  ·refine .inl ⟨?_,hf.1,fun j id b F4=>hf.2 j id b I⟩;have he:An b.term.to=Iz id b.term.to:=by
    rw[ht];rfl
   show I6 (i+1) ids bs++_=I6 i ids bs++_;rw[m2,he];congr 1;apply Gg;intro j;rw[FD];split
   ·rename_i e
    first|rw[<-e,m1]|rw[<-e,A9 (AE m1),m1]
   rfl
  obtain⟨o1,o2,o3⟩:=hf.2 i id b (B6 _) BN hb ht;refine .inr ⟨id,.cells (B5 b.term.to),.os id b.term.to.length 2,An b.term.to,o1,o3,Bd,trivial,?_,?_,Eh.os (cs:=B5 b.term.to) o3 (fun x hx=>aaq) A6 aar,?_,fun j Da b' F4 h1 h2 h3=>?_⟩
  ·show(I6 i ids bs++_)[i*7+6]?=_;rw[EV JY,m1];exact Dj some (A4 ht)
  ·show I6 (i+1) ids bs++_=(I6 i ids bs++_).set (i*7+6) _;rw[m2,iT _ _ JY]
  ·exact acg
  obtain⟨p1,p2,p3⟩:=hf.2 j Da b' I h1 h2 h3;refine⟨p1,p2,?_⟩;rw[Ap (fun e=>p1 e.symm),Ap (fun e=>?_)]
  ·exact p3
  subst e;have:=X8 i j id b b' BN h1 hb h2 ht h3;omega
 have Br:I6 bs.length ids bs++AP (T.map Block.enc)=AP ((bs++T).map Block.enc):=by
  rw[l8 hl,Dx];simp[AP]
 rw[Br]at hA;refine ZO oid hA Bd trivial BG (fun s z hz=>⟨z,hz,.refl z⟩) X (Ne.symm hX) [aI name,.os oid (bs.length+T.length) 7] [aI name,AR (bs++T)] hf.1 rfl (fun d hd=>?_) (fun j a d ha hd=>?_) (h _ (by rw[B2,B2,Bn]) ?_)
 ·simp only[CL,GG,Di]at hd;rcases hd with rfl|rfl<;>trivial
 ·match j,ha,hd with
  | 0,ha,hd =>
   simp only[Dh,AM]at ha hd;subst ha;subst hd;exact Uu
  | 1,ha,hd =>
   simp only[LY,Dh,AM]at ha hd;subst ha;subst hd;refine Eh.os hA (fun x hx=>?_) A6 ?_
   ·obtain⟨b,_,rfl⟩:=List.mem_map.1 hx;rfl
   have JY:=iC (bs++T);rw[Bf]at JY;rw[I7,Cb I];exact gp (bs++T)
  | j+2,ha,hd=>simp at ha
 rw[Bb abZ]
theorem qi9{T:List A2}{id:Nat}{b:Block}(h1:ids[k]?=some id)(h2:bs[k]?=some b):(C9 ids bs++T)[k*7+6]?=some (Iz id b.term.to):=by
 have h3:=m8 h1 h2;have h4:(((C9 ids bs).drop (k*7)).take 7)[6]?=some (Iz id b.term.to):=by
  rw[h3];rfl
 rw[GC,A9 I,FC]at h4;rw[EV (AE h4)];exact h4
theorem qi8(id:Nat)(b:Block)(l:List Edge)(h:l.length=b.term.to.length):Fx id (Dq b l)=Fx id b:=by
 unfold Fx Dq Iz;simp only;by_cases q:b.term.to=[]
 ·rw[A9 q,A9 (by rw[q]at h;exact List.length_eq_zero_iff.1 h)]
 rw[A4 q,A4 (fun r=>q (by rw[r]at h;exact List.length_eq_zero_iff.1 h.symm)),h]
theorem vn:∀{ids:List Nat} {bs:List Block} {tos:List (List Edge)},tos.length=bs.length->(∀(k:Nat) b l,bs[k]?=some b->tos[k]?=some l->l.length=b.term.to.length)->C9 ids (List.zipWith Dq bs tos)=C9 ids bs
 | [],_,_,_,_=>by simp[C9]
 | _::_,[],[],_,_=>rfl
 | i::ids,b::bs,l::tos,h,hl=>by
  have e1:C9 (i::ids) (List.zipWith Dq (b::bs) (l::tos))=Fx i (Dq b l)++C9 ids (List.zipWith Dq bs tos):=rfl;have e2:C9 (i::ids) (b::bs)=Fx i b++C9 ids bs:=rfl;rw[e1,e2,qi8 i b l (hl 0 b l rfl rfl),vn Aa fun k b l h1 h2=>hl (k+1) b l JT KI]
 | _::_,[],_::_,h,_=>by simp at h
 | _::_,_::_,[],h,_=>MI
theorem wj{e:Edge}(h:es[n]?=some e):((B5 es).drop (n*2)).take 2=[aI e.block,AA e.args]:=by
 obtain⟨h1,h2⟩:=xV h;have hl:=AE h2;apply Gg;intro i;rw[GC];by_cases h0:i=0
 ·subst h0;rw[A9 I,FC,J4,h1];rfl
 by_cases h3:i=1
 ·subst h3;rw[A9 I,FC,h2];rfl
 rw[A4 I,H3 Ai]
theorem wi(h:n<es.length)(e:Edge):As (B5 es) (n*2) [aI e.block,AA e.args]=B5 (es.set n e):=by
 have hl:=Q5 es;have hx:es[n]?=some es[n]:=AY h;have hlen:(B5 (es.take n)).length=n*2:=by rw[Q5,Dy];omega
 have e1:es=es.take n++es[n]::es.drop (n+1):=by rw[<-D9 hx,UP]
 have e2:B5 es=B5 (es.take n)++(aI es[n].block::AA es[n].args::B5 (es.drop (n+1))):=by
  conv=>lhs;rw[e1]
  rw[ZY];rfl
 have e3:B5 (es.set n e)=B5 (es.take n)++(aI e.block::AA e.args::B5 (es.drop (n+1))):=by
  have:es.set n e=es.take n++e::es.drop (n+1):=by
   conv=>lhs;rw[e1]
   rw[OF _ _ NF,Dy,show n-min n es.length=0 from I];rfl
  rw[this,ZY];rfl
 rw[e3];apply Gg;intro i;rw[Xl (by rw[hl];simp;omega),e2];simp only[CE,GD];by_cases h1:i<n*2
 ·rw[A4 I,EV I,EV I]
 by_cases h2:i<n*2+2
 ·rw[A9 I,Dg I,hlen];rcases(show i=n*2∨i=n*2+1 from I)with q|q
  ·subst q;rw[FB];rfl
  subst q;rw[show n*2+1-n*2=1 from I];rfl
 rw[A4 I,Dg I,Dg I,hlen];obtain⟨j,hj⟩:∃j,i-n*2=j+2:=⟨i-n*2-2,I⟩
 rw[hj];rfl
theorem qaA(es:List Edge):∀d∈B5 es,d.scalar:=fun d hd=>by
 simp only[B5,L0]at hd;obtain⟨e,_,hd⟩:=hd;simp only[CL,GG,Di]at hd;rcases hd with rfl|rfl<;>trivial
theorem kP{cs xs ys:List A2}{i:Nat}(hl:xs.length=ys.length)(hi:i+xs.length<=cs.length)(h:∀(j:Nat) c d,xs[j]?=some c->ys[j]?=some d->Sub O c d)(j:Nat)(c d:A2)(h1:(As cs i xs)[j]?=some c)(h2:(As cs i ys)[j]?=some d):Sub O c d:=by
 rw[Xl hi]at h1;rw[Xl I]at h2;rw[<-hl]at h2;split at h1
 ·rename_i q;rw[A9 q]at h2;exact h _ c d h1 h2
 rename_i q;rw[A4 q,h1]at h2;simp only[AM]at h2;rw[h2];exact Uu
end Go.Proofs.YtjdnhamngpafmaaGreat
namespace Go.Av
variable {P:Program}{AD:Cn}
theorem qnv(hT:CH P AD){o:Oper}{σ:St}{t e:TypeId}{x y:Operand}{ti te:CU}{id h c off n d:Nat}{cs:List A2}
  (ho:o.op=.call ⟨.builtin .append,#[x,y],#[t,t]⟩) (hd:∀d,o.dst=some d->d<σ.n) (ht:AD t=some ti) (Ah:ti.desc=.slice e) (he:AD e=some te) (hx:σ.ev x=some (.ms id 0 h c)) (Ex:σ.objs[id]?=some (.cells cs)) (hy:σ.ev y=some (.ms id off n d))
  (LU:h+n<=c) (G2:(h+n)*te.size<=cs.length) (gV:off+n*te.size<=cs.length) (R0:h+n<=2 ^ 62) :
  Cert P o σ (.ms id 0 (h+n) c) (.write (σ.objs.set id (.cells (As cs (h*te.size) ((cs.drop off).take (n*te.size)))))) :=
 Cert.IP hd fun base Bl a g Ax hh CO=>by
  have hO:g.objs=σ.objs:=CO.resolve_left A6;have hg:=Ax.good;have hu:=GZ hT ht Ah;have Bu:=hh x Gh _ hx;have H8:=hh y Gh _ hy;obtain⟨l,o1,q1,q2,q3,Lp,Bm,Dm,C1,eu⟩:=Bu.QD;obtain⟨l2,o2,p1,p2,p3,qou,qob,Kc,qoE,ey⟩:=H8.QD;rw[q1]at p1;simp only[AM]at p1;subst p1;obtain⟨⟨i,z,h1,h2,h3,h4,h5,h6,h7,h8,h9⟩,_⟩:=hT e te he;have Fz:g.objs[id]?=some (.cells cs):=Rf
  obtain⟨arr,t',CA,CV,hlen,BQ,Iw,TO⟩:=hg.row Fz q1;have D4:=Lw (P:=P) ho a g.w;simp only[builtin,QL,Bc,Ed]at D4;obtain⟨m,hm⟩:∃m,m=n*te.size:=⟨_,rfl⟩
  obtain⟨ys,JE⟩:∃ys,ys=(cs.drop off).take m:=⟨_,rfl⟩
  obtain⟨news,QI⟩:∃news,news=(arr.toList.drop off).take m:=⟨_,rfl⟩
  have hmul:(h+n)*te.size=h*te.size+m:=by rw[LX,hm]
  rw[hmul]at G2;rw[<-hm]at gV ⊢;rw[<-JE];have JA:news.length=m:=by
   rw[QI,Dy,ND,WG];omega
  have hyl:ys.length=m:=by
   rw[JE,Dy,ND];omega
  have hyr:Co g ys news.toArray:=by
   refine⟨by simp[JA,hyl],fun j b u hj hu=>?_⟩;have AF:=AE hj;rw[JE,GC,A9 I,FC]at hj;refine BQ (off+j) b u hj ?_;simp only[Zq,QI]at hu;rw[GC,A9 I,FC]at hu;simpa using hu
  have zN:∀b∈ys,b.scalar:=fun b hb=>by
   rw[JE]at hb;exact Iw b (N9 (KF hb))
  have nX:(Builtin.firstCells i.size n (a.eval y)).run P g.w=.ok news.toArray g.w:=by
   rw[ey,h2];simp only[Builtin.firstCells];rw[<-hm];have:=run_loadCells (P:=P) g.w ⟨l.block,off,none⟩ m (fun j=>arr.getD (off+j) undef) (fun j hj=>by
    rw[addr_add];have:g.w.cell? ⟨l.block,off+j,none⟩=arr[off+j]?:=cell_of_row (w:=g.w) CV (off+j);rw[this];simp[HU,show off+j<arr.size from I])
   rw[ou news m _ JA (fun j hj=>by
    rw[QI,GC,A9 hj,FC];simp[HU,show off+j<arr.size from I])]at this
   exact Cd
  obtain⟨BJ,HB⟩:∃BJ,BJ=(arr.toList.take (h*te.size)++news++arr.toList.drop (h*te.size+news.length)).toArray:=⟨_,rfl⟩
  have Au:=run_storeCells_at P l.block (h*te.size) t' news 0 arr g.w CV (by rw[JA];omega) (fun u hu=>by
   obtain⟨j,hj⟩:=MF hu;have AF:=AE hj;rw[JA,<-hyl]at AF;have hc:=AY AF;exact((hyr.2 j _ u hc QO).Vy (zN _ (AK hc))).1)
  simp only[J4]at Au;rw[<-HB]at Au;have Aj:=Xi (P:=P) g.w (g.w.setRow l.block BJ) t o.type e i hu h1 ⟨l.block,0,none⟩ h Dm n (a.eval y) news (fun w=>by rw[ey];simp[Builtin.lenOf]) nX I (by rw[addr_add,h2,Db];exact Au);rw[<-eu]at Aj;have Ew:=ZV (cs':=As cs (h*te.size) ys) Fz q1 CA BJ;have hle:=Le.Am hg Ew;have Bg:=Co.As ⟨hlen,BQ⟩ hyr (off:=h*te.size) (by rw[hyl];omega);rw[<-HB]at Bg;have AF:=AE Fz;have X9:=Q6 hg Fz;refine⟨.slice (some ⟨l.block,0,none⟩) (h+n) Dm,g.Am id (some l) (.cells (As cs (h*te.size) ys)) (g.w.setRow l.block BJ),?_,hle,Good.Am hg Ew ?_ ?_,?_,?_⟩
  ·refine .inl ?_;rw[D4];simp[Aj,G.Am]
  ·refine⟨l,BJ,t',rfl,CA,?_,Bg.1,fun j c u a b=>(Bg.2 j c u a b).mono hle,fun c hc=>?_,?_⟩
   ·exact jt
   ·simp only[As,HY]at hc;rcases hc with hc|hc|hc
    ·exact Iw c (KF hc)
    ·exact zN c hc
    exact Iw c (N9 hc)
   rw[HB];exact kB
  ·intro l1 h1 _;simp only[AM]at h1;subst h1;exact kH
  ·simp only[G.Am,Mode.post,hO]
  refine .ms (l:=l) (o:=.cells (As cs (h*te.size) ys)) ?_ ?_ Bd LU C1 R0
  ·simp only[G.Am];rw[Bb X9]
  simp only[G.Am];rw[Bb AF]
theorem qnq(hT:CH P AD){o:Oper}{σ:St}{t e:TypeId}{x q:Operand}{ti te:CU}{id off len cap:Nat}{k:IntKind}
  (ho:o.op=.slice t x (some q) none none) (hd:∀d,o.dst=some d->d<σ.n) (ht:AD t=some ti) (Ah:ti.desc=.slice e) (he:AD e=some te) (hx:σ.ev x=some (.ms id off len cap))
  (hq:σ.ev q=some (.v (.int k (len:Int)))):Cert P o σ (.A3 te.size [] .sh) .pure :=
 Cert.EL .pure (.inl rfl) hd fun a g _ hh _=>by
  have hu:=GZ hT ht Ah;have Bu:=hh x CM _ hx;have hl:=(hh q CM _ hq).D0.1;have D4:execOp a.eval o=(do pure (.value (<-Instr.sliceAt t (a.eval x) (some (a.eval q)) none none))):=by
   simp[execOp,ho]
  obtain⟨lc,o1,q1,q2,q3,Lp,Bm,Dm,C1,eu⟩:=Bu.QD;have bounds:(Instr.sliceBounds true len Dm (some (a.eval q)) none none).run P g.w=.ok (len,len,Dm) g.w:=by
   have e2:=run_sliceBound (P:=P) k len len .sliceB g.w I I;simp[Instr.sliceBounds,hl,e2]
  have K9:=(hT e te he).sizeOf g.w;refine⟨.slice (some (if Dm=len then⟨lc.block,off,none⟩else((⟨lc.block,off,none⟩:Addr).add (len*te.size)))) 0 (Dm-len),?_,?_⟩
  ·rw[D4];by_cases hc:Dm=len
   ·subst hc;simp[Instr.sliceAt,run_underlying hu,Instr.slice,eu,bounds,K9]
   simp[Instr.sliceAt,run_underlying hu,Instr.slice,eu,bounds,K9,hc]
  have:RV g (.A3 te.size [] .sh) (.slice (some (if Dm=len then⟨lc.block,off,none⟩else((⟨lc.block,off,none⟩:Addr).add (len*te.size)))) ([]:List A2).length (Dm-len)) :=
   .A3 (fun x hx=>WO) (fun x hx=>WO) A6 A6 (fun h=>B3 rfl h) (fun _=>undef) (fun j c hc=>by simp[AP]at hc) (fun j c hc=>by simp[AP]at hc) trivial
  exact Cd
theorem qbd(hT:CH P AD){o:Oper}{σ:St}{t e:TypeId}{x ql qh qm:Operand}{ti te:CU}{id off len cap l h m:Nat}{k k' k'':IntKind}
  (ho:o.op=.slice t x (some ql) (some qh) (some qm)) (hd:∀d,o.dst=some d->d<σ.n) (ht:AD t=some ti) (Ah:ti.desc=.slice e) (he:AD e=some te) (hx:σ.ev x=some (.ms id off len cap))
  (hql:σ.ev ql=some (.v (.int k (l:Int)))) (hqh:σ.ev qh=some (.v (.int k' (h:Int)))) (hqm:σ.ev qm=some (.v (.int k'' (m:Int)))) (h1:l<=h) (h2:h<=m) (h3:m<=cap) (h4:l<m) (R0:m<=2 ^ 62):Cert P o σ (.ms id (off+l*te.size) (h-l) (m-l)) .pure :=
 Cert.EL .pure (.inl rfl) hd fun a g _ hh _=>by
  have hu:=GZ hT ht Ah;have Bu:=hh x CM _ hx;have el:=(hh ql CM _ hql).D0.1;have eh:=(hh qh CM _ hqh).D0.1;have em:=(hh qm CM _ hqm).D0.1;have D4:execOp a.eval o=(do pure (.value (<-Instr.sliceAt t (a.eval x) (some (a.eval ql)) (some (a.eval qh)) (some (a.eval qm))))):=by
   simp[execOp,ho]
  obtain⟨lc,o1,q1,q2,q3,Lp,Bm,Dm,C1,eu⟩:=Bu.QD;have bounds:(Instr.sliceBounds true len Dm (some (a.eval ql)) (some (a.eval qh)) (some (a.eval qm))).run P g.w=.ok (l,h,m) g.w:=by
   have e1:=run_sliceBound (P:=P) k'' m Dm .slice3Acap g.w I I;have e2:=run_sliceBound (P:=P) k' h m .slice3B g.w I I;have e3:=run_sliceBound (P:=P) k l h .slice3C g.w I I;simp[Instr.sliceBounds,el,eh,em,e1,e2,e3]
  have K9:=(hT e te he).sizeOf g.w;refine⟨.slice (some ((⟨lc.block,off,none⟩:Addr).add (l*te.size))) (h-l) (m-l),?_,?_⟩
  ·rw[D4];simp[Instr.sliceAt,run_underlying hu,Instr.slice,eu,bounds,K9,show m≠l from I]
  exact adC
end Go.Av
namespace Go.Proofs.YtjdnhamngpafmaaGreat
open Go.Av Tryz
abbrev Mv:=Int×Int
abbrev eM(p:Mv):A2:=.agg [aI p.1,aI p.2]
def mC(l:List Mv):List A2:=l.flatMap fun p=>[aI p.1,aI p.2]
theorem Si(l:List Mv):(mC l).length=l.length*2:=by
 unfold mC;induction l with
 | nil=>rfl
 | cons p r ih =>
  rw[GF,Bf,ih];show 2+r.length*2=(r.length+1)*2;omega
theorem mu(l m:List Mv):mC (l++m)=mC l++mC m:=pO ..
theorem qj5(p:Mv)(m:List Mv):mC (p::m)=aI p.1::aI p.2::mC m:=rfl
theorem vx(l:List Mv):AP (l.map eM)=mC l:=by
 unfold mC AP;rw[ig];rfl
variable {l:List Mv}{k:Nat}{p:Mv}
theorem eJ(h:l[k]?=some p):mC l=mC (l.take k)++(aI p.1::aI p.2::mC (l.drop (k+1))):=by
 obtain⟨hk,e⟩:=List.getElem?_eq_some_iff.1 h;have:l=l.take k++(p::l.drop (k+1)):=by rw[<-e,<-Zp hk,UP]
 rw[<-qj5,<-mu,<-this]
theorem Z3(h:l[k]?=some p)(J:List A2):((mC l++J).drop (k*2)).take 2=[aI p.1,aI p.2]∧(mC l++J)[k*2]?=some (aI p.1)∧(mC l++J)[k*2+1]?=some (aI p.2):=by
 have hk:=(List.getElem?_eq_some_iff.1 h).1;have hl:(mC (l.take k)).length=k*2:=dX
 rw[eJ h,Ez];have e:((mC (l.take k)++(aI p.1::aI p.2::mC (l.drop (k+1))++J)).drop (k*2))=aI p.1::aI p.2::mC (l.drop (k+1))++J:=by rw[<-hl,List.drop_left]
 have g:∀i,(mC (l.take k)++(aI p.1::aI p.2::mC (l.drop (k+1))++J))[k*2+i]?=(aI p.1::aI p.2::mC (l.drop (k+1))++J)[i]?:=fun i=>(FC ..).symm.trans jg;exact⟨aK,g 0,g 1⟩
theorem xh(h:l[k]?=some p)(q:Mv)(J:List A2):As (mC l++J) (k*2) [aI q.1,aI q.2]=mC (l.set k q)++J:=by
 have hk:=(List.getElem?_eq_some_iff.1 h).1;have hl:(mC (l.take k)).length=k*2:=dX
 have hs:(l.set k q)[k]?=some q:=Bb hk;have h1:(l.set k q).take k=l.take k:=by
  apply Gg;intro i;simp only[GC,FD];split
  ·rw[A4 I]
  rfl
 have h2:(l.set k q).drop (k+1)=l.drop (k+1):=by
  apply Gg;intro i;simp only[FC,FD];rw[A4 I]
 rw[eJ h,eJ hs,h1,h2];unfold As;rw[Ez,<-hl,UY];simp only[CE,GD];rw[UN];simp
theorem qj6(h:l[k]?=some p)(v:Int)(J:List A2):As (mC l++J) (k*2+1) [aI v]=mC (l.set k (p.1,v))++J:=by
 rw[<-xh h (p.1,v) J];obtain⟨h1,h2,h3⟩:=Z3 h J;have hk:=(List.getElem?_eq_some_iff.1 h).1;have hl:(mC (l.take k)).length=k*2:=dX
 rw[eJ h,Ez];unfold As;simp only[CE,GD];rw[<-hl,UY,zn,UN,show(mC (l.take k)).length+1+(0+1)=(mC (l.take k)).length+2 from I,UN];simp
theorem Sg{α:Type}{l:List α}{j:Nat}{v:α}(h:l[j]?=some v):l.set j v=l:=by
 apply Gg;intro i;rw[FD];split
 ·rename_i e;rw[<-e,A9 (AE h),h]
 rfl
def idxFrom(q:Mv->Bool):List Mv->Nat->Int
 | [],_=>-1
 | x::r,k=>if q x then(k:Int)else idxFrom q r (k+1)
def NM(q:Mv->Bool)(l:List Mv):Int:=idxFrom q l 0
theorem aeA(q:Mv->Bool):∀(l:List Mv) (k:Nat),(idxFrom q l k=-1∧∀x∈l,q x=false)∨∃(j:Nat) (x:Mv),idxFrom q l k=((k+j:Nat):Int)∧l[j]?=some x∧q x=true∧∀y∈l.take j,q y=false
 | [],k=>.inl ⟨rfl,fun x hx=>WO⟩
 | a::r,k=>by
  cases hq:q a with
  | true =>
   refine .inr ⟨0,a,?_,rfl,hq,fun y hy=>by cases hy⟩;rw[idxFrom,A9 hq];rfl
  | false =>
   rw[idxFrom,A4 (by simp[hq])];rcases aeA q r (k+1)with⟨h1,h2⟩|⟨j,x,h1,h2,h3,h4⟩
   ·refine .inl ⟨h1,fun x hx=>?_⟩;rcases List.mem_cons.1 hx with e|e
    ·rw[e];exact hq
    exact h2 x e
   refine .inr ⟨j+1,x,by rw[h1];congr 1;omega,h2,h3,fun y hy=>?_⟩;rw[Ra]at hy;rcases List.mem_cons.1 hy with e|e
   ·rw[e];exact hq
   exact h4 y e
theorem Xo(q:Mv->Bool)(l:List Mv):(NM q l=-1∧∀x∈l,q x=false)∨∃(j:Nat) (x:Mv),NM q l=(j:Int)∧l[j]?=some x∧q x=true∧∀y∈l.take j,q y=false:=by
 rcases aeA q l 0 with h|⟨j,x,h1,h2⟩
 ·exact .inl h
 exact .inr ⟨j,x,by rw[Db]at h1;exact h1,h2⟩
theorem vu(q:Mv->Bool)(l:List Mv):decide (0<=NM q l)=l.any q:=by
 rcases Xo q l with⟨h1,h2⟩|⟨j,x,h1,h2,h3,_⟩
 ·rw[h1,List.any_eq_false.2 fun x hx=>by simp[h2 x hx]];rfl
 rw[h1,List.any_eq_true.2 ⟨x,AK h2,h3⟩];exact Ar I
def FK(l:List Mv):List Mv:=l.filter fun x=>!decide (x.1=x.2)
def Kv(left:List Mv)(x:Mv):Bool:=!left.any fun y=>decide (y.2=x.1)
def Iq(v spare:Int)(y:Mv):Mv:=if y.2=v then(y.1,spare)else y
def M4(spare:Int)(left:List Mv):List Mv×List Mv :=
 match left with
 | []=>([],[])
 | x0::r =>
  if NM (Kv left) left<0 then(((x0::r).map (Iq x0.1 spare)).tail,[(spare,x0.1),Iq x0.1 spare x0])
  else((x0::r).eraseIdx (NM (Kv left) left).toNat,[((x0::r)[(NM (Kv left) left).toNat]?).getD (0,0)])
def M6(spare:Int):Nat->List Mv->List Mv
 | 0,_=>[]
 | n+1,left=>if left=[]then []else(M4 spare left).2++M6 spare n (M4 spare left).1
def Qa(l:List Mv)(spare:Int):List Mv:=M6 spare l.length (FK l)
def H'(sid tid:Nat)(b:Block):List A2:=[AA b.params,.A3 4 (b.ins.map Ins.enc) (.tok sid),aI b.term.kind,aI b.term.arg,aI b.term.n,AA b.term.cases,Jh tid b.term.to]
def Ct:List Nat->List Nat->List Block->List A2
 | s::ss,t::ids,b::bs=>H' s t b++Ct ss ids bs
 | _,_,_=>[]
theorem qeF{n sid tid:Nat}(b:Block)(hs:sid<n)(h:b.term.to≠[]->tid<n):AQ n (H' sid tid b):=by
 refine⟨⟨BU _ _,trivial⟩,⟨Ins.AX _ _,hs⟩,trivial,trivial,trivial,⟨BU _ _,trivial⟩,?_,trivial⟩;unfold Jh;split
 ·exact s6
 rename_i q;exact h q
theorem sS{n:Nat}:∀{ss ids:List Nat} {bs:List Block},(∀(j id:Nat) (b:Block),ids[j]?=some id->bs[j]?=some b->b.term.to≠[]->id<n)->(∀s∈ss,s<n)->AQ n (Ct ss ids bs)
 | [],_,_,_,_=>trivial
 | _::_,[],_,_,_=>trivial
 | _::_,_::_,[],_,_=>trivial
 | s::ss,t::ids,b::bs,h,hs=>by
  rw[Ct,CF];intro x hx;rcases List.mem_append.1 hx with q|q
  ·exact CF.1 (qeF b (hs s DQ) (h 0 t b rfl rfl)) x q
  exact CF.1 (sS (fun j id b h1 h2=>h (j+1) id b h1 h2) (fun s Pn=>hs s (Dw _ Pn))) x q
variable {ss ids:List Nat}
theorem qaH{bs:List Block}(h1:ss.length=bs.length)(h2:ids.length=bs.length)(s t:Nat)(b:Block):Ct (ss++[s]) (ids++[t]) (bs++[b])=Ct ss ids bs++H' s t b:=by
 induction bs generalizing ss ids with
 | nil =>
  rw[List.length_eq_zero_iff.1 h1,List.length_eq_zero_iff.1 h2];simp[Ct]
 | cons d bs ih =>
  cases ss with
  | nil=>simp at h1
  | cons a ss =>
   cases ids with
   | nil=>simp at h2
   | cons c ids=>rw[JR,JR,JR,Ct,Ct,ih JT KI,Ez]
theorem Xw{bs:List Block}(h1:ss.length=bs.length)(h2:ids.length=bs.length):(Ct ss ids bs).length=bs.length*7:=by
 induction bs generalizing ss ids with
 | nil =>
  rw[List.length_eq_zero_iff.1 h1];rfl
 | cons d bs ih =>
  cases ss with
  | nil=>simp at h1
  | cons a ss =>
   cases ids with
   | nil=>simp at h2
   | cons c ids =>
    rw[Ct,Bf,ih JT KI,CE];show 7+_=_;omega
structure TI(f:Func)(done:List Block)(AS:Nat)(ids ss:List Nat)(O:List A8):Prop where
 up:∀o∈O,o.upto O.length
 r0:O[0]?=some .gone
 r1:O[1]?=some (.cells [aI 0,.A3 7 [] .ex])
 r3:O[3]?=some (.cells [aI 0,.A3 7 [] .ex])
 out:O[4]?=some (.cells [aI f.name,I2 AS done])
 blk:done≠[]->5<=AS∧O[AS]?=some (.cells (Ct ss ids done))
 cp:XG 5 ids done O
 ne:∀(j id:Nat) (b:Block),ids[j]?=some id->done[j]?=some b->b.term.to≠[]->id≠AS
 ls:ss.length=done.length
 sp:∀(j s:Nat) (c:Block),ss[j]?=some s->done[j]?=some c->5<=s∧O[s]?=some (.spare c.ins.length)
 PK:∀(i j s:Nat),ss[i]?=some s->ss[j]?=some s->i=j
variable {f:Func}{AS:Nat}{O:List A8}
theorem TI.snoc{done:List Block}{O1:List A8}(h:TI f done AS ids ss O){b:Block}{tid sid:Nat}(hsd:O.length<=sid∧O1[sid]?=some (.spare b.ins.length))(hlen:O.length<=O1.length)(AN:∀o∈O1,o.upto O1.length)
  (FI:∀k,k<O.length->(done≠[]->k≠AS)->O1[k]?=O[k]?) (ht:b.term.to≠[]->O.length<=tid∧O1[tid]?=some (.cells (B5 b.term.to))) {cs ar:List A2} (BQ:cs=Ct (ss++[sid]) (ids++[tid]) (done++[b])) (R8:ar=[aI f.name,.os O1.length (done.length+1) 7]) :
  TI f (done++[b]) O1.length (ids++[tid]) (ss++[sid]) ((O1++[A8.cells cs]).set 4 (.cells ar)):=by
 have h4:=AE h.out;have Vk:=h.cp.li;have M9:∀k,k<O.length->k≠4->(done≠[]->k≠AS)->((O1++[A8.cells cs]).set 4 (.cells ar))[k]?=O[k]?:=fun k hk hk4 Lh=>by
  rw[Ap (Ne.symm hk4),EV I,FI k hk Lh]
 have NP:done≠[]->5<=AS:=fun q=>(h.blk q).1;have TM:∀(j id:Nat) (c:Block),(ids++[tid])[j]?=some id->(done++[b])[j]?=some c->(ids[j]?=some id∧done[j]?=some c)∨(j=ids.length∧id=tid∧c=b):=fun j id c h1 h2=>by
  by_cases hj:j<ids.length
  ·rw[EV hj]at h1;rw[EV I]at h2;exact .inl ⟨h1,h2⟩
  have Pj:=AE h1;rw[Bf,IU]at Pj;have Bk:j=ids.length:=I
  subst Bk;rw[Dg (B6 _),FB]at h1;rw[Dg I,<-Vk,FB]at h2;simp only[Dh,AM]at h1 h2;exact rn
 have ES:∀(j id:Nat) (c:Block),ids[j]?=some id->done[j]?=some c->c.term.to≠[]->5<=id∧id<O.length∧O1[id]?=some (.cells (B5 c.term.to)):=fun j id c h1 h2 h3=>by
  obtain⟨o1,o2⟩:=h.cp.own j id c h1 h2 h3;have hl:=AE o2;exact acS
 have IQ:∀(j id:Nat) (c:Block),(ids++[tid])[j]?=some id->(done++[b])[j]?=some c->c.term.to≠[]->5<=id∧id<O1.length∧O1[id]?=some (.cells (B5 c.term.to)):=fun j id c h1 h2 h3=>by
  rcases TM j id c h1 h2 with⟨q1,q2⟩|⟨_,q2,q3⟩
  ·obtain⟨p1,p2,p3⟩:=ES j id c q1 q2 h3;exact⟨p1,I,p3⟩
  rw[q3]at h3 ⊢;rw[q2];obtain⟨t1,t2⟩:=ht h3;exact⟨I,AE t2,t2⟩
 have qn3:=h.ls;have GK:∀(j s:Nat) (c:Block),(ss++[sid])[j]?=some s->(done++[b])[j]?=some c->(ss[j]?=some s∧done[j]?=some c)∨(j=ss.length∧s=sid∧c=b):=fun j id c h1 h2=>by
  by_cases hj:j<ss.length
  ·rw[EV hj]at h1;rw[EV I]at h2;exact .inl ⟨h1,h2⟩
  have Pj:=AE h1;rw[Bf,IU]at Pj;have Bk:j=ss.length:=I
  subst Bk;rw[Dg (B6 _),FB]at h1;rw[Dg I,<-qn3,FB]at h2;simp only[Dh,AM]at h1 h2;exact rn
 have Pq:∀(j s:Nat) (c:Block),ss[j]?=some s->done[j]?=some c->5<=s∧s<O.length∧O1[s]?=some (.spare c.ins.length):=fun j s c h1 h2=>by
  obtain⟨o1,o2⟩:=h.sp j s c h1 h2;have hl:=AE o2;refine⟨o1,hl,?_⟩;rw[FI s hl (fun q e=>by
   have:=(h.blk q).2;rw[<-e,o2]at this;simp at this)]
  exact o2
 have EH:∀s∈ss++[sid],s<O1.length:=fun s hs=>by
  rcases List.mem_append.1 hs with q|q
  ·obtain⟨j,hj⟩:=List.mem_iff_getElem?.1 q;have Ff:=AE hj;have hd:done[j]?=some (done[j]' I):=AY _;have:=(Pq j s _ hj hd).2.1;omega
  rw[List.mem_singleton.1 q];exact AE hsd.2
 subst BQ;subst R8;exact {
  up:=by
   intro o ho;rw[B2,Bf,IU];rcases KE ho with q|q
   ·rcases List.mem_append.1 q with q|q
    ·exact Ul
    rw[Fq]at q;subst q;exact sS (fun j id c h1 h2 h3=>by
     have:=(IQ j id c h1 h2 h3).2.1;omega) (fun s hs=>by
     have:=EH s hs;omega)
   subst q;exact aW
  r0:=aaU
  r1:=aaV
  r3:=aaW
  out:=by
   rw[Bb YM];have:I2 O1.length (done++[b])=.os O1.length (done.length+1) 7:=by
    unfold I2;rw[A4 A6,Bf];rfl
   rw[this]
  blk:=fun _=>by
   exact acf
  cp:={
   li:=by rw[Bf,Bf,Vk];rfl
   own:=fun j id c h1 h2 h3=>by
    obtain⟨p1,p2,p3⟩:=IQ j id c h1 h2 h3;exact adS
   inj:=fun i j id c d h1 h2 h3 h4 h5 h6=>by
    rcases TM i id c h1 h3 with⟨p1,p2⟩|⟨p1,p2,p3⟩
    ·rcases TM j id d h2 h4 with⟨q1,q2⟩|⟨q1,q2,q3⟩
     ·exact h.cp.inj i j id c d p1 q1 p2 q2 h5 h6
     have:=(ES i id c p1 p2 h5).2.1;rw[q3]at h6;have:=(ht h6).1;omega
    rcases TM j id d h2 h4 with⟨q1,q2⟩|⟨q1,q2,q3⟩
    ·have:=(ES j id d q1 q2 h6).2.1;rw[p3]at h5;have:=(ht h5).1;omega
    omega }
  ne:=fun j id c h1 h2 h3=>by
   have:=(IQ j id c h1 h2 h3).2.1;omega
  ls:=by rw[Bf,Bf,h.ls];rfl
  sp:=fun j s c h1 h2=>by
   rcases GK j s c h1 h2 with⟨q1,q2⟩|⟨_,q2,q3⟩
   ·obtain⟨p1,p2,p3⟩:=Pq j s c q1 q2;refine⟨p1,?_⟩;rw[Ap I,EV I];exact p3
   have:=AE hsd.2;rw[q2,q3];refine⟨I,?_⟩;rw[Ap I,EV this];exact hsd.2
  PK:=fun i j s h1 h2=>by
   have aux:∀(i:Nat),(ss++[sid])[i]?=some s->(ss[i]?=some s∧s<O.length)∨(i=ss.length∧s=sid):=fun i hi=>by
    by_cases hj:i<ss.length
    ·rw[EV hj]at hi;have hd:done[i]?=some (done[i]'(by have:=h.ls;omega)):=AY _;exact .inl ⟨hi,(Pq i s _ hi hd).2.1⟩
    have Pj:=AE hi;rw[Bf,IU]at Pj;have Bk:i=ss.length:=I
    rw[Dg I,Bk,FB]at hi;simp only[Dh,AM]at hi;exact .inr ⟨Bk,hi.symm⟩
   rcases aux i h1 with⟨p1,p2⟩|⟨p1,p2⟩<;>rcases aux j h2 with⟨q1,q2⟩|⟨q1,q2⟩
   ·exact h.PK i j s p1 q1
   ·omega
   ·omega
   omega }
theorem qbh(f:Func):TI f [] 0 [] [] [.gone,.cells [aI 0,.A3 7 [] .ex],.gone,.cells [aI 0,.A3 7 [] .ex],.cells [aI f.name,.A3 7 [] .ex]] where
 up:=(sW f).up
 r0:=rfl
 r1:=rfl
 r3:=rfl
 out:=rfl
 blk:=fun q=>B3 rfl q
 cp:=(sW f).cp
 ne:=fun j id b h=>MI
 ls:=rfl
 sp:=fun j s c h=>MI
 PK:=fun i j s h=>MI
def nt(f:Func)(r:A2)(O:List A8):Prop:=∃(ids ss:List Nat) (AS:Nat),r=.agg [aI f.name,.os AS f.blocks.length 7]∧(∀o∈O,o.upto O.length)∧O[0]?=some .gone∧O[1]?=some (.cells [aI 0,.A3 7 [] .ex]) ∧
 (5<=AS∧O[AS]?=some (.cells (Ct ss ids f.blocks)))∧XG 5 ids f.blocks O∧(∀(j id:Nat) (b:Block),ids[j]?=some id->f.blocks[j]?=some b->b.term.to≠[]->id≠AS) ∧
 ss.length=f.blocks.length∧(∀(j s:Nat) (c:Block),ss[j]?=some s->f.blocks[j]?=some c->5<=s∧O[s]?=some (.spare c.ins.length))∧∀(i j s:Nat),ss[i]?=some s->ss[j]?=some s->i=j
theorem TI.fin(h:TI f f.blocks AS ids ss O)(AT:f.blocks≠[]){cs:List A2}(BQ:AQ O.length cs):nt f (.agg [aI f.name,.os AS f.blocks.length 7]) (O.set 3 (.cells cs)):=by
 obtain⟨b1,b2⟩:=h.blk AT;refine⟨ids,ss,AS,rfl,?_,?_,?_,⟨b1,?_⟩,⟨h.cp.li,fun j id b q1 q2 q3=>?_,h.cp.inj⟩,h.ne,h.ls,fun j s c q1 q2=>?_,h.PK⟩
 ·rw[B2];exact DY h.up BQ
 ·rw[Ap I];exact h.r0
 ·rw[Ap I];exact h.r1
 ·rw[Ap I];exact b2
 ·obtain⟨o1,o2⟩:=h.cp.own j id b q1 q2 q3;exact⟨o1,q9⟩
 obtain⟨o1,o2⟩:=h.sp j s c q1 q2;exact⟨o1,q9⟩
theorem qc8{A B xs:List A2}{off:Nat}(h:off+xs.length<=A.length):As (A++B) off xs=As A off xs++B:=by
 unfold As;rw[Zo I,pc I];simp
theorem qbF{A B xs:List A2}{p:Nat}:As (A++B) (A.length+p) xs=A++As B p xs:=by
 unfold As;rw[zn,show A.length+p+xs.length=A.length+(p+xs.length) from I,UN];simp
theorem W0(s i:Nat)(ss ids:List Nat)(b:Block)(bs:List Block):Ct (s::ss) (i::ids) (b::bs)=H' s i b++Ct ss ids bs:=by rw[Ct]
theorem Zd:∀{ss ids:List Nat} {L:List Block} {k s id s':Nat} {b c:Block} {off:Nat} {xs:List A2},ss[k]?=some s->ids[k]?=some id->L[k]?=some b->H' s' id c=As (H' s id b) off xs->off+xs.length<=7->As (Ct ss ids L) (k*7+off) xs=Ct (ss.set k s') ids (L.set k c)
 | [],_,_,_,_,_,_,_,_,_,_,h,_,_,_,_=>by simp at h
 | _::_,[],_,_,_,_,_,_,_,_,_,_,h,_,_,_=>by simp at h
 | _::_,_::_,[],_,_,_,_,_,_,_,_,_,_,h,_,_=>by simp at h
 | a::ss,i::ids,x::L,0,s,id,s',b,c,off,xs,h0,h1,h2,h3,h4=>by
  simp only[Dh,AM]at h0 h1 h2;subst h0 h1 h2;rw[OH,OH,W0,W0,h3,MH,Db,qc8 h4]
 | a::ss,i::ids,x::L,k+1,s,id,s',b,c,off,xs,h0,h1,h2,h3,h4=>by
  rw[US,US,W0,W0,show(k+1)*7+off=(H' a i x).length+(k*7+off) by show _=7+_;omega,qbF,Zd jG JT KI h3 h4]
theorem uj:∀{ss ids:List Nat} {L:List Block} {k s id:Nat} {b:Block},ss[k]?=some s->ids[k]?=some id->L[k]?=some b->((Ct ss ids L).drop (k*7)).take 7=H' s id b
 | [],_,_,_,_,_,_,h,_,_=>by simp at h
 | _::_,[],_,_,_,_,_,_,h,_=>by simp at h
 | _::_,_::_,[],_,_,_,_,_,_,h=>by simp at h
 | a::ss,i::ids,x::L,0,s,id,b,h0,h1,h2=>by
  simp only[Dh,AM]at h0 h1 h2;subst h0 h1 h2;rw[W0];rfl
 | a::ss,i::ids,x::L,k+1,s,id,b,h0,h1,h2=>by
  rw[W0,show(k+1)*7=(H' a i x).length+k*7 by show _=7+_;omega,UN];exact uj jG JT KI
theorem kg{L:List Block}{s id:Nat}{b:Block}(h0:ss[k]?=some s)(h1:ids[k]?=some id)(h2:L[k]?=some b)(i:Nat)(hi:i<7):(Ct ss ids L)[k*7+i]?=(H' s id b)[i]?:=by
 rw[<-uj h0 h1 h2,GC,A9 hi,FC]
theorem kZ{l:List Nat}{j v:Nat}(h:l[j]?=some v):l.set j v=l:=Sg h
theorem qd8{L:List Block}{s id:Nat}{b c:Block}(h0:ss[k]?=some s)(h1:ids[k]?=some id)(h2:L[k]?=some b)(h3:H' s id c=H' s id b):Ct ss ids (L.set k c)=Ct ss ids L:=by
 have:=Zd (s':=s) (off:=0) (xs:=[]) h0 h1 h2 (by rw[h3];simp[As]) A6;rw[kZ h0]at this;rw[<-this];simp[As]
theorem qg0(O:List A8)(s id:Nat)(b:Block)(j:Nat)(c d:A2)(h1:(H' s id b)[j]?=some c)(h2:(Fx id b)[j]?=some d):Sub O c d:=by
 match j,h1,h2 with
 | 0,h1,h2=>exact Sub.of_eq (HX (h1.symm.trans h2))
 | 1,h1,h2 =>
  simp only[H',Fx,LY,Dh,AM]at h1 h2;subst h1 h2;exact fun _ _ _ h=>h.Xq
 | 2,h1,h2=>exact Sub.of_eq (HX (h1.symm.trans h2))
 | 3,h1,h2=>exact Sub.of_eq (HX (h1.symm.trans h2))
 | 4,h1,h2=>exact Sub.of_eq (HX (h1.symm.trans h2))
 | 5,h1,h2=>exact Sub.of_eq (HX (h1.symm.trans h2))
 | 6,h1,h2 =>
  simp only[H',Fx,LY,Dh,AM]at h1 h2;subst h1 h2;unfold Jh Iz;split
  ·exact fun _ _ _ h=>h.Xq
  exact Wa
 | j+7,h1,_=>simp[H']at h1
theorem um(O:List A8):∀{ss ids:List Nat} {L:List Block},ss.length=L.length->ids.length=L.length->∀(j:Nat) (c d:A2),(Ct ss ids L)[j]?=some c->(C9 ids L)[j]?=some d->Sub O c d
 | [],_,_,_,_,j,c,d,h,_=>by simp[Ct]at h
 | _::_,[],_,_,_,j,c,d,h,_=>by simp[Ct]at h
 | _::_,_::_,[],_,_,j,c,d,h,_=>by simp[Ct]at h
 | a::ss,i::ids,x::L,h1,h2,j,c,d,h3,h4=>by
  have e:C9 (i::ids) (x::L)=Fx i x++C9 ids L:=rfl;rw[W0]at h3;rw[e]at h4;by_cases hj:j<7
  ·rw[EV (by show j<7;omega)]at h3 h4;exact qg0 O a i x j c d h3 h4
  rw[Dg (by show 7<=j;omega)]at h3 h4;exact um O JT KI (j-7) c d h3 h4
structure J7(name:Int)(ids ss:List Nat)(X AS:Nat)(L:List Block)(O:List A8):Prop where
 up:∀o∈O,o.upto O.length
 r1:O[1]?=some (.cells [aI 0,.A3 7 [] .ex])
 x5:5<=X
 xb:AS≠X
 b5:5<=AS
 out:O[X]?=some (.cells [aI name,.os AS L.length 7])
 bl:O[AS]?=some (.cells (Ct ss ids L))
 li:ids.length=L.length
 ls:ss.length=L.length
 own:∀(j id:Nat) (c:Block),ids[j]?=some id->L[j]?=some c->c.term.to≠[]->5<=id∧id≠AS∧id≠X∧O[id]?=some (.cells (B5 c.term.to))
 inj:∀(i j id:Nat) (b c:Block),ids[i]?=some id->ids[j]?=some id->L[i]?=some b->L[j]?=some c->b.term.to≠[]->c.term.to≠[]->i=j
 sp:∀(j s:Nat) (c:Block),ss[j]?=some s->L[j]?=some c->5<=s∧O[s]?=some (.spare c.ins.length)
 PK:∀(i j s:Nat),ss[i]?=some s->ss[j]?=some s->i=j
theorem J7.start{g:Func}(AN:∀o∈O,o.upto O.length)(h1:O[1]?=some (.cells [aI 0,.A3 7 [] .ex]))(hb:5<=AS∧O[AS]?=some (.cells (Ct ss ids g.blocks)))(hc:XG 5 ids g.blocks O)
  (AT:∀(j id:Nat) (b:Block),ids[j]?=some id->g.blocks[j]?=some b->b.term.to≠[]->id≠AS) (Nb:ss.length=g.blocks.length) (Bg:∀(j s:Nat) (c:Block),ss[j]?=some s->g.blocks[j]?=some c->5<=s∧O[s]?=some (.spare c.ins.length)) (X8:∀(i j s:Nat),ss[i]?=some s->ss[j]?=some s->i=j) :
  J7 g.name ids ss O.length AS g.blocks (O++[A8.cells [aI g.name,.os AS g.blocks.length 7]]) where
 up:=fun o ho=>by
  have CN:=AE hb.2;rw[Bf,IU];rcases List.mem_append.1 ho with q|q
  ·exact Ul
  rw[Fq]at q;subst q;exact aW
 r1:=D8 h1
 x5:=by
  have:=AE hb.2;omega
 xb:=by
  have:=AE hb.2;omega
 b5:=hb.1
 out:=Se _ _
 bl:=D8 hb.2
 li:=hc.li
 ls:=Nb
 own:=fun j id b q1 q2 q4=>by
  obtain⟨o1,o2⟩:=hc.own j id b q1 q2 q4;have:=AE o2;exact⟨o1,AT j id b q1 q2 q4,I,D8 o2⟩
 inj:=hc.inj
 sp:=fun j s c h1 h2=>⟨(Bg j s c h1 h2).1,D8 (Bg j s c h1 h2).2⟩
 PK:=X8
section
variable {name:Int} {ids ss:List Nat} {X AS:Nat} {L:List Block} {O:List A8}
theorem J7.ext(h:J7 name ids ss X AS L O){Y:List A8}(hY:∀o∈Y,o.upto (O.length+Y.length)):J7 name ids ss X AS L (O++Y) where
 up:=fun o ho=>by
  rw[Bf];rcases List.mem_append.1 ho with q|q
  ·exact A8.IK I (h.up o q)
  exact hY o q
 r1:=D8 h.r1
 x5:=h.x5
 xb:=h.xb
 b5:=h.b5
 out:=D8 h.out
 bl:=D8 h.bl
 li:=h.li
 ls:=h.ls
 own:=fun j id c h1 h2 h3=>by
  obtain⟨o1,o2,o3,o4⟩:=h.own j id c h1 h2 h3;exact⟨o1,o2,o3,D8 o4⟩
 inj:=h.inj
 sp:=fun j s c h1 h2=>⟨(h.sp j s c h1 h2).1,D8 (h.sp j s c h1 h2).2⟩
 PK:=h.PK
theorem J7.row(h:J7 name ids ss X AS L O){k s t:Nat}{b c:Block}(hs:ss[k]?=some s)(hb:L[k]?=some b)(hc:c.term.to=b.term.to)(ht:t=s∨(5<=t∧t ∉ ss∧∃m,O[t]?=some (.spare m))) :
  J7 name ids (ss.set k t) X AS (L.set k c) ((O.set t (.spare c.ins.length)).set AS (.cells (Ct (ss.set k t) ids (L.set k c)))):=by
 have Fg:=AE hb;have CN:=AE h.bl;obtain⟨sp1,sp2⟩:=h.sp k s b hs hb;obtain⟨ht5,m,htm⟩:5<=t∧∃m,O[t]?=some (.spare m):=by
  rcases ht with q|⟨q1,_,q3⟩
  ·rw[q];exact⟨sp1,_,sp2⟩
  exact⟨q1,q3⟩
 have CI:=AE htm;have htb:t≠AS:=fun q=>by
  have:=h.bl;rw[<-q,htm]at this;simp at this
 have htX:t≠X:=fun q=>by
  have:=h.out;rw[<-q,htm]at this;simp at this
 have FP:∀(j:Nat) (d:Block),(L.set k c)[j]?=some d->(j=k∧d=c)∨(j≠k∧L[j]?=some d):=fun j d hd=>by
  rw[FD]at hd;split at hd
  ·rename_i e
   first
   | exact .inl ⟨e.symm,(HX hd).symm⟩
   | (rw[A9 I]at hd;exact .inl ⟨e.symm,(HX hd).symm⟩)
  rename_i e;exact rq
 have DM:∀(j:Nat) (d:Block),(L.set k c)[j]?=some d->∃d0,L[j]?=some d0∧d.term.to=d0.term.to:=fun j d hd=>by
  rcases FP j d hd with⟨e1,e2⟩|⟨_,e2⟩
  ·rw[e1,e2];exact⟨b,hb,hc⟩
  exact⟨d,e2,rfl⟩
 have GK:∀(j s':Nat),(ss.set k t)[j]?=some s'->(j=k∧s'=t)∨(j≠k∧ss[j]?=some s'):=fun j d hd=>by
  rw[FD]at hd;split at hd
  ·rename_i e;have:=AE hs
   first
   | exact .inl ⟨e.symm,(HX hd).symm⟩
   | (rw[A9 I]at hd;exact .inl ⟨e.symm,(HX hd).symm⟩)
  rename_i e;exact rq
 have Td:∀(j s':Nat),j≠k->ss[j]?=some s'->s'≠t:=fun j s' hj h1 q=>by
  rcases ht with e|⟨_,e,_⟩
  ·rw[q,e]at h1;exact hj (h.PK j k s h1 hs)
  exact e (by rw[<-q];exact AK h1)
 have hX:=h.xb;have NP:=h.b5;have Ko:=h.x5;exact {
  up:=by
   rw[B2,B2];refine DY (DY h.up trivial) (sS (fun j id d h1 h2 h3=>?_) fun s' Pn=>?_)
   ·obtain⟨d0,e1,e2⟩:=DM j d h2;exact AE (h.own j id d0 h1 e1 (by rw[<-e2];exact h3)).2.2.2
   obtain⟨j,hj⟩:=List.mem_iff_getElem?.1 Pn;rcases GK j s' hj with⟨_,e⟩|⟨_,e⟩
   ·omega
   have hd:L[j]?=some (L[j]'(by have:=AE e;rw[<-h.ls];exact this)):=AY _;exact AE (h.sp j s' _ e hd).2
  r1:=by rw[Ap I,Ap I];exact h.r1
  x5:=h.x5
  xb:=hX
  b5:=NP
  out:=by rw[Ap hX,Ap htX,B2];exact h.out
  bl:=Bb (by rw[B2];exact CN)
  li:=by rw[B2];exact h.li
  ls:=by rw[B2,B2];exact h.ls
  own:=fun j id d h1 h2 h3=>by
   obtain⟨d0,e1,e2⟩:=DM j d h2;obtain⟨o1,o2,o3,o4⟩:=h.own j id d0 h1 e1 (by rw[<-e2];exact h3);have XE:t≠id:=fun q=>by
    rw[<-q,htm]at o4;simp at o4
   exact⟨o1,o2,o3,by rw[Ap (Ne.symm o2),Ap XE,e2];exact o4⟩
  inj:=fun i j id d e h1 h2 h3 h4 h5 h6=>by
   obtain⟨d0,e1,e2⟩:=DM i d h3;obtain⟨f0,f1,f2⟩:=DM j e h4;exact h.inj i j id d0 f0 h1 h2 e1 f1 (by rw[<-e2];exact h5) (by rw[<-f2];exact h6)
  sp:=fun j s' d h1 h2=>by
   rcases GK j s' h1 with⟨e1,e2⟩|⟨e1,e2⟩
   ·rcases FP j d h2 with⟨_,f2⟩|⟨f1,_⟩
    ·rw[e2,f2];exact⟨ht5,by rw[Ap (Ne.symm htb),Bb CI]⟩
    exact B3 e1 f1
   rcases FP j d h2 with⟨f1,_⟩|⟨_,f2⟩
   ·exact B3 f1 e1
   obtain⟨p1,p2⟩:=h.sp j s' d e2 f2;refine⟨p1,?_⟩;rw[Ap (fun q=>by have:=h.bl;rw[q,p2]at this;simp at this),Ap (Ne.symm (Td j s' e1 e2))];exact p2
  PK:=fun i j s' h1 h2=>by
   rcases GK i s' h1 with⟨e1,e2⟩|⟨e1,e2⟩<;>rcases GK j s' h2 with⟨f1,f2⟩|⟨f1,f2⟩
   ·omega
   ·exact B3 e2 (Td j s' f1 f2)
   ·exact B3 f2 (Td i s' e1 e2)
   exact h.PK i j s' e2 f2 }
theorem J7.S4(h:J7 name ids ss X AS L O){k id:Nat}{b:Block}{l:List Edge}(BN:ids[k]?=some id)(hb:L[k]?=some b)(AT:b.term.to≠[])(hl:l.length=b.term.to.length):J7 name ids ss X AS (L.set k (Dq b l)) (O.set id (.cells (B5 l))):=by
 have Fg:=AE hb;obtain⟨o1,o2,o3,o4⟩:=h.own k id b BN hb AT;have Fv:=AE o4;have FP:∀(j:Nat) (d:Block),(L.set k (Dq b l))[j]?=some d->(j=k∧d=Dq b l)∨(j≠k∧L[j]?=some d):=fun j d hd=>by
  rw[FD]at hd;split at hd
  ·rename_i e
   first
   | exact .inl ⟨e.symm,(HX hd).symm⟩
   | (rw[A9 I]at hd;exact .inl ⟨e.symm,(HX hd).symm⟩)
  rename_i e;exact rq
 obtain⟨s,hs⟩:∃s,ss[k]?=some s:=⟨ss[k]'(by rw[h.ls];exact Fg),AY _⟩
 have CV:H' s id (Dq b l)=H' s id b:=by
  unfold H' Dq Jh;simp only;by_cases q:b.term.to=[]
  ·exact B3 q AT
  rw[A4 q,A4 (fun z=>q (List.length_eq_zero_iff.1 (by rw[<-hl,z];rfl))),hl]
 exact {
  up:=by
   rw[B2];refine DY h.up ?_;show AQ _ _;rw[CF];intro d hd;unfold B5 at hd;rw[L0]at hd;obtain⟨e,_,hd⟩:=hd;simp only[CL,GG,Di]at hd;rcases hd with rfl|rfl
   ·trivial
   exact ai
  r1:=ab2
  x5:=h.x5
  xb:=h.xb
  b5:=h.b5
  out:=by rw[Ap o3,B2];exact h.out
  bl:=by
   rw[Ap o2,qd8 hs BN hb CV];exact h.bl
  li:=by rw[B2];exact h.li
  ls:=by rw[B2];exact h.ls
  own:=fun j Da d h1 h2 h3=>by
   rcases FP j d h2 with⟨e1,e2⟩|⟨e1,e2⟩
   ·subst e1 e2;rw[BN]at h1;simp only[AM]at h1;subst h1;exact⟨o1,o2,o3,Bb Fv⟩
   obtain⟨p1,p2,p3,p4⟩:=h.own j Da d h1 e2 h3;refine⟨p1,p2,p3,?_⟩;rw[Ap]
   ·exact p4
   intro q;rw[<-q]at h1;exact e1 (h.inj j k id d b h1 BN e2 hb h3 AT)
  inj:=fun i j Da d e h1 h2 h3 h4 h5 h6=>by
   have aux:∀(j:Nat) (d:Block),(L.set k (Dq b l))[j]?=some d->d.term.to≠[]->∃d0,L[j]?=some d0∧d0.term.to≠[]:=fun j d hd hn=>by
    rcases FP j d hd with⟨e1,e2⟩|⟨e1,e2⟩
    ·subst e1;exact⟨b,hb,AT⟩
    exact⟨d,e2,hn⟩
   obtain⟨d0,p1,p2⟩:=aux i d h3 h5;obtain⟨e0,r1,r2⟩:=aux j e h4 h6;exact h.inj i j Da d0 e0 h1 h2 p1 r1 p2 r2
  sp:=fun j s' d h1 h2=>by
   have aux:∃d0,L[j]?=some d0∧d.ins=d0.ins:=by
    rcases FP j d h2 with⟨e1,e2⟩|⟨e1,e2⟩
    ·rw[e1,e2];exact⟨b,hb,rfl⟩
    exact⟨d,e2,rfl⟩
   obtain⟨d0,e1,e2⟩:=aux;obtain⟨p1,p2⟩:=h.sp j s' d0 h1 e1;refine⟨p1,?_⟩;rw[Ap (fun q=>by rw[q,p2]at o4;simp at o4),e2];exact p2
  PK:=h.PK }
end
theorem aeq(spare:Int){left:List Mv}(AT:left≠[]):(M4 spare left).1.length+1=left.length∧(M4 spare left).2.length<=2:=by
 match left,AT with
 | x0::r,_ =>
  unfold M4;simp only;split
  ·simp
  rename_i h;rcases Xo (Kv (x0::r)) (x0::r)with⟨e,_⟩|⟨j,x,e,hj,_,_⟩
  ·omega
  have Ff:=AE hj;rw[e,BH];refine⟨?_,A6⟩;rw[aaC,A9 Ff];simp only[CE]at Ff ⊢;omega
theorem tp(spare:Int):∀(n:Nat) (left:List Mv),(M6 spare n left).length<=2*left.length
 | 0,left=>by simp[M6]
 | n+1,left=>by
  unfold M6;split
  ·simp
  rename_i h;obtain⟨h1,h2⟩:=aeq spare h;have:=tp spare n (M4 spare left).1;rw[Bf];omega
theorem qgO(l:List Mv)(spare:Int):(Qa l spare).length<=2*l.length:=by
 have:=tp spare l.length (FK l);have h2:(FK l).length<=l.length:=cz ..;unfold Qa;omega
def HT(v:Int):Bool:=decide (0<=v)&&decide (v<4096)
theorem RN{v:Int}:HT v=true↔0<=v∧v<=4095:=by
 unfold HT;rw[F0,Cp,Cp];omega
theorem lI(v:Int):BR prog 78 [aI v] (.v (.bool (HT v))):=by
 unfold HT;by_cases h:0<=v
 ·have d:decide (0<=v)=true:=Ar h;rw[d,PA];exact acD
 have d:decide (0<=v)=false:=Ac h;rw[d,iN];exact acD
theorem qed(v:Int):BR prog 109 [aI v] (.v (.bool (!HT v))):=by
 have hv:=lI v;refine zf true 0 func109 ntmps109 ?_;refine LZ ?_;refine zi hv ?_;refine E9 ?_;simp -dsimp only[simprocAttr,↓AG,zp,zr,results109]
def Wx(q:Int->Bool):List Int->Nat->Int
 | [],_=>-1
 | x::r,k=>if q x then(k:Int)else Wx q r (k+1)
theorem vR(q:Int->Bool):∀(l:List Int) (k:Nat),decide (0<=Wx q l k)=l.any q
 | [],k=>rfl
 | a::r,k=>by
  rw[Wx,List.any_cons];cases hq:q a with
  | true =>
   rw[A9 rfl,iP];exact Ar I
  | false =>
   rw[A4 A6,Y5];exact vR q r (k+1)
theorem qet(l:List Int):BR prog 128 [AA l,.fn (.func 109) [] []] (aI (Wx (fun a=>!HT a) l 0)):=by
 obtain⟨R,hR⟩:∃R,R=Wx (fun a=>!HT a) l 0:=⟨_,rfl⟩
 rw[<-hR];refine zf true 0 func128 ntmps128 ?_;refine Cw ?_;refine LN 0 rfl (fun J6=>?_);simp only[BE]at J6;refine BF ?_;refine Al (BZ (ι:={k:Nat // k<=l.length∧R=Wx (fun a=>!HT a) (l.drop k) k}) (fun k=>⟨19,[(0,AA l),(1,.fn (.func 109) [] []),(7,aI l.length),(8,aI k.1)],[]⟩) (fun k=>l.length-k.1) ⟨0,I,hR⟩ ?_ ?_)
 ·refine C6 ?_
  all_goals rfl
 rintro⟨k,hk,Af⟩;refine C3 (fun h=>?_) (fun h=>?_)
 ·refine Az ?_;have AF:k<l.length:=Aa
  obtain⟨x,hx⟩:∃x,l[k]?=some x:=⟨l[k],AY AF⟩
  have hv:=qed x;rw[D9 hx,Wx]at Af;refine PF ?_;refine NJ hx ?_
  refine Ef ?_
  refine zi hv ?_;refine Ak ?_;cases hq:HT x with
  | false =>
   rw[hq]at Af;simp only[iu,L4]at Af;refine E3 ?_;simp -dsimp only[simprocAttr,↓AG,zp,zr,results128];rw[Af]
  | true =>
   rw[hq]at Af;simp only[Y8,JS,Gf]at Af;apply AZ rfl<;>intro h
   ·cases h
   refine H2 ?_;refine Bw ?_;refine⟨⟨k+1,AF,Af⟩,pk,?_⟩;refine Ba ?_ ?_
   ·exact BY
   rfl
 refine BO ?_;have Fg:k=l.length:=by
  have:=G0 h;omega
 subst Fg;rw[F']at Af;refine D7 ?_;simp -dsimp only[simprocAttr,↓AG,zp,zr,results128];rw[Af];rfl
theorem qeP(l:List Int):BR prog 108 [AA l,.fn (.func 109) [] []] (.v (.bool (l.any fun a=>!HT a))):=by
 have hi:=qet l;have ha:=vR (fun a=>!HT a) l 0;refine zf true 0 func108 ntmps108 ?_;refine LZ ?_;refine zi hi ?_;refine E9 ?_;simp -dsimp only[simprocAttr,↓AG,zp,zr,results108];rw[ha]
def Ro(i:Ins):Int :=
 if(!HT i.to ||i.args.any fun a=>!HT a)=true then 4
 else if i.op≠100 then MA i
 else if i.args.length≠1 then 3
 else if i.n≠0 then 4 else 0
theorem qfA(i:Ins):BR prog 79 [i.enc] (aI (Ro i)):=by
 have hv:=lI i.to;have hc:=qeP i.args;have hf:=uc i;obtain⟨R,hR⟩:∃R,R=Ro i:=⟨_,rfl⟩
 rw[<-hR];unfold Ro at hR;obtain⟨B,hB⟩:∃B,B=(!HT i.to ||i.args.any fun a=>!HT a):=⟨_,rfl⟩
 rw[<-hB]at hR;generalize MA i=fe at *;refine zf true 0 func79 ntmps79 ?_;refine Cw ?_;refine Cz 1 0 (.ip none [aI i.to,aI i.op,aI i.n,AA i.args]) rfl Bd trivial rfl ?_ ?_;rotate_left;refine BL ?_;rotate_left
 ·exact Be
 cases Jz:HT i.to with
 | false =>
  rw[Jz]at hv hB;rw[show B=true from hB]at hR;rw[A9 rfl]at hR;refine GX ?_;refine zi hv ?_;refine Rn ?_;exact aS hR
 | true =>
  rw[Jz]at hv hB;have hB2:B=i.args.any fun a=>!HT a:=hB;rw[<-hB2]at hc;clear hB hB2;cases B with
  | true =>
   rw[A9 rfl]at hR;refine GX ?_;refine zi hv ?_;refine zi hc ?_;refine Rn ?_;exact aS hR
  | false =>
   rw[A4 A6]at hR;refine GX ?_;refine zi hv ?_;refine zi hc ?_;refine Ak ?_;apply AZ rfl<;>intro h
   ·cases h
   refine Az ?_;by_cases DG:i.op=100
   ·rw[A4 (by simp[DG])]at hR;have d1:decide (i.op=100)=true:=Ar DG;refine HZ d1 ?_;apply AZ rfl<;>intro h
    ·cases h
    refine Az ?_;refine DW (Al ?_);by_cases hl:i.args.length=1
    ·rw[A4 jV]at hR;have d2:decide ((i.args.length:Int)=1)=true:=Ar I;refine Ch d2 ?_;apply AZ rfl<;>intro h
     ·cases h
     by_cases hn:i.n=0
     ·rw[A4 (by simp[hn])]at hR;have d3:decide (i.n=0)=true:=Ar hn;refine Ch d3 ?_;apply AZ rfl<;>intro h
      ·cases h
      refine H2 ?_;refine D7 ?_;exact aS hR
     rw[A9 hn]at hR;have d3:decide (i.n=0)=false:=Ac hn;refine Uo d3 ?_;exact aS hR
    rw[A9 hl]at hR;have d2:decide ((i.args.length:Int)=1)=false:=Ac I;refine Uo d2 ?_;exact aS hR
   rw[A9 DG]at hR;have d1:decide (i.op=100)=false:=Ac DG;unfold Ins.enc at hf;refine HZ d1 ?_;refine FF ?_;refine BM ?_;refine zi hf ?_;refine E9 ?_;exact aS hR
def Wo:List Int->List Int->Int
 | _,[]=>0
 | d,v::r=>if HT v=false then 4 else if Lf d v=true then 7 else Wo (d++[v]) r
def Wd:List Ins->Int
 | []=>0
 | i::r=>Fw (Ro i) (Wd r)
def bV(f:Func)(k:Nat)(b:Block):Int :=
 if 0<k∧0<b.params.length then 3
 else Fw (Wo [] b.params) (Fw (Wd b.ins) (Fw (I4 f b.term) (if HT b.term.arg=true then 0 else 4)))
def Ym(f:Func):Nat->List Block->Int
 | _,[]=>0
 | k,b::r=>Fw (bV f k b) (Ym f (k+1) r)
def Wn(f:Func):Int :=
 if f.blocks.length=0 then 3
 else if 128<f.blocks.length∨4096<KB 0 f.blocks∨6<(A7 f 0).params.length then 2
 else if f.name < -1∨1048576<=f.name then 4
 else Ym f 0 f.blocks
theorem qf9(f:Func)(AO:f.fit):BR prog 53 [f.enc] (aI (Wn f)):=by
 have NK:f.blocks.length<=2 ^ 47:=AO.2.1;obtain⟨R,hR⟩:∃R,R=Wn f:=⟨_,rfl⟩
 rw[<-hR];unfold Wn at hR;refine zf true 0 func53 ntmps53 ?_;refine KK ?_ ?_;rotate_left
 ·exact Be
 refine Yh ?_;refine Al (BZ (ι:={x:Nat×Int // x.1<=f.blocks.length∧KB 0 f.blocks=KB x.2 (f.blocks.drop x.1)}) (fun x=>⟨121,[(1,.ip none [aI f.name,AR f.blocks]),(2,aI 0),(3,aI x.1.2),(15,AR f.blocks),(16,aI f.blocks.length),(17,aI x.1.1)],[.gone]⟩) (fun x=>f.blocks.length-x.1.1) ⟨(0,0),A6,rfl⟩ ?_ ?_)
 ·exact JU
 rintro⟨⟨k,m⟩,hk,Af⟩;simp only at hk Af;refine C3 (fun h=>?_) (fun h=>?_)
 ·refine Az ?_;have AF:k<f.blocks.length:=Aa
  obtain⟨b,hb⟩:∃b,f.blocks[k]?=some b:=⟨f.blocks[k],Gu⟩
  rw[D9 hb]at Af;simp only[KB]at Af;refine acW hb ?_ ?_;rotate_left
  ·exact Be
  refine ad4 ?_;refine Ei 1 [(1,.ip none [aI f.name,AR f.blocks]),(2,aI 0),(3,aI (IntKind.i64.wrap (m+b.ins.length))),(15,AR f.blocks),(16,aI f.blocks.length),(17,aI k)] A6 I [.gone] ?_ ?_ ?_ ?_ ?_
  ·rfl
  ·exact YV
  ·exact Es
  ·exact YV
  refine Bw ?_;refine⟨⟨(k+1,IntKind.i64.wrap (m+b.ins.length)),D6,Af⟩,Ai,?_⟩;refine Ba ?_ ?_
  ·exact BY
  rfl
 refine BO ?_;have Bh:k=f.blocks.length:=Ee
 subst Bh;rw[F']at Af;simp only[KB]at Af;rw[Af]at hR;clear hk Af;refine DW (Al ?_);by_cases hl:f.blocks.length=0
 ·rw[A9 hl]at hR;have d0:decide ((f.blocks.length:Int)=0)=true:=Ar I;refine rl ?_;refine Ak ?_;exact T6 hR
 rw[A4 hl]at hR;have d0:decide ((f.blocks.length:Int)=0)=false:=Ac I;have hB:f.blocks[0]?=some (A7 f 0):=K2 (f:=f) (k:=0) I I;generalize A7 f 0=B at *;refine rl ?_;refine Ak ?_;apply AZ rfl<;>intro h
 ·cases h
 refine LO (⟨121,[(1,.ip none [aI f.name,AR f.blocks]),(2,aI 0),(32,.v (.bool (decide ((128:Int)<f.blocks.length) ||decide ((4096:Int)<m) ||decide ((6:Int)<B.params.length))))],[.gone]⟩) ?_ ?_
 ·cases hA:decide ((128:Int)<f.blocks.length)<;>cases hBB:decide ((4096:Int)<m)<;>cases hC:decide ((6:Int)<B.params.length)
  all_goals
   refine RJ hT hm ?_;refine Yd hA hBB hC hB ?_;refine PH ?_ ?_
   ·exact Wa
   rfl
 by_cases TE:128<f.blocks.length∨4096<m∨6<B.params.length
 ·rw[A9 TE]at hR;have hd:(decide ((128:Int)<f.blocks.length) ||decide ((4096:Int)<m) ||decide ((6:Int)<B.params.length))=true:=by
   simp only[Hq,Cp];omega
  rw[hd];exact T6 hR
 rw[A4 TE]at hR;have hd:(decide ((128:Int)<f.blocks.length) ||decide ((4096:Int)<m) ||decide ((6:Int)<B.params.length))=false:=by
  simp only[aaE,Kf];omega
 rw[hd];apply AZ rfl<;>intro h
 ·cases h
 by_cases hnm:f.name < -1∨1048576<=f.name
 ·rw[A9 hnm]at hR;have Br:∀X:Int,R=4->R=4:=fun _ h=>h;cases F7:decide (f.name < -1)with
  | true =>
   refine Ch F7 ?_;exact T6 hR
  | false =>
   have qmM:=G0 F7;have Ib:decide (1048576<=f.name)=true:=Ar I;refine Jm F7 Ib ?_;exact T6 hR
 rw[A4 hnm]at hR;have F7:decide (f.name < -1)=false:=Ac I;have Ib:decide (1048576<=f.name)=false:=Ac I;refine Jm F7 Ib ?_;apply AZ rfl<;>intro h
 ·cases h
 refine H2 ?_;refine BF ?_;refine Al (BZ (ι:={k:Nat // k<=f.blocks.length∧R=Ym f k (f.blocks.drop k)}) (fun k=>⟨121,[(1,.ip none [aI f.name,AR f.blocks]),(2,aI 0),(60,AR f.blocks),(61,aI f.blocks.length),(62,aI k.1)],[.gone]⟩) (fun k=>f.blocks.length-k.1) ⟨0,I,hR⟩ ?_ ?_)
 ·refine C6 ?_
  all_goals rfl
 rintro⟨k,hk,Af⟩;refine C3 (fun h=>?_) (fun h=>?_)
 ·refine Az ?_;have AF:k<f.blocks.length:=Aa
  obtain⟨b,hb⟩:∃b,f.blocks[k]?=some b:=⟨f.blocks[k],Gu⟩
  have C5:=AK hb;have hbf:=AO.2.2 b C5;have J8:=vd f b.term (by have:=hbf.2.2.2.2.2.2.2.2.1;omega) I;have hva:=lI b.term.arg;have qog:b.params.length<=2 ^ 47:=hbf.2.1;have qoq:b.ins.length<=2 ^ 47:=hbf.2.2.1;rw[D9 hb,Ym]at Af;obtain⟨rest,D3⟩:∃x,x=Ym f (k+1) (f.blocks.drop (k+1)):=⟨_,rfl⟩
  rw[<-D3]at Af;unfold bV at Af;refine acI hb ?_ ?_;rotate_left
  ·exact Be
  refine Ei 1 [(1,.ip none [aI f.name,AR f.blocks]),(2,aI 0),(60,AR f.blocks),(61,aI f.blocks.length),(62,aI k),(6,aI k),(7,.ip none [AA b.params,B7 b.ins,aI b.term.kind,aI b.term.arg,aI b.term.n,AA b.term.cases,An b.term.to])] A6 I [.gone] ?_ ?_ ?_ ?_ ?_
  ·rfl
  ·simp[A8.upto]
  ·exact Es
  ·exact acw
  by_cases hkp:0<k∧0<b.params.length
  ·rw[A9 hkp,KZ I]at Af;have d1:decide ((0:Int)<k)=true:=Ar I;have d2:decide ((0:Int)<b.params.length)=true:=Ar I;refine L7 d1 d2 ?_;exact T6 Af
  rw[A4 hkp,W1,W1,W1]at Af;refine LO (⟨121,[(1,.ip none [aI f.name,AR f.blocks]),(2,aI 0),(60,AR f.blocks),(61,aI f.blocks.length),(62,aI k),(6,aI k),(7,.ip none [AA b.params,B7 b.ins,aI b.term.kind,aI b.term.arg,aI b.term.n,AA b.term.cases,An b.term.to])],[.gone]⟩) ?_ ?_
  ·by_cases Ln:0<k
   ·have d1:decide ((0:Int)<k)=true:=Ar I;have d2:decide ((0:Int)<b.params.length)=false:=Ac I;refine Jm d1 d2 ?_;refine PD ?_;rfl
   have d1:decide ((0:Int)<k)=false:=Ac I;refine Ch d1 ?_;refine PD ?_;rfl
  obtain⟨T1,R5⟩:∃T1,T1=Fw (Wd b.ins) (Fw (I4 f b.term) (Fw (if HT b.term.arg=true then 0 else 4) rest)):=⟨_,rfl⟩
  rw[<-R5]at Af;refine BF ?_;refine Al (BZ (ι:={n:Nat // n<=b.params.length∧R=Fw (Wo (b.params.take n) (b.params.drop n)) T1}) (fun n=>⟨121,[(1,.ip none [aI f.name,AR f.blocks]),(2,aI 0),(60,AR f.blocks),(61,aI f.blocks.length),(62,aI k),(6,aI k),(7,.ip none [AA b.params,B7 b.ins,aI b.term.kind,aI b.term.arg,aI b.term.n,AA b.term.cases,An b.term.to]),(76,AA b.params),(77,aI b.params.length),(78,aI n.1)],[.gone]⟩) (fun n=>b.params.length-n.1) ⟨0,I,Af⟩ ?_ ?_)
  ·refine C6 ?_
   all_goals rfl
  rintro⟨n,hn,AT⟩;refine C3 (fun h=>?_) (fun h=>?_)
  ·refine Az ?_;have Vl:n<b.params.length:=Aa
   obtain⟨v,hv⟩:∃v,b.params[n]?=some v:=⟨b.params[n],AY Vl⟩
   have Ma:=lI v;have BQ:=adb (b.params.take n) v;have BA:b.params.take (n+1)=b.params.take n++[v]:=by rw[Fs,hv];rfl
   rw[D9 hv,Wo]at AT;refine Ui ?_;refine PG hv ?_;refine Al ?_;cases Jz:HT v with
   | false =>
    rw[Jz]at Ma;rw[A9 Jz,KZ I]at AT;refine BM ?_;refine zi Ma ?_;refine Ak ?_;exact T6 AT
   | true =>
    rw[Jz]at Ma;rw[A4 (by simp[Jz])]at AT;refine BM ?_;refine zi Ma ?_;refine Ak ?_;apply AZ rfl<;>intro h
    ·cases h
    cases Lk:Lf (b.params.take n) v with
    | true =>
     rw[Lk]at BQ;rw[A9 Lk,KZ I]at AT;refine acp ?_;exact T6 AT
    | false =>
     rw[Lk]at BQ;rw[A4 (by simp[Lk]),<-BA]at AT;refine acp ?_;apply AZ rfl<;>intro h
     ·cases h
     refine zb2 ?_;refine Bw ?_;refine⟨⟨n+1,Vl,AT⟩,by show b.params.length-(n+1)<b.params.length-n;omega,?_⟩;refine Ba ?_ ?_
     ·exact BY
     rfl
  refine BO ?_;have JA:n=b.params.length:=by
   have:=G0 h;omega
  subst JA;rw[F',Wo,HK rfl,R5]at AT;obtain⟨T2,PZ⟩:∃T2,T2=Fw (I4 f b.term) (Fw (if HT b.term.arg=true then 0 else 4) rest):=⟨_,rfl⟩
  rw[<-PZ]at AT;refine BF ?_;refine Al (BZ (ι:={j:Nat // j<=b.ins.length∧R=Fw (Wd (b.ins.drop j)) T2}) (fun j=>⟨121,[(1,.ip none [aI f.name,AR f.blocks]),(2,aI 0),(60,AR f.blocks),(61,aI f.blocks.length),(62,aI k),(6,aI k),(7,.ip none [AA b.params,B7 b.ins,aI b.term.kind,aI b.term.arg,aI b.term.n,AA b.term.cases,An b.term.to]),(96,B7 b.ins),(97,aI b.ins.length),(98,aI j.1)],[.gone]⟩) (fun j=>b.ins.length-j.1) ⟨0,I,AT⟩ ?_ ?_)
  ·refine C6 ?_
   all_goals rfl
  rintro⟨j,hj,Bk⟩;refine C3 (fun h=>?_) (fun h=>?_)
  ·refine Az ?_;have Hb:j<b.ins.length:=Aa
   obtain⟨i,hi⟩:∃i,b.ins[j]?=some i:=⟨b.ins[j],AY Hb⟩
   have XU:=qfA i;rw[D9 hi,Wd,W1]at Bk;obtain⟨e,hE⟩:∃e,e=Ro i:=⟨_,rfl⟩
   rw[<-hE]at XU Bk;unfold Ins.enc at XU;refine rL hi ?_ ?_;rotate_left
   ·exact Be
   refine Ei 1 [(1,.ip none [aI f.name,AR f.blocks]),(2,aI 0),(60,AR f.blocks),(61,aI f.blocks.length),(62,aI k),(6,aI k),(7,.ip none [AA b.params,B7 b.ins,aI b.term.kind,aI b.term.arg,aI b.term.n,AA b.term.cases,An b.term.to]),(96,B7 b.ins),(97,aI b.ins.length),(98,aI j),(11,.ip none [aI i.to,aI i.op,aI i.n,AA i.args])] A6 I [.gone] ?_ ?_ ?_ ?_ ?_
   ·rfl
   ·simp[A8.upto]
   ·exact Es
   ·exact acw
   by_cases he:e=0
   ·have Ca:decide (e=0)=true:=Ar he;rw[HK he]at Bk;refine BM ?_;refine zi XU ?_;refine Ak ?_;refine Ch Ca ?_;apply AZ rfl<;>intro h
    ·cases h
    refine H2 ?_;refine Bw ?_;refine⟨⟨j+1,Hb,Bk⟩,by show b.ins.length-(j+1)<b.ins.length-j;omega,?_⟩;refine Ba ?_ ?_
    ·exact BY
    rfl
   have Ca:decide (e=0)=false:=Ac he;rw[KZ he]at Bk;refine BM ?_;refine zi XU ?_;refine Ak ?_;refine Ch Ca ?_;exact T6 Bk
  refine BO ?_;have Ff:j=b.ins.length:=by
   have:=G0 h;omega
  subst Ff;rw[F',Wd,HK rfl,PZ]at Bk;unfold Func.enc Term.enc at J8;obtain⟨e,hE⟩:∃e,e=I4 f b.term:=⟨_,rfl⟩
  rw[<-hE]at J8 Bk;by_cases he:e=0
  ·have Ca:decide (e=0)=true:=Ar he;rw[HK he]at Bk;refine GX ?_;refine zi J8 ?_;refine Ak ?_;refine Ch Ca ?_;apply AZ rfl<;>intro h
   ·cases h
   refine Az ?_;cases Jz:HT b.term.arg with
   | true =>
    rw[Jz]at hva;rw[A9 Jz,HK rfl,D3]at Bk;refine BM ?_;refine zi hva ?_;refine Ak ?_;apply AZ rfl<;>intro h
    ·cases h
    refine H2 ?_;refine Bw ?_;refine⟨⟨k+1,AF,Bk⟩,by show f.blocks.length-(k+1)<f.blocks.length-k;omega,?_⟩;refine Ba ?_ ?_
    ·exact BY
    rfl
   | false =>
    rw[Jz]at hva;rw[A4 (by simp[Jz]),KZ I]at Bk;refine BM ?_;refine zi hva ?_;refine Ak ?_;exact T6 Bk
  have Ca:decide (e=0)=false:=Ac he;rw[KZ he]at Bk;refine GX ?_;refine zi J8 ?_;refine Ak ?_;refine Ch Ca ?_;exact T6 Bk
 refine BO ?_;have Fg:k=f.blocks.length:=by
  have:=G0 h;omega
 subst Fg;rw[F',Ym]at Af;refine D7 ?_;simp -dsimp only[simprocAttr,↓AG,zp,zr,results53];rw[Af]
theorem vy:∀{l d:List Int},Wo d l=0->∀v∈l,HT v=true
 | [],_,_,v,h=>by cases h
 | a::r,d,h,v,hv=>by
  rw[Wo]at h;split at h
  ·simp at h
  rename_i h1;split at h
  ·simp at h
  rcases List.mem_cons.1 hv with q|q
  ·rw[q];simpa using h1
  exact vy h v q
theorem vW:∀{l:List Ins},Wd l=0->∀i∈l,Ro i=0
 | [],_,i,h=>by cases h
 | a::r,h,i,hi=>by
  have:=Mx h;rcases List.mem_cons.1 hi with q|q
  ·rw[q];exact this.1
  exact vW this.2 i q
theorem vV{f:Func}:∀{l:List Block} {k:Nat},Ym f k l=0->∀(j:Nat) b,l[j]?=some b->bV f (k+j) b=0
 | [],_,_,j,b,h=>by simp at h
 | a::r,k,h,j,b,hj=>by
  have:=Mx h;cases j with
  | zero =>
   simp only[Dh,AM]at hj;subst hj;exact this.1
  | succ j =>
   rw[show k+(j+1)=k+1+j from I];exact vV this.2 j b QO
structure Lc(f:Func):Prop where
 ne:f.blocks≠[]
 few:f.blocks.length<=128
 name:-1<=f.name∧f.name<=1048575
 args:(A7 f 0).params.length<=6
 ins:∀b∈f.blocks,b.ins.length<=4096
 bare:∀(k:Nat) b,f.blocks[k]?=some b->0<k->b.params=[]
 X2:∀b∈f.blocks,∀v∈b.params,HT v=true
 C4:∀b∈f.blocks,∀i∈b.ins,Ro i=0
 fin:∀b∈f.blocks,I4 f b.term=0
 arg:∀b∈f.blocks,HT b.term.arg=true
theorem Lc.form(h:Lc f)(b:Block)(hb:b∈f.blocks)(i:Ins)(hi:i∈b.ins)(DG:i.op≠100):xt i:=by
 have:=h.C4 b hb i hi;unfold Ro at this;split at this
 ·simp at this
 skip
 exact ew this
theorem mV(AO:f.fit)(h:Wn f=0):Lc f:=by
 unfold Wn at h;split at h
 ·simp at h
 rename_i h1;split at h
 ·simp at h
 rename_i h2;split at h
 ·simp at h
 rename_i h3;have hw:=mN f.blocks 0 I I (fun b hb=>(AO.2.2 b hb).2.2.1);have hB:∀(k:Nat) b,f.blocks[k]?=some b->bV f k b=0:=fun k b hk=>by
  have:=vV h k b hk
  rwa [Db]at this
 have hM:∀b∈f.blocks,∃k:Nat,f.blocks[k]?=some b:=fun b hb=>List.mem_iff_getElem?.1 hb;have hP:∀(k:Nat) b,f.blocks[k]?=some b->¬(0<k∧0<b.params.length)∧Wo [] b.params=0∧Wd b.ins=0∧I4 f b.term=0∧HT b.term.arg=true:=fun k b hk=>by
  have:=hB k b hk;unfold bV at this;split at this
  ·simp at this
  rename_i hq;have h5:=Mx this;have h6:=Mx h5.2;have h7:=Mx h6.2;refine⟨hq,h5.1,h6.1,h7.1,?_⟩;have h8:=h7.2;split at h8
  ·assumption
  simp at h8
 refine⟨fun e=>h1 aK,I,I,I,fun b hb=>?_,fun k b hk h0=>?_,fun b hb=>?_,fun b hb=>?_,fun b hb=>?_,fun b hb=>?_⟩
 ·have:=hw.2 b hb;omega
 ·have:=(hP k b hk).1;exact rp
 ·obtain⟨k,hk⟩:=hM b hb;exact vy (hP k b hk).2.1
 ·obtain⟨k,hk⟩:=hM b hb;exact vW (hP k b hk).2.2.1
 ·obtain⟨k,hk⟩:=hM b hb;exact(hP k b hk).2.2.2.1
 obtain⟨k,hk⟩:=hM b hb;exact(hP k b hk).2.2.2.2
def Yn:List Func->Int
 | []=>0
 | f::r=>Fw (Wn f) (Yn r)
theorem iH:∀{l:List Func},Yn l=0->∀f∈l,Wn f=0
 | [],_,f,h=>by simp at h
 | g::r,h,f,hf=>by
  have:=Mx h;rcases List.mem_cons.1 hf with q|q
  ·subst q;exact this.1
  exact iH this.2 f q
def Hh(u:Ad):Int :=
 if u.fns.length=0 then 3
 else if 256<u.fns.length then 2
 else if u.main<0∨(u.fns.length:Int)<=u.main then 4
 else Fw (Yn u.fns) (if 0<(A7 (AB u u.main) 0).params.length then 3 else M8 u u.fns)
theorem aek(u:Ad)(AO:u.fit):BR prog 24 [u.enc] (aI (Hh u)):=by
 obtain⟨R,hR⟩:∃R,R=Hh u:=⟨_,rfl⟩
 rw[<-hR];unfold Hh at hR;have NK:u.fns.length<=2 ^ 47:=AO.2.1;refine zf true 0 func24 ntmps24 ?_;refine WQ ?_ ?_
 ·refine DW (Al ?_);by_cases h0:u.fns.length=0
  ·rw[A9 h0]at hR;have hd:decide ((u.fns.length:Int)=0)=true:=Ar I;refine Ch hd ?_;exact YX hR
  rw[A4 h0]at hR;have hd:decide ((u.fns.length:Int)=0)=false:=Ac I;refine Ch hd ?_;apply AZ rfl<;>intro h
  ·cases h
  by_cases h1:256<u.fns.length
  ·rw[A9 h1]at hR;have hd:decide ((256:Int)<u.fns.length)=true:=Ar I;refine Ch hd ?_;exact YX hR
  rw[A4 h1]at hR;have hd:decide ((256:Int)<u.fns.length)=false:=Ac I;refine Ch hd ?_;apply AZ rfl<;>intro h
  ·cases h
  by_cases Ni:u.main<0∨(u.fns.length:Int)<=u.main
  ·rw[A9 Ni]at hR;cases F7:decide (u.main<0)with
   | true =>
    refine Ch F7 ?_;exact YX hR
   | false =>
    have qmM:=G0 F7;have Ib:decide ((u.fns.length:Int)<=u.main)=true:=Ar I;refine Jm F7 Ib ?_;exact YX hR
  rw[A4 Ni]at hR;have Z':0<=u.main∧u.main<u.fns.length:=I
  have F7:decide (u.main<0)=false:=Ac I;have Ib:decide ((u.fns.length:Int)<=u.main)=false:=Ac I;refine Jm F7 Ib ?_;apply AZ rfl<;>intro h
  ·cases h
  refine H2 ?_;refine BF ?_;refine Al (BZ (ι:={k:Nat // k<=u.fns.length∧Yn u.fns=Yn (u.fns.drop k)}) (fun k=>⟨90,[(1,.ip none [C8 u.fns,aI u.main]),(2,aI 0),(36,C8 u.fns),(37,aI u.fns.length),(38,aI k.1)],[.gone]⟩) (fun k=>u.fns.length-k.1) ⟨0,I,rfl⟩ ?_ ?_)
  ·exact JU
  rintro⟨k,hk,Af⟩;refine C3 (fun h=>?_) (fun h=>?_)
  ·refine Az ?_;have AF:k<u.fns.length:=Aa
   obtain⟨f,hf⟩:∃f,u.fns[k]?=some f:=⟨u.fns[k],Gu⟩
   have IE:=qf9 f (AO.2.2 f (AK hf));rw[D9 hf]at Af;simp only[Yn]at Af;obtain⟨e,SP⟩:∃e,e=Wn f:=⟨_,rfl⟩
   rw[<-SP]at Af IE;refine DR hf ?_;refine Cz 4 1 (.ip none [aI f.name,AR f.blocks]) rfl Bd trivial rfl ?_ ?_;rotate_left;refine BL ?_
   ·refine Ei 1 [(1,.ip none [C8 u.fns,aI u.main]),(2,aI 0),(36,C8 u.fns),(37,aI u.fns.length),(38,aI k),(4,.ip none [aI f.name,AR f.blocks])] A6 I [.gone] ?_ ?_ ?_ ?_ ?_
    ·rfl
    ·exact I9
    ·exact Es
    ·exact I9
    refine BM ?_;refine zi IE ?_;refine Ak ?_;by_cases he:e=0
    ·have Ca:decide (e=0)=true:=Ar he;rw[HK he]at Af;refine Yb Ca ?_;refine kM ?_ ?_
     ·exact BY
     rfl
    have Ca:decide (e=0)=false:=Ac he;rw[KZ he]at Af;rw[Af,KZ he]at hR;refine Ch Ca ?_;exact YX hR
   exact Be
  refine BO ?_;have Bh:k=u.fns.length:=Ee
  subst Bh;rw[F']at Af;have Vh:Yn u.fns=0:=by rw[Af];rfl
  rw[HK Vh]at hR;have Br:∀f∈u.fns,Lc f:=fun f hf=>mV (AO.2.2 f hf) (iH Vh f hf);have hM:=UJ (u:=u) (k:=u.main) Z'.1 I;have gd:0<(AB u u.main).blocks.length:=by
   have:=(Br _ (AK hM)).ne;cases hb:(AB u u.main).blocks with
   | nil=>exact B3 hb this
   | cons=>simp
  have hB:(AB u u.main).blocks[0]?=some (A7 (AB u u.main) 0):=K2 (f:=AB u u.main) (k:=0) I I;generalize A7 (AB u u.main) 0=B at *;generalize AB u u.main=F at *;by_cases hp:0<B.params.length
  ·rw[A9 hp]at hR;have XP:decide ((0:Int)<B.params.length)=true:=Ar I;refine L5 hM hB XP ?_
   refine D1 ?_;exact YX hR
  rw[A4 hp]at hR;have XP:decide ((0:Int)<B.params.length)=false:=Ac I;refine L5 hM hB XP ?_
  refine D1 ?_;apply AZ rfl<;>intro h
  ·cases h
  refine Az ?_;refine BF ?_;refine Al (BZ (ι:={k:Nat // k<=u.fns.length∧R=M8 u (u.fns.drop k)}) (fun k=>⟨90,[(1,.ip none [C8 u.fns,aI u.main]),(2,aI 0),(61,C8 u.fns),(62,aI u.fns.length),(63,aI k.1)],[.gone]⟩) (fun k=>u.fns.length-k.1) ⟨0,I,hR⟩ ?_ ?_)
  ·exact JU
  rintro⟨k,hk,Af⟩;refine C3 (fun h=>?_) (fun h=>?_)
  ·refine Az ?_;have AF:k<u.fns.length:=Aa
   obtain⟨f,hf⟩:∃f,u.fns[k]?=some f:=⟨u.fns[k],Gu⟩
   have SQ:=AK hf;have CN:=(Br f SQ).few;rw[D9 hf]at Af;simp only[M8]at Af;refine DR hf ?_;refine Cz 7 1 (.ip none [aI f.name,AR f.blocks]) rfl Bd trivial rfl ?_ ?_;rotate_left;refine BL ?_
   ·refine Ei 1 [(1,.ip none [C8 u.fns,aI u.main]),(2,aI 0),(61,C8 u.fns),(62,aI u.fns.length),(63,aI k),(7,.ip none [aI f.name,AR f.blocks])] A6 I [.gone] ?_ ?_ ?_ ?_ ?_
    ·rfl
    ·exact I9
    ·exact Es
    ·exact I9
    refine Cc ?_;refine Al (BZ (ι:={j:Nat // j<=f.blocks.length∧R=Fw (RQ u (f.blocks.drop j)) (M8 u (u.fns.drop (k+1)))}) (fun j=>⟨90,[(1,.ip none [C8 u.fns,aI u.main]),(2,aI 0),(61,C8 u.fns),(62,aI u.fns.length),(63,aI k),(68,AR f.blocks),(69,aI f.blocks.length),(70,aI j.1)],[.gone]⟩) (fun j=>f.blocks.length-j.1) ⟨0,I,Af⟩ ?_ ?_)
    ·exact JU
    rintro⟨j,hj,Bk⟩;refine C3 (fun h=>?_) (fun h=>?_)
    ·refine Az ?_;have Hb:j<f.blocks.length:=Aa
     obtain⟨b,hb⟩:∃b,f.blocks[j]?=some b:=⟨f.blocks[j],aP⟩
     have C5:=AK hb;have Fv:=(Br f SQ).ins b C5;rw[D9 hb]at Bk;simp only[RQ]at Bk;rw[W1]at Bk;refine acY hb ?_ ?_
     ·refine Ei 1 [(1,.ip none [C8 u.fns,aI u.main]),(2,aI 0),(61,C8 u.fns),(62,aI u.fns.length),(63,aI k),(68,AR f.blocks),(69,aI f.blocks.length),(70,aI j),(9,.ip none [AA b.params,B7 b.ins,aI b.term.kind,aI b.term.arg,aI b.term.n,AA b.term.cases,An b.term.to])] A6 I [.gone] ?_ ?_ ?_ ?_ ?_
      ·rfl
      ·exact I9
      ·exact Es
      ·exact I9
      refine Cc ?_;refine Al (BZ (ι:={z:Nat // z<=b.ins.length∧R=Fw (UK u (b.ins.drop z)) (Fw (RQ u (f.blocks.drop (j+1))) (M8 u (u.fns.drop (k+1))))}) (fun z=>⟨90,[(1,.ip none [C8 u.fns,aI u.main]),(2,aI 0),(61,C8 u.fns),(62,aI u.fns.length),(63,aI k),(68,AR f.blocks),(69,aI f.blocks.length),(70,aI j),(75,B7 b.ins),(76,aI b.ins.length),(77,aI z.1)],[.gone]⟩) (fun z=>b.ins.length-z.1) ⟨0,I,Bk⟩ ?_ ?_)
      ·exact JU
      rintro⟨z,hz,CJ⟩;refine C3 (fun h=>?_) (fun h=>?_)
      ·refine Az ?_;have IA:z<b.ins.length:=Aa
       obtain⟨i,hi⟩:∃i,b.ins[z]?=some i:=⟨b.ins[z],Uh⟩
       rw[D9 hi]at CJ;simp only[UK]at CJ;rw[W1]at CJ;have hfw:=(Br f SQ).form b C5 i (AK hi);have BQ:=qaL u i (fun q=>((hfw I).call I).1) (fun f hf=>(Br f hf).ne);obtain⟨e,SP⟩:∃e,e=KX u i:=⟨_,rfl⟩
       rw[<-SP]at CJ BQ;refine rL hi ?_ ?_
       ·refine Ei 1 [(1,.ip none [C8 u.fns,aI u.main]),(2,aI 0),(61,C8 u.fns),(62,aI u.fns.length),(63,aI k),(68,AR f.blocks),(69,aI f.blocks.length),(70,aI j),(75,B7 b.ins),(76,aI b.ins.length),(77,aI z),(11,.ip none [aI i.to,aI i.op,aI i.n,AA i.args])] A6 I [.gone] ?_ ?_ ?_ ?_ ?_
        ·rfl
        ·exact I9
        ·exact Es
        ·exact I9
        refine BM ?_;refine zi BQ ?_;refine Ak ?_;by_cases he:e=0
        ·have Ca:decide (e=0)=true:=Ar he;rw[HK he]at CJ;refine Yb Ca ?_;refine⟨⟨z+1,IA,CJ⟩,Ai,?_⟩;refine Ba ?_ ?_
         ·exact BY
         rfl
        have Ca:decide (e=0)=false:=Ac he;rw[KZ he]at CJ;refine Ch Ca ?_;exact YX CJ
       exact Be
      refine BO ?_;have Oz:z=b.ins.length:=Ee
      subst Oz;rw[F']at CJ;rw[HK CX]at CJ;refine Bw ?_;refine⟨⟨j+1,Hb,CJ⟩,Ai,?_⟩;refine Ba ?_ ?_
      ·exact BY
      rfl
     exact Be
    refine BO ?_;have Gl:j=f.blocks.length:=Ee
    subst Gl;rw[F']at Bk;rw[HK CX]at Bk;refine Bw ?_;refine⟨⟨k+1,AF,Bk⟩,Ai,?_⟩;refine Ba ?_ ?_
    ·exact BY
    rfl
   exact Be
  refine BO ?_;have Bh:k=u.fns.length:=Ee
  subst Bh;rw[F']at Af;refine D7 ?_;simp -dsimp only[simprocAttr,↓AG,zp,zr,results24];rw[Af];rfl
 exact Be
end Go.Proofs.YtjdnhamngpafmaaGreat
namespace Go.Av
theorem wJ{g:G}(hg:Good g){id m:Nat}(h:g.objs[id]?=some (.spare m))(arr:Array Value)(t:TypeId)(cs:List A2)(hlen:cs.length<=arr.size)
  (GJ:∀(g':G) (j:Nat) (c:A2) (u:Value),cs[j]?=some c->arr[j]?=some u->RV g' c u) (B1:∀c∈cs,c.scalar) :
  Le g (g.Am id (some ⟨g.w.heap.size,0,arr.size⟩) (.cells cs) (g.w.alloc (.cells arr t)))∧Good (g.Am id (some ⟨g.w.heap.size,0,arr.size⟩) (.cells cs) (g.w.alloc (.cells arr t))):=by
 have Ew:N6 g id (.spare m) (some ⟨g.w.heap.size,0,arr.size⟩) (.cells cs) (g.w.alloc (.cells arr t)):={
  obj:=h
  os:=rfl
  tape:=rfl
  output:=rfl
  size:=aaM
  block:=fun k hk _=>P0 g.w _ hk
  cell:=fun b off x hx _=>by
   have:=ax hx;rw[ZW (P0 g.w (.cells arr t) this)];exact hx
  place:=fun l1 h1 _=>by
   simp only[AM]at h1;subst h1;exact .inl (B6 _)
  spare:=fun _ _=>.inr Bd
  plain:=fun h=>B3 trivial h
  gone:=A6}
 exact⟨Le.Am hg Ew,Good.Am hg Ew ⟨_,arr,t,rfl,rfl,Pz g.w _,hlen,fun j c u hj hu=>GJ _ j c u hj hu,B1,B6 _⟩ (fun l1 h1 _=>by
  simp only[AM]at h1;subst h1;exact Gq (Pz g.w (.cells arr t)))⟩
variable {P:Program}{AD:Cn}
theorem qaU(hT:CH P AD){o:Oper}{σ:St}{t:TypeId}{ti:CU}{id m:Nat}(ho:o.op=.alloc t)(hd:∀d,o.dst=some d->d<σ.n)(ht:AD t=some ti)(BN:σ.objs[id]?=some (.spare m)) :
  Cert P o σ (.mp id 0) (.new id (.cells ti.zero)) :=
 Cert.lS trivial hd fun base Bl a g Ax h CO=>by
  have hg:=Ax.good;obtain⟨z,hz,h5,_,_,h8,h9⟩:=(hT t ti ht).zeroValue;have Gz:g.objs[id]?=some (.spare m):=Eq.trans CO BN;obtain⟨hle,EA⟩:=wJ hg Gz z.cells t ti.zero (by rw[h5];exact B6 _) (fun g' j c u a b=>h8 g' j c u a b) h9;refine⟨.pointer (some ⟨g.w.heap.size,0,none⟩),_,.inl ?_,hle,EA,?_,?_⟩
  ·simp[execOp,ho,Instr.alloc,hz,Go.newVar,Go.newRow,G.Am]
  ·simp[G.Am,Mode.post]
  exact .mp (l:=⟨g.w.heap.size,0,z.cells.size⟩) (o:=.cells ti.zero) jA abH Bd
theorem oo(hT:CH P AD){o:Oper}{σ:St}{t e:TypeId}{x y:Operand}{ti te:CU}{k k':IntKind}{n:Int}{id m':Nat}
  (ho:o.op=.makeSlice t x y) (hd:∀d,o.dst=some d->d<σ.n) (ht:AD t=some ti) (Ah:ti.desc=.slice e) (he:AD e=some te) (hx:σ.ev x=some (.v (.int k n))) (hy:σ.ev y=some (.v (.int k' n)))
  (h0:0<=n) (hb:te.bytes*n.toNat<=2 ^ 48) (R0:n.toNat<=2 ^ 62) (hs:0<te.size) (BN:σ.objs[id]?=some (.spare m')) :
  Cert P o σ (.ms id 0 n.toNat n.toNat) (.new id (.cells (List.replicate n.toNat te.zero).flatten)) :=
 Cert.lS trivial hd fun base Bl a g Ax h CO=>by
  have hg:=Ax.good;have Gz:g.objs[id]?=some (.spare m'):=Eq.trans CO BN;have ex:=(h x CM _ hx).D0.1;have ey:=(h y CM _ hy).D0.1;have hu:=GZ hT ht Ah;obtain⟨⟨i,z,h1,h2,h3,h4,h5,h6,h7,h8,h9⟩,_⟩:=hT e te he;obtain⟨m,rfl⟩:=cx h0;simp only[BH]at *;have Mh:(i.bytes:Int)*(m:Int)<=281474976710656:=by
   rw[h3,<-cu];omega
  have Aj:=run_make (P:=P) g.w t e i z hu h1 h4 k k' m m I (OK _) Mh I;simp only[BH]at Aj;have hlen:(List.replicate m te.zero).flatten.length=m*te.size:=dg
  have DO:∀(j:Nat) (c:A2),(List.replicate m te.zero).flatten[j]?=some c->te.zero[j % te.size]?=some c:=fun j c=>h6 ▸ au te.zero I m j c;obtain⟨hle,EA⟩:=wJ hg Gz (madeCells z.cells (m*i.size)) e (List.replicate m te.zero).flatten (by rw[hlen,size_madeCells,h2];exact B6 _) (fun g' j c u hj G'=>by
   have CK:=DO j c hj;have AF:=AE hj;rw[hlen]at AF;have HR:j % te.size<z.cells.size:=dU
   refine h8 _ _ _ _ CK ?_;simp only[madeCells,UU,h2,WH,A9 AF,FV,AM]at G';subst G';rw[h5,h6];simp[HR]) (fun c hc=>by
   rw[ic]at hc;obtain⟨l,hl,hc⟩:=hc;rw[Zs]at hl;exact h9 c (hl.2 ▸ hc))
  refine⟨.slice (some ⟨g.w.heap.size,0,none⟩) m m,_,.inl ?_,hle,EA,?_,?_⟩
  ·simp[execOp,ho,ex,ey,Aj,G.Am]
  ·simp[G.Am,Mode.post]
  exact .ms (l:=⟨g.w.heap.size,0,(madeCells z.cells (m*i.size)).size⟩) (o:=.cells (List.replicate m te.zero).flatten) jA abH Bd (B6 _) (B6 _) R0
theorem tY{P:Program}{kb:Nat}{c:Code}{Q:E7->St->Prop}{n:Nat}{BG:List (Nat×A2)}:∀(k:Nat) {O:List A8},AU P kb c Q ⟨n,BG,O++List.replicate k (.spare 0)⟩->AU P kb c Q ⟨n,BG,O⟩
 | 0,O,h=>by simpa using h
 | k+1,O,h=>by
  have h2:AU P kb c Q ⟨n,BG,O++[.spare 0]⟩:=tY k (by simpa[KG]using h);exact h2.weaken fun base a g hb hr=>by
   have hO:g.objs=O:=hr.objs;refine⟨g.mark (.spare 0),rfl,?_⟩;have hle:=Le.mark hr.good (.spare 0);refine { le:=hr.le.trans hle,good:=Good.mark hr.good _,objs:=jE,size:=hr.size,defers:=hr.defers,slot:=fun s x hx=>?_ };obtain⟨u,e1,e2⟩:=hr.slot s x hx;exact⟨u,e1,e2.mono hle⟩
def GA(P:Program)(all:List Oper)(k:Nat)(σ:St)(ks:List Kind)(R:St->List Kind->Prop):Prop :=
 ∃(ρ:St) (Hw:List Kind),Hw.length+k=all.length∧Gy P all.toArray ((Hw.zipIdx k).map fun p=>(p.2,p.1)) σ ρ∧R ρ (ks++Hw)
theorem GA.fin{all:List Oper}{k:Nat}{σ:St}{ks:List Kind}{R:St->List Kind->Prop}(hk:k=all.length)(h:R σ ks):GA P all k σ ks R :=
 ⟨σ,[],Ue,GQ.refl σ,Aa⟩
theorem GA.op{all:List Oper}{k:Nat}{σ:St}{ks:List Kind}{R:St->List Kind->Prop}{o:Oper}{x:A2}{m:Mode}(ho:all[k]?=some o)(hg:o.guard=none)(hc:Cert P o σ x m)
  (h:GA P all (k+1) ⟨σ.n,MR o.dst x σ.BG,m.post σ.objs⟩ (ks++[m.kind]) R):GA P all k σ ks R:=by
 obtain⟨ρ,Hw,h1,h2,h3⟩:=h;refine⟨ρ,m.kind::Hw,by simp only[CE];omega,?_,Ug⟩;rw[T0,Bc];exact⟨_,⟨o,by simpa using ho,.inl ⟨by simp[JF,hg],x,m,hc,rfl,rfl⟩⟩,h2⟩
theorem uM{P:Program}{ops:Array Oper}:∀{l1 l2:List (Nat×Kind)} {σ τ ρ:St},Gy P ops l1 σ τ->Gy P ops l2 τ ρ->Gy P ops (l1++l2) σ ρ
 | [],_,_,_,_,h1,h2=>h2.same h1.symm
 | _::_,_,_,_,_,⟨Bl,h,h1⟩,h2=>⟨Bl,h,uM h1 h2⟩
theorem uN{P:Program}{ops all:Array Oper}{k:Nat}(hk:∀i o,ops[i]?=some o->all[k+i]?=some o)(hg:∀o∈all.toList,o.guard=none):∀{l:List (Nat×Kind)} {σ τ:St},Gy P ops l σ τ->Gy P all (l.map fun p=>(k+p.1,p.2)) σ τ
 | [],_,_,h=>h
 | (i,q)::r,_,_,h=>by
  obtain⟨Bl,⟨o,ho,h1⟩,h2⟩:=h;refine⟨Bl,⟨o,hk i o ho,?_⟩,uN hk hg h2⟩;have CO:=hk i o ho;have Qi:o.guard=none:=hg o (by
   rw[<-pL]at CO;exact AK CO)
  have w1:∀(a:Array Oper) (σ:St),JF a o σ=some true:=fun a σ=>jX
  rcases h1 with⟨_,h1⟩|⟨h1,_⟩
  ·exact .inl ⟨w1 _ _,h1⟩
  rw[w1]at h1;cases h1
theorem GA.PR(md:Md)(hT:CH P AD){all l1:List Oper}{k:Nat}{σ:St}{ks:List Kind}{R:St->List Kind->Prop}(n:Nat)(h1:(all.drop k).take n=l1)(hn:l1.length=n)(hg:∀o∈all,o.guard=none)
  (h:G9 P AD md l1 0 [] σ [] fun τ K'=>GA P all (k+n) τ (ks++K'.reverse) R):GA P all k σ ks R:=by
 obtain⟨τ,K',c1,n1,ρ,Vu,h3,c2,hR⟩:=Sc (all:=l1.toArray) hT l1 0 [] σ [] (fun j=>A6) (fun j t hj=>aL) h;have hl:k+n<=all.length:=by
  have:l1.length<=all.length-k:=by rw[<-h1,Dy,ND];omega
  by_cases hz:n=0
  ·omega
  omega
 have d1:=uN (all:=all.toArray) (k:=k) (fun i o hi=>by
  have Bo:l1[i]?=some o:=T5
  rw[<-h1,GC]at Bo;split at Bo
  ·rw[FC]at Bo;simpa using Bo
  cases Bo) YK c1
 refine⟨ρ,K'++Vu,YM,?_,by simpa using hR⟩;rw[List.zipIdx_append,Dx];have e1:(K'.zipIdx k).map (fun p=>(p.2,p.1))=((K'.zipIdx 0).map fun p=>(p.2,p.1)).map fun p=>(k+p.1,p.2):=by
  apply Gg;intro i;simp only[Bv,pM];cases K'[i]?<;>simp
 rw[e1];refine uM d1 ?_;rw[show k+K'.length=k+n from I];exact c2
theorem cQ{kb:Nat}(hm:P.follows .mixedOrders=true){id:Nat}{l:List Oper}{draw:Bool}{Q:E7->St->Prop}{σ:St}
  (h:GA P l 0 σ [] fun τ ks=>IN draw (fun _=>Jc l.toArray ks)∧At τ (Q .norm)):AU P kb (.region id l.toArray draw) Q σ:=by
 obtain⟨τ,ks,h1,h2,h3,h4⟩:=h;intro base a g hb hr;have F5:Gy P l.toArray ((List.range l.toArray.size).map fun i=>(i,ks.getD i .write)) σ τ:=by
  have e:(ks.zipIdx 0).map (fun p=>(p.2,p.1))=(List.range l.toArray.size).map fun i=>(i,ks.getD i .write):=by
   apply Gg;intro i;simp only[Bv];have hlen:ks.length=l.toArray.size:=JT
   by_cases hi:i<l.toArray.size
   ·have Bo:i<ks.length:=I
    rw[J3 hi];simp[Bo]
   rw[H3 abV,H3 abW];rfl
  rw[<-e];exact h2
 cases draw with
 | false=>exact oz F5 hr fun a g Mn=>⟨g,τ,rfl,Mn,h4⟩
 | true =>
  have hB:=h3 rfl;simp only[HF]at hB;exact zl hm hB F5 hr fun a g Mn=>⟨g,τ,rfl,Mn,h4⟩
end Go.Av
namespace Go.Proofs.YtjdnhamngpafmaaGreat
open Go.Av Tryz
variable {l:List Mv}
theorem mB{j:Nat}{x:Mv}(h:l[j]?=some x):l.drop j=x::l.drop (j+1):=by
 obtain⟨hk,e⟩:=List.getElem?_eq_some_iff.1 h;rw[<-e,<-Zp hk]
variable {O:List A8}
theorem qjD(AN:∀o∈O,o.upto O.length)(X:Nat)(a b:Int)(hX:O[X]?=some (.cells [aI a,aI b]))(y:Mv):Aq prog 139 O [eM y,.mp X 0] fun r O'=>r=.v (.bool (decide (y.1=a)))∧O'=O:=by
 have Pd:=AE hX;have h1:∀Y,(O++Y)[X]?=some (.cells [aI a,aI b]):=fun Y=>D8 hX;have h2:∀Y Z,(O++Y::Z)[O.length]?=some Y:=fun Y Z=>A6
 have Bh:O.length<=O.length:=B6 _;refine Ly hT true (O.length) func139 rfl CW (by simp[ntmps139]) I8 ?_;show AU prog _ _ _ ⟨9,_,_⟩;refine Cw ?_;refine KJ h1 h2 ?_;refine E9 ?_;simp -dsimp only[simprocAttr,↓AG,zp,zr,results139,UY];exact AN
theorem xA(y:Mv):BR prog 142 [eM y] (.v (.bool (decide (y.1=y.2)))):=by
 refine zf true 0 func142 ntmps142 ?_;refine Cw ?_;refine D7 ?_;simp -dsimp only[simprocAttr,↓AG,zp,zr,results142]
theorem qgh(AN:∀o∈O,o.upto O.length)(X:Nat)(a b:Int)(hX:O[X]?=some (.cells [aI a,aI b]))(y:Mv):Aq prog 145 O [eM y,.mp X 0] fun r O'=>r=.v (.bool (decide (y.2=a)))∧O'=O:=by
 have Pd:=AE hX;have h1:∀Y,(O++Y)[X]?=some (.cells [aI a,aI b]):=fun Y=>D8 hX;have h2:∀Y Z,(O++Y::Z)[O.length]?=some Y:=fun Y Z=>A6
 have Bh:O.length<=O.length:=B6 _;refine Ly hT true (O.length) func145 rfl CW (by simp[ntmps145]) I8 ?_;show AU prog _ _ _ ⟨9,_,_⟩;refine Cw ?_;refine KJ h1 h2 ?_;refine E9 ?_;simp -dsimp only[simprocAttr,↓AG,zp,zr,results145,UY];exact AN
theorem vQ(f':Nat)(I3:List A2)(q:Mv->Bool)(l:List Mv)(hq:∀x∈l,Aq prog f' O (eM x::I3) fun r O'=>r=.v (.bool (q x))∧O'=O) :
  Aq prog 143 O [.A3 2 (l.map eM) .sh,.fn (.func f') [] I3] fun r O'=>r=aI (NM q l)∧O'=O:=by
 obtain⟨R,hR⟩:∃R,R=NM q l:=⟨_,rfl⟩
 rw[<-hR];refine U5 hT func143 rfl CW (by simp[ntmps143]) ?_;show AU prog _ _ _ ⟨19,_,_⟩;refine Cw ?_;refine LN 0 rfl (fun J6=>?_);simp only[BE]at J6;refine BF ?_;refine Al (BZ (ι:={k:Nat // k<=l.length∧R=idxFrom q (l.drop k) k}) (fun k=>⟨19,[(0,.A3 2 (l.map eM) .sh),(1,.fn (.func f') [] I3),(7,aI l.length),(8,aI k.1)],O⟩) (fun k=>l.length-k.1) ⟨0,I,hR⟩ ?_ ?_)
 ·refine C6 ?_
  all_goals rfl
 rintro⟨k,hk,Af⟩;refine C3 (fun h=>?_) (fun h=>?_)
 ·refine Az ?_;have AF:k<l.length:=Aa
  obtain⟨x,hx⟩:∃x,l[k]?=some x:=⟨l[k],AY AF⟩
  have hqx:=hq x (AK hx);rw[mB hx,idxFrom]at Af;refine PF ?_;refine NJ hx ?_
  refine Ef ?_
  refine .inr (.inr ⟨_,hqx,B4 (zj ?_)⟩);refine Ak ?_;apply AZ rfl<;>intro h
  ·refine jh ?_;rw[Af,A9 h]
  refine H2 ?_;rw[A4 WN]at Af;refine Bw ?_;refine⟨⟨k+1,AF,Af⟩,pk,?_⟩;refine Ba ?_ ?_
  all_goals first|rfl|exact Sub.int A6
 refine BO ?_;have Fg:k=l.length:=by
  have:=G0 h;omega
 subst Fg;rw[F']at Af;refine jh ?_;rw[Af];rfl
theorem tF(id c:Nat)(J:List A2)(l:List Mv)(hO:O[id]?=some (.cells (mC l++J)))(VM:l.length<=2 ^ 40)(f':Nat)(I3:List A2)(q:Mv->Bool)
  (hq:∀x∈l,Aq prog f' O (eM x::I3) fun r O'=>r=.v (.bool (q x))∧O'=O) :
  Aq prog 143 O [.ms id 0 l.length c,.fn (.func f') [] I3] fun r O'=>r=aI (NM q l)∧O'=O:=by
 obtain⟨R,hR⟩:∃R,R=NM q l:=⟨_,rfl⟩
 rw[<-hR];have hlen:(mC l++J).length=l.length*2+J.length:=by rw[Bf,Si]
 refine U5 hT func143 rfl CW (by simp[ntmps143]) ?_;show AU prog _ _ _ ⟨19,_,_⟩;refine Yj ?_;refine Al (BZ (ι:={k:Nat // k<=l.length∧R=idxFrom q (l.drop k) k}) (fun k=>⟨19,[(0,.ms id 0 l.length c),(1,.fn (.func f') [] I3),(7,aI l.length),(8,aI k.1)],O⟩) (fun k=>l.length-k.1) ⟨0,I,hR⟩ ?_ ?_)
 ·refine C6 ?_
  all_goals rfl
 rintro⟨k,hk,Af⟩;refine C3 (fun h=>?_) (fun h=>?_)
 ·refine Az ?_;have AF:k<l.length:=Aa
  obtain⟨x,hx⟩:∃x,l[k]?=some x:=⟨l[k],AY AF⟩
  have hqx:=hq x (AK hx);obtain⟨FP,-,-⟩:=Z3 hx J;rw[mB hx,idxFrom]at Af;refine PF ?_;generalize mC l++J=C at *;refine B9 ?_;simp -dsimp only[simprocAttr,↓AG,zp,hO,FP,hlen]
  refine Ef ?_
  refine .inr (.inr ⟨_,hqx,B4 (zj ?_)⟩);refine Ak ?_;apply AZ rfl<;>intro h
  ·refine jh ?_;rw[Af,A9 h]
  refine H2 ?_;rw[A4 WN]at Af;refine Bw ?_;refine⟨⟨k+1,AF,Af⟩,pk,?_⟩;refine Ba ?_ ?_
  all_goals first|rfl|exact Sub.int A6
 refine BO ?_;have Fg:k=l.length:=by
  have:=G0 h;omega
 subst Fg;rw[F']at Af;refine jh ?_;rw[Af];rfl
theorem qeN(f':Nat)(I3:List A2)(q:Mv->Bool)(l:List Mv)(hq:∀x∈l,Aq prog f' O (eM x::I3) fun r O'=>r=.v (.bool (q x))∧O'=O) :
  Aq prog 138 O [.A3 2 (l.map eM) .sh,.fn (.func f') [] I3] fun r O'=>r=.v (.bool (l.any q))∧O'=O:=by
 have hi:=vQ f' I3 q l hq;have ha:=vu q l;exact acB ha
theorem qeO(id c:Nat)(J:List A2)(l:List Mv)(hO:O[id]?=some (.cells (mC l++J)))(VM:l.length<=2 ^ 40)(f':Nat)(I3:List A2)(q:Mv->Bool)
  (hq:∀x∈l,Aq prog f' O (eM x::I3) fun r O'=>r=.v (.bool (q x))∧O'=O) :
  Aq prog 138 O [.ms id 0 l.length c,.fn (.func f') [] I3] fun r O'=>r=.v (.bool (l.any q))∧O'=O:=by
 have hi:=tF id c J l hO VM f' I3 q hq;have ha:=vu q l;exact acB ha
theorem qjE(AN:∀o∈O,o.upto O.length)(id L c:Nat)(J:List A2)(l:List Mv)(x:Mv)(hL:O[L]?=some (.cells [.ms id 0 l.length c]))(hO:O[id]?=some (.cells (mC l++J)))(VM:l.length<=2 ^ 40) :
  Aq prog 144 O [eM x,.mp L 0] fun r O'=>r=.v (.bool (Kv l x))∧O'=O:=by
 have hLl:=AE hL;have h1:∀Y,(O++Y)[L]?=some (.cells [.ms id 0 l.length c]):=fun Y=>D8 hL;have ID:=qeO (O:=O++[.cells [aI x.1,aI x.2]]) id c J l (D8 hO) VM 145 [.mp O.length 0] (fun y=>decide (y.2=x.1)) fun y _=>qgh (fun o ho=>by
  rw[Bf];rcases List.mem_append.1 ho with q|q
  ·exact A8.IK A6 (AN o q)
  rw[List.mem_singleton.1 q];exact⟨trivial,trivial,trivial⟩) O.length x.1 x.2 (Se _ _) y
 have Bh:O.length<=O.length:=B6 _;unfold Kv;refine Ly hT true (O.length) func144 rfl CW (by simp[ntmps144]) I8 ?_;show AU prog _ _ _ ⟨8,_,_⟩;refine Cw ?_;refine NJ h1 ?_;refine .inr (.inr ⟨_,ID,B4 (zj ?_)⟩);refine E9 ?_;simp -dsimp only[simprocAttr,↓AG,zp,zr,results144,UY];exact AN
theorem qbg(l:List Mv)(hl:l≠[])(J6:l.length<=2 ^ 40) :
  Aq prog 141 O [.A3 2 (l.map eM) .nn] fun r O'=>r=.ms O.length 0 l.length l.length∧O'=O++[.cells (mC l)]:=by
 have Qw:¬l.length=0:=fun e=>hl (List.length_eq_zero_iff.1 e);have hc:=vx l;have hs:(l.map eM).map A2.share=l.map eM:=by
  rw[HV];exact Rb fun x _=>rfl
 refine U5 hT func141 rfl CW (by simp[ntmps141]) ?_;show AU prog _ _ _ ⟨8,_,_⟩;refine Yj ?_;refine FE ?_;refine zm1 ?_;simp -dsimp only[simprocAttr,↓AG,zp,hc,hs,BE]
 refine D1 ?_;refine F3 ?_;simp -dsimp only[simprocAttr,↓AG,zp,Sf,results141,JG,Mq,Hl,RE,RG,RF]
variable {k:Nat}
theorem qcB{x:Mv}(h:k<l.length):(l.set k x).take (k+1)=l.take k++[x]:=by
 rw[Fs,Bb h];congr 1;apply Gg;intro i;simp only[GC,FD];split
 ·rw[A4 I]
 rfl
theorem tA(l m:List Mv):FK (l++m)=FK l++FK m:=UT ..
theorem sX(h:∀x∈l,decide (x.1=x.2)=false):FK l=l:=by
 unfold FK;rw[List.filter_eq_self];intro x hx;rw[h x hx];rfl
theorem qj7(n:Nat):(List.replicate n [aI 0,aI 0]).flatten=List.replicate (n*2) (aI 0):=by
 induction n with
 | zero=>rfl
 | succ n ih =>
  rw[KG,UW,ih,show(n+1)*2=n*2+1+1 from I,KG,KG];rfl
theorem ql0(F:List Mv){k n:Nat}(hk:k<=n)(hF:F.length=n):As (mC F) (k*2) (List.replicate ((n-k)*2) (aI 0))=mC (F.take k)++List.replicate ((n-k)*2) (aI 0):=by
 have e:mC F=mC (F.take k)++mC (F.drop k):=by rw[<-mu,UP]
 have hl:(mC (F.take k)).length=k*2:=dX
 have hd:(mC (F.drop k)).length=(n-k)*2:=by rw[Si,ND];omega
 unfold As;rw[e,<-hl,UY,OG,<-hd,UN,F',F9]
theorem qeR(AN:∀o∈O,o.upto O.length)(id:Nat)(l:List Mv)(hl:l≠[])(hO:O[id]?=some (.cells (mC l)))(VM:l.length<=2 ^ 40) :
  Aq prog 140 O [.ms id 0 l.length l.length,.fn (.func 142) [] []] fun r O'=>r=.ms id 0 (FK l).length l.length∧O'=O.set id (.cells (mC (FK l)++List.replicate ((l.length-(FK l).length)*2) (aI 0))):=by
 have BN:=AE hO;obtain⟨n,hn⟩:∃n,n=l.length:=⟨_,rfl⟩
 have F7:0<n:=by rw[hn];exact List.length_pos_iff.2 hl
 have hi:=tF (O:=O) id l.length [] l (by rw[F9];exact hO) VM 142 [] (fun x=>decide (x.1=x.2)) fun x _=>(xA x).use jN O;rw[<-hn]at hi ⊢;rcases Xo (fun x:Mv=>decide (x.1=x.2)) l with⟨e1,e2⟩|⟨j0,x0,e1,e2,e3,e4⟩
 ·rw[e1]at hi;rw[sX e2,<-hn,FB,MH,iW,F9,Sg hO];refine acU ?_;refine Ak ?_;refine BF ?_;refine E3 ?_;simp -dsimp only[simprocAttr,↓AG,zp,Sf,results140,JG,Mq,Hl,RE,RG,RF]
 rw[e1]at hi;have hj0:=AE e2;obtain⟨D,hD⟩:∃D,D=FK l:=⟨_,rfl⟩
 rw[<-hD];have DB:∀m:List Mv,(FK m).length<=m.length:=fun m=>cz ..;have Au:FK (l.take (j0+1))=l.take j0:=by
  rw[Fs,e2,tA,sX e4];show l.take j0++FK [x0]=_;have:FK [x0]=[]:=by
   unfold FK;simp at e3;simp[e3]
  rw[this,F9]
 have hdj:decide ((j0:Int)=-1)=false:=Ac I;refine acU ?_;refine Rm hdj ?_;apply AZ rfl<;>intro h
 ·cases h
 refine Az ?_;refine GX ?_
 refine D1 ?_;refine Al (BZ (ι:={X:Nat×Nat×List Mv // X.1<=n∧X.2.2.length=n∧X.2.2.drop X.1=l.drop X.1∧X.2.2.take X.2.1=FK (l.take X.1)∧X.2.1<X.1∧X.2.1=(FK (l.take X.1)).length}) (fun X=>⟨42,[(0,.ms id 0 n n),(1,.fn (.func 142) [] []),(5,aI X.1.2.1),(6,aI X.1.1)],O.set id (.cells (mC X.1.2.2))⟩) (fun X=>n-X.1.1) ⟨(j0+1,j0,l),D6,hn.symm,rfl,Au.symm,D6,by simp only[Au,Dy];omega⟩ ?_ ?_)
 ·refine Ba ?_ ?_
  ·exact BY
  exact(Sg hO).symm
 rintro⟨⟨j,k,F⟩,hj,Jt,hF2,hF3,hF4,hk⟩;simp only at hj Jt hF2 hF3 hF4 hk;have hOF:(O.set id (.cells (mC F)))[id]?=some (.cells (mC F++[])):=by rw[F9];exact Bb BN
 have hFl:(mC F++[]).length=n*2:=by rw[F9,Si,Jt]
 have GK:∀y,(O.set id (.cells (mC F))).set id y=O.set id y:=fun y=>Hr ..;refine BF ?_;apply AZ rfl<;>intro h
 ·refine Az ?_;have AF:j<n:=Aa
  obtain⟨x,hx⟩:∃x,l[j]?=some x:=⟨l[j]' I,AY _⟩
  have hFx:F[j]?=some x:=by
   have:=Dj (fun z=>z[0]?) hF2;simp only[FC,J4]at this;rw[this,hx]
  obtain⟨FP,-,-⟩:=Z3 hFx [];have BA:l.take (j+1)=l.take j++[x]:=by rw[Fs,hx];rfl
  have hq:=xA x;have EC:∀o∈O.set id (.cells (mC F)),o.upto (O.set id (.cells (mC F))).length:=by
   rw[B2];refine DY AN ?_;rw[<-vx];show AQ _ _;rw[CF];intro y hy;unfold AP at hy;rw[L0]at hy;obtain⟨z,hz,hy⟩:=hy;obtain⟨p,_,rfl⟩:=List.mem_map.1 hz;simp[A2.cells]at hy;rcases hy with rfl|rfl<;>trivial
  have hFk:∃y,F[k]?=some y:=⟨F[k]' I,AY _⟩
  obtain⟨y,hFk⟩:=hFk;have hms:=xh hFk x [];have hms:As (mC F++[]) (k*2) [aI x.1,aI x.2]=mC (F.set k x):=by rw[hms,F9]
  have hFd:∀(m:Nat),j<m->(F.set k x).drop m=F.drop m:=fun m hm=>by
   apply Gg;intro i;simp only[FC,FD];rw[A4 I]
  have yx:F.drop (j+1)=l.drop (j+1):=by
   have:=Dj (fun z=>z.drop 1) hF2;simpa[WD]using this
  have Ig:((k:Nat):Int)+1<=9223372036854775807:=I
  refine DW (Al ?_);generalize mC F++[]=C at *;refine B9 ?_;refine QR hOF FP hFl ?_
  refine D1 ?_;refine G4 7 ([aI x.1,aI x.2]) [(0,.ms id 0 n n),(1,.fn (.func 142) [] []),(5,aI k),(6,aI j),(7,.ip none [aI x.1,aI x.2])] Dc CX A6 Dc ?_ ?_ ?_
  ·exact EC
  ·simp[A2.upto,AQ,BU];omega
  refine BM ?_;refine zi hq ?_;refine Ak ?_;apply AZ rfl<;>intro h
  ·have hxq:decide (x.1=x.2)=false:=Aa
   have XQ:FK (l.take (j+1))=FK (l.take j)++[x]:=by
    rw[BA,tA,sX (l:=[x]) (fun y hy=>by rw[List.mem_singleton.1 hy];exact hxq)]
   refine L6 hOF hFl ?_;rw[hms,GK];refine HA ?_
   refine ak ?_;refine⟨⟨(j+1,k+1,F.set k x),AF,by simp only[B2,Jt],by simp only;rw[hFd _ I,yx],by simp only[XQ];rw[qcB I,hF3],D6,by simp only[XQ,Bf,IU];omega⟩,aba,?_⟩;refine Ba ?_ ?_
   ·exact⟨Sub.int A6,Sub.int A6⟩
   rfl
  refine H2 ?_;have hxq:decide (x.1=x.2)=true:=Aa
  have XQ:FK (l.take (j+1))=FK (l.take j):=by
   have:FK [x]=[]:=by
    unfold FK;simp at hxq;simp[hxq]
   rw[BA,tA,this,F9]
  refine Bw ?_;refine⟨⟨(j+1,k,F),AF,Jt,yx,by simp only[XQ];exact hF3,D6,by simp only[XQ];exact hk⟩,aba,?_⟩;refine Ba ?_ ?_
  ·exact BY
  rfl
 refine BO ?_;have hjn:j=n:=by
  have:=G0 h;omega
 subst hjn;rw[Cb (l:=l) I,<-hD]at hF3 hk;subst hk;have yU:=ql0 F (k:=D.length) (n:=j) I Jt;rw[hF3]at yU;have qmR:(List.replicate (j-D.length) [aI 0,aI 0]).flatten=List.replicate ((j-D.length)*2) (aI 0):=qj7 _;have qm0:(O.set id (.cells (mC F)))[id]?=some (.cells (mC F)):=Bb BN;have qly:(mC F).length=j*2:=by rw[Si,Jt]
 generalize mC F=C at *;refine B9 ?_;refine QR qm0 qly qmR ?_
 refine D1 ?_;rw[yU,GK];refine WY ?_;refine F3 ?_;simp -dsimp only[simprocAttr,↓AG,zp,Sf,results140,JG,Mq,Hl,RE,RG,RF];rw[Zw,Zw]
theorem qeS{i:Nat}(hi:i<l.length)(J:List A2) :
  As (As (mC l++J) (i*2) (((mC l++J).drop ((i+1)*2)).take ((l.length-(i+1))*2))) ((l.length-1)*2) [aI 0,aI 0]=mC (l.eraseIdx i)++(aI 0::aI 0::J):=by
 obtain⟨p,hp⟩:∃p,l[i]?=some p:=⟨l[i],AY hi⟩
 have e1:=eJ hp;have e2:l.eraseIdx i=l.take i++l.drop (i+1):=List.eraseIdx_eq_take_drop_succ ..;have hA:(mC (l.take i)).length=i*2:=dX
 have hB:(mC (l.drop (i+1))).length=(l.length-(i+1))*2:=by rw[Si,ND]
 obtain⟨n,hn⟩:∃n,n=l.length:=⟨_,rfl⟩
 rw[e2,mu,e1,<-hn];rw[<-hn]at hB hi;generalize mC (l.take i)=A at *;generalize mC (l.drop (i+1))=B at *;have hd:((A++aI p.1::aI p.2::B)++J).drop ((i+1)*2)=B++J:=by
  rw[Ez,show(i+1)*2=A.length+2 from I,UN];rfl
 rw[hd,<-hB,UY];have hX:As ((A++aI p.1::aI p.2::B)++J) (i*2) B=A++(B++((aI p.1::aI p.2::B)++J).drop B.length):=by
  unfold As;rw[Ez,<-hA,UY,UN]
 rw[hX];obtain⟨D,hD⟩:∃D,D=((aI p.1::aI p.2::B)++J).drop B.length:=⟨_,rfl⟩
 have hD2:D.drop 2=J:=by
  rw[hD,WD,show B.length+2=(aI p.1::aI p.2::B).length from A6,List.drop_left]
 rw[<-hD];unfold As;rw[show(n-1)*2=(A++B).length from YM,<-Ez A B D,UY,UN];simp only[CE,GD];rw[show 0+1+1=2 from rfl,hD2];simp
theorem qfn(id c:Nat)(J:List A2)(l:List Mv)(i:Nat)(hi:i<l.length)(hc:l.length<=c)(hO:O[id]?=some (.cells (mC l++J)))(VM:l.length<=2 ^ 40)(qoj:c<=2 ^ 40) :
  Aq prog 146 O [.ms id 0 l.length c,aI i,aI (i+1)] fun r O'=>r=.ms id 0 (l.length-1) c∧O'=O.set id (.cells (mC (l.eraseIdx i)++(aI 0::aI 0::J))):=by
 have BN:=AE hO;have hdc:=qeS hi J;have Oo:(mC l++J).length=l.length*2+J.length:=by rw[Bf,Si]
 obtain⟨n,hn⟩:∃n,n=l.length:=⟨_,rfl⟩
 rw[<-hn]at hi hc VM hdc Oo ⊢;have hdi:decide ((i:Int)=i+1)=false:=Ac I;generalize mC (l.eraseIdx i)++(aI 0::aI 0::J)=E at *;generalize mC l++J=C at *;have GK:∀y z,(O.set id y).set id z=O.set id z:=fun y z=>Hr ..;refine U5 hT func146 rfl CW (by simp[ntmps146]) ?_;show AU prog _ _ _ ⟨33,_,_⟩;refine Cw ?_;refine DW (gq ⟨false,false⟩ hT 5 rfl rfl rfl A6 ?_);refine BL ?_;refine⟨_,_,qbd (l:=i) (h:=i+1) (m:=n) hT rfl A6 fS rfl fT rfl rfl rfl rfl I I I I I,?_⟩;refine Ki ?_;refine HZ hdi ?_;apply AZ rfl<;>intro h
 ·cases h
 refine Az ?_;refine Cc ?_;have hOs:∀y,(O.set id y)[id]?=some y:=fun y=>Bb BN;by_cases TA:i+1=n
 ·have BA:(C.drop ((i+1)*2)).take ((n-(i+1))*2)=[]:=by rw[show n-(i+1)=0 from I,MH,T4]
  rw[BA]at hdc;refine DW (cQ hm (GA.PR ⟨false,false⟩ hT 5 rfl rfl A6 ?_));refine BL ?_
  refine Ef ?_
  refine GA.op rfl rfl (qnq (k:=.i64) hT rfl A6 fS rfl fT rfl (by rw[<-TA];rfl)) ?_;refine BL ?_;refine GA.PR ⟨false,false⟩ hT 2 rfl rfl A6 ?_;refine Gi hO ?_
  refine Ef ?_
  refine rP ?_;obtain⟨E1,SK⟩:∃E1,E1=As C (i*2) []:=⟨_,rfl⟩
  rw[<-SK]at hdc;show AU prog _ _ _ ⟨_,(0,.ms id 0 i c)::_,O.set id (.cells (As C (i*2) []))⟩;rw[<-SK];have oP:E1.length=C.length:=by
   rw[SK,P'];exact KM
  have oQ:∀y,(O.set id y)[id]?=some y:=hOs;have hnq:n-i=1:=I
  have hz:(List.replicate 1 [aI 0,aI 0]).flatten=[aI 0,aI 0]:=rfl;refine B9 ?_;refine Yd oQ oP hnq hz ?_
  refine adN GK ?_;have hqn:i=n-1:=I
  rw[hqn,<-hdc];exact eH
 have Vl:(i+(n-(i+1)))*2<=C.length:=I
 have qn2:(i+1)*2+(n-(i+1))*2<=C.length:=I
 refine DW (cQ hm (GA.PR ⟨false,false⟩ hT 6 rfl rfl A6 ?_));refine BL ?_
 refine Ef ?_
 refine GA.op rfl rfl ((qnv hT rfl A6 fS rfl fT rfl hO rfl I Vl qn2 I).close Xz) ?_;refine adE ?_;obtain⟨E1,SK⟩:∃E1,E1=As C (i*2) ((C.drop ((i+1)*2)).take ((n-(i+1))*2)):=⟨_,rfl⟩
 rw[<-SK]at hdc;show AU prog _ _ _ ⟨_,(0,.ms id 0 (i+(n-(i+1))) c)::_,O.set id (.cells (As C (i*2) ((C.drop ((i+1)*2)).take ((n-(i+1))*2))))⟩;rw[<-SK];generalize hq:i+(n-(i+1))=q at *;have oP:E1.length=C.length:=by
  rw[SK,P'];rw[Dy,ND];omega
 have oQ:∀y,(O.set id y)[id]?=some y:=hOs;have hnq:n-q=1:=I
 have hz:(List.replicate 1 [aI 0,aI 0]).flatten=[aI 0,aI 0]:=rfl;refine B9 ?_;refine Yd oQ oP hnq hz ?_
 refine adN GK ?_;have hqn:q=n-1:=I
 rw[hqn,<-hdc];exact eH
def Lb(v s:Int)(l:List Mv)(j:Nat):List Mv:=(l.take j).map (Iq v s)++l.drop j
theorem qeY(v s:Int)(l:List Mv):Lb v s l 0=l:=by simp[Lb]
theorem qgv(v s:Int)(l:List Mv):Lb v s l l.length=l.map (Iq v s):=by simp[Lb]
theorem qgw(v s:Int)(l:List Mv)(j:Nat):(Lb v s l j).length=l.length:=by
 unfold Lb;rw[Bf,BE,Dy,ND];omega
theorem qjA(v s:Int){l:List Mv}{j:Nat}{x:Mv}(h:l[j]?=some x):(Lb v s l j)[j]?=some x:=by
 have hl:=AE h;unfold Lb;rw[Dg dM,BE,Dy,show j-min j l.length=0 from I,FC,J4,h]
theorem qeX(v s:Int){l:List Mv}{j:Nat}{x:Mv}(h:l[j]?=some x):(Lb v s l j).set j (Iq v s x)=Lb v s l (j+1):=by
 have hl:=AE h;unfold Lb;rw[mB h,OF _ _ dM,BE,Dy,show j-min j l.length=0 from I,OH,Fs,h,Dx,Ez];rfl
theorem x7(n:Nat)(l:List Mv):AQ n (mC l):=by
 rw[CF];intro y hy;unfold mC at hy;rw[L0]at hy;obtain⟨p,_,hy⟩:=hy;simp at hy;rcases hy with rfl|rfl<;>trivial
theorem cU(n:Nat):∀l:List Mv,AQ n (l.map eM)
 | []=>trivial
 | x::r=>⟨⟨trivial,trivial,trivial⟩,cU n r⟩
theorem qdh(spare:Int){left:List Mv}(AT:left≠[]):∃(L2 ex:List Mv) (k:Nat) (x:Mv),L2.length=left.length∧L2[k]?=some x∧M4 spare left=(L2.eraseIdx k,ex++[x]) ∧
  (NM (Kv left) left<0->k=0∧∃x0,left[0]?=some x0∧L2=left.map (Iq x0.1 spare)∧ex=[(spare,x0.1)])∧(0<=NM (Kv left) left->NM (Kv left) left=(k:Int)∧L2=left∧ex=[]):=by
 match left,AT with
 | x0::r,_ =>
  by_cases h:NM (Kv (x0::r)) (x0::r)<0
  ·refine⟨(x0::r).map (Iq x0.1 spare),[(spare,x0.1)],0,Iq x0.1 spare x0,BE _,rfl,?_,fun _=>⟨rfl,x0,rfl,rfl,rfl⟩,fun q=>I⟩;unfold M4;simp only;rw[A9 h];rfl
  rcases Xo (Kv (x0::r)) (x0::r)with⟨e,_⟩|⟨j,x,e,hj,_,_⟩
  ·omega
  refine⟨x0::r,[],j,x,rfl,hj,?_,fun q=>I,fun _=>⟨e,rfl,rfl⟩⟩;unfold M4;simp only;rw[A4 h,e,BH,hj];rfl
theorem qgP(l:List Mv)(spare:Int)(AT:l≠[])(hl:l.length<=2 ^ 30)(JK:∀x∈l,0<=x.1∧0<=x.2)(qml:∀(i j:Nat)(x y:Mv),i<j->l[i]?=some x->l[j]?=some y->x.1≠y.1)(Bg:∀x∈l,x.1≠spare∧x.2≠spare) :
  BR prog 116 [.A3 2 (l.map eM) .sh,aI spare] (.Ab [.A3 2 ((Qa l spare).map eM) .sh,aI 0]):=by
 obtain⟨n,hn⟩:∃n,n=l.length:=⟨_,rfl⟩
 obtain⟨R,hR⟩:∃R,R=Qa l spare:=⟨_,rfl⟩
 rw[<-hR];refine zf true 0 func116 ntmps116 ?_;refine MM ?_;refine adh 0 rfl (fun e=>B3 (List.map_eq_nil_iff.1 e) AT) ?_;refine BL ?_;refine Cc ?_;refine LN 0 rfl (fun J6=>?_);simp only[BE]at J6;refine Ej ?_;simp -dsimp only[simprocAttr,↓AG,zp,<-hn];refine Ak ?_;refine Al (BZ (ι:={k:Nat // k<=n}) (fun k=>⟨99,[(0,.A3 2 (l.map eM) .nn),(1,aI spare),(13,.A3 2 (l.map eM) .nn),(14,aI n),(15,aI k.1)],[]⟩) (fun k=>n-k.1) ⟨0,I⟩ ?_ ?_)
 ·refine C6 ?_
  all_goals rfl
 rintro⟨k,hk⟩;refine C3 (fun h=>?_) (fun h=>?_)
 ·refine Az ?_;have AF:k<n:=Aa
  obtain⟨x,hx⟩:∃x,l[k]?=some x:=⟨l[k]' I,AY _⟩
  have KU:=AK hx;obtain⟨p1,p2⟩:=JK x KU;obtain⟨s1,s2⟩:=Bg x KU;have d1:decide (x.1<0)=false:=Ac I;have d2:decide (x.2<0)=false:=Ac I;have d3:decide (x.1=spare)=false:=Ac s1;have d4:decide (x.2=spare)=false:=Ac s2;have AN:∀o∈[A8.cells [aI x.1,aI x.2]],o.upto [A8.cells [aI x.1,aI x.2]].length:=fun o ho=>by
   rw[List.mem_singleton.1 ho];exact⟨trivial,trivial,trivial⟩
  have qlX:(l.take k).any (fun y=>decide (y.1=x.1))=false:=by
   rw[List.any_eq_false];intro y hy;obtain⟨i,hi⟩:=List.mem_iff_getElem?.1 hy;have Tm:=AE hi;rw[Dy]at Tm;rw[GC,A9 I]at hi;simpa using qml i k y x I hi hx
  have B8:=qeN (O:=[A8.cells [aI x.1,aI x.2]]) 139 [.mp 0 0] (fun y=>decide (y.1=x.1)) (l.take k) fun y _=>qjD AN 0 x.1 x.2 rfl y;rw[qlX,pZ]at B8;refine Ui ?_;refine PG hx ?_;refine Al ?_;refine Jm d1 d2 ?_;apply AZ rfl<;>intro h
  ·cases h
  refine NJ J6 ?_
  refine Ef ?_
  refine .inr (.inr ⟨_,B8,B4 (zj ?_)⟩);refine Ak ?_;apply AZ rfl<;>intro h
  ·cases h
  refine Jm d3 d4 ?_;apply AZ rfl<;>intro h
  ·cases h
  refine zb2 ?_;refine Ei 0 [(0,.A3 2 (l.map eM) .nn),(1,aI spare),(13,.A3 2 (l.map eM) .nn),(14,aI n),(15,aI k)] I I [] ?_ ?_ ?_ ?_ ?_
  ·rfl
  ·simp
  ·exact Es
  ·simp[AQ,A2.upto,BU,cU]
  refine Bw ?_;refine⟨⟨k+1,AF⟩,by show n-(k+1)<n-k;omega,?_⟩;refine Ba ?_ ?_
  ·exact BY
  rfl
 refine BO ?_;clear hk;have B8:=qbg (O:=[]) l AT I;have TV:=qeR (O:=[A8.cells (mC l)]) (fun o ho=>by rw[List.mem_singleton.1 ho];exact x7 _ _) 0 l AT rfl I;rw[<-hn]at B8 TV;have qm5:[A8.cells (mC l)].set 0 (.cells (mC (FK l)++List.replicate ((n-(FK l).length)*2) (aI 0)))=[.cells (mC (FK l)++List.replicate ((n-(FK l).length)*2) (aI 0))]:=rfl;rw[qm5]at TV;have DB:(FK l).length<=n:=by rw[hn];exact cz ..
 have hRn:R=M6 spare n (FK l):=by rw[hR,hn];rfl
 generalize FK l=D at *;have hJ0:∀y∈List.replicate ((n-D.length)*2) (aI 0),y=aI 0:=fun y hy=>(List.mem_replicate.1 hy).2;generalize List.replicate ((n-D.length)*2) (aI 0)=J0 at *;refine BM ?_;refine .inr (.inl ⟨_,_,B8,.inl (B4 (zj ?_))⟩);refine rR ?_;refine Cc ?_;refine lW 9 rfl ?_;refine BL ?_;show AU prog _ _ _ ⟨_,_,[.cells (mC D++J0),.cells [.ms 0 0 D.length n],.spare 0]⟩;refine DW (Al (BZ (ι:={X:List Mv×List A2×List Mv×Nat // X.1.length<=n∧X.1.length<=X.2.2.2∧R=X.2.2.1++M6 spare X.2.2.2 X.1∧X.2.2.1.length<=2*(n-X.1.length)∧∀y∈X.2.1,y=aI 0}) (fun X=>⟨99,[(1,aI spare),(8,.mp 1 0),(9,.A3 2 (X.1.2.2.1.map eM) (.tok 2))],[.cells (mC X.1.1++X.1.2.1),.cells [.ms 0 0 X.1.1.length n],.spare X.1.2.2.1.length]⟩) (fun X=>X.1.1.length) ⟨(D,J0,[],n),DB,DB,hRn,A6,hJ0⟩ ?_ ?_))
 ·refine C6 ?_
  all_goals rfl
 rintro⟨⟨left,J,out,fuel⟩,Vl,hlf,R3,Jx,hJ⟩;simp only at Vl hlf R3 Jx hJ;obtain⟨m,hm⟩:∃m,m=left.length:=⟨_,rfl⟩
 have AN:∀o∈[A8.cells (mC left++J),.cells [.ms 0 0 left.length n],.spare out.length],o.upto [A8.cells (mC left++J),.cells [.ms 0 0 left.length n],.spare out.length].length:=fun o ho=>by
  simp only[CL,GG,Di]at ho;rcases ho with rfl|rfl|rfl
  ·show AQ _ _;rw[CF];intro y hy;rcases List.mem_append.1 hy with q|q
   ·exact CF.1 (x7 _ _) y q
   rw[hJ y q];trivial
  ·exact⟨show 0<3 from I,trivial⟩
  trivial
 refine BF ?_;apply AZ rfl<;>intro h
 ·refine Az ?_;have Dv:left≠[]:=fun e=>by rw[e]at h;simp at h
  have hmp:0<left.length:=List.length_pos_iff.2 Dv;obtain⟨L2,ex,k,x,g1,g2,g3,g4,g5⟩:=qdh spare Dv;have Ig:=AE g2;rw[g1]at Ig;have Ph:=tF (O:=[A8.cells (mC left++J),.cells [.ms 0 0 left.length n],.spare out.length]) 0 n J left rfl I 144 [.mp 1 0] (Kv left) fun y _=>qjE AN 0 1 n J left y rfl rfl I;obtain⟨ix,Lu⟩:∃ix,ix=NM (Kv left) left:=⟨_,rfl⟩
  rw[<-Lu]at Ph g4 g5;refine Al ?_;refine BM ?_;refine .inr (.inr ⟨_,Ph,B4 (zj ?_)⟩);refine Ak ?_;refine LO (⟨99,[(1,aI spare),(8,.mp 1 0),(9,.A3 2 ((out++ex).map eM) (.tok 2)),(10,aI k)],[.cells (mC L2++J),.cells [.ms 0 0 left.length n],.spare (out++ex).length]⟩) ?_ ?_
  ·by_cases c9:ix<0
   ·obtain⟨rfl,x0,Pt,rfl,rfl⟩:=g4 c9;have ES:decide (ix<0)=true:=Ar c9;obtain⟨-,ID,-⟩:=Z3 Pt J;have Oo:(mC left++J).length=left.length*2+J.length:=by rw[Bf,Si]
    rw[MH]at ID;refine Ch ES ?_;apply AZ rfl<;>intro h
    ·generalize hCe:mC left++J=C at *;refine L6 ID Oo ?_;refine WY ?_;have Qe:out.map eM++[.agg [aI spare,aI x0.1]]=(out++[(spare,x0.1)]).map eM:=A6
     rw[Qe];have gX:(out++[(spare,x0.1)]).length=out.length+1:=A6
     rw[gX];generalize out++[(spare,x0.1)]=gb at *;obtain⟨v,hv⟩:∃v,v=x0.1:=⟨_,rfl⟩
     rw[<-hv];refine BF ?_;have hz0:mC (Lb v spare left 0)=mC left:=by rw[qeY]
     have hbr:left.map (Iq v spare)=Lb v spare left left.length:=(qgv ..).symm;have FZ:[A8.cells C,A8.cells [A2.ms 0 0 left.length n],A8.spare (out.length+1)]=[.cells (mC (Lb v spare left 0)++J),.cells [.ms 0 0 left.length n],.spare (out.length+1)]:=by rw[hz0,hCe]
     refine Al (BZ (ι:={j:Nat // j<=left.length}) (fun j=>⟨99,[(1,aI spare),(8,.mp 1 0),(9,.A3 2 (gb.map eM) (.tok 2)),(11,aI v),(69,aI left.length),(70,aI j.1)],[.cells (mC (Lb v spare left j.1)++J),.cells [.ms 0 0 left.length n],.spare (out.length+1)]⟩) (fun j=>left.length-j.1) ⟨0,I⟩ ?_ ?_)
     ·refine C6 ?_
      all_goals exact FZ
     rintro⟨j,hj⟩;refine C3 (fun h=>?_) (fun h=>?_)
     ·refine Az ?_;have Hb:j<left.length:=Aa
      obtain⟨y,hy⟩:∃y,left[j]?=some y:=⟨left[j]' I,AY _⟩
      have H8:=qjA v spare hy;obtain⟨-,-,Dp⟩:=Z3 H8 J;have Oo:(mC (Lb v spare left j)++J).length=left.length*2+J.length:=by rw[Bf,Si,qgw]
      have hms:=qj6 H8 spare J;have Au:=qeX v spare hy;generalize hCf:mC (Lb v spare left j)++J=C2 at *;refine PF ?_;refine L6 Dp Oo ?_;apply AZ rfl<;>intro h
      ·have hyv:y.2=v:=Aa
       unfold Iq at Au;rw[A9 hyv]at Au;rw[Au]at hms;refine WX Oo ?_;rw[hms];refine Bw ?_;refine⟨⟨j+1,Hb⟩,aas,?_⟩;refine Ba ?_ ?_
       ·exact BY
       rfl
      refine H2 ?_;have hyv:¬y.2=v:=Aa
      unfold Iq at Au;rw[A4 hyv,Sg H8]at Au;refine Bw ?_;refine⟨⟨j+1,Hb⟩,aas,?_⟩;refine Ba ?_ ?_
      ·exact BY
      rw[<-hCf,Au]
     refine BO ?_;have Ff:j=left.length:=by
      have:=G0 h;omega
     subst Ff;rw[<-hbr];refine HA ?_;refine Yc ?_;rw[<-gX]
    cases h
   have ES:decide (ix<0)=false:=Ac c9;obtain⟨Tm,rfl,rfl⟩:=g5 I;rw[F9];refine Us ES ?_;refine F1 ?_ ?_
   ·exact Sub.of_eq (by rw[Tm])
   rfl
  obtain⟨FP,-,-⟩:=Z3 g2 J;have Oo:(mC L2++J).length=left.length*2+J.length:=by rw[Bf,Si,g1]
  have hex:ex.length<=1:=by
   by_cases c9:ix<0
   ·obtain⟨_,_,_,_,rfl⟩:=g4 c9;simp
   obtain⟨_,_,rfl⟩:=g5 I;simp
  have SU:(out++ex).length<=out.length+1:=YM
  generalize To:out++ex=o2 at *;have ZF:=qfn (O:=[A8.cells (mC L2++J),.cells [.ms 0 0 left.length n],.spare (o2.length+1)]) 0 n J L2 k I I rfl I I;rw[g1]at ZF;have Fk:([A8.cells (mC L2++J),.cells [.ms 0 0 left.length n],.spare (o2.length+1)]:List A8).set 0 (.cells (mC (L2.eraseIdx k)++(aI 0::aI 0::J)))=[.cells (mC (L2.eraseIdx k)++(aI 0::aI 0::J)),.cells [.ms 0 0 left.length n],.spare (o2.length+1)]:=rfl;rw[Fk]at ZF;obtain⟨C,hC⟩:∃C,C=mC L2++J:=⟨_,rfl⟩
  rw[<-hC]at FP Oo ZF;rw[<-hC];have Qe:o2.map eM++[.agg [aI x.1,aI x.2]]=(o2++[x]).map eM:=A6
  refine L6 FP Oo ?_;rw[Qe];refine HA ?_
  refine Ef ?_
  refine .inr (.inl ⟨_,_,ZF,.inl (B4 (zj ?_))⟩);refine zl1 ?_;have IB:(L2.eraseIdx k).length=left.length-1:=by rw[aaC,A9 I,g1]
  have JC:(o2++[x]).length=o2.length+1:=by rw[Bf];rfl
  have bh:[A8.cells (mC (L2.eraseIdx k)++aI 0::aI 0::J),A8.cells [A2.ms 0 0 (left.length-1) n],A8.spare (o2.length+1)]=[A8.cells (mC (L2.eraseIdx k)++aI 0::aI 0::J),A8.cells [A2.ms 0 0 (L2.eraseIdx k).length n],A8.spare (o2++[x]).length]:=by rw[JC,IB]
  have Od:R=o2++[x]++M6 spare (fuel-1) (L2.eraseIdx k):=by
   rw[R3,show fuel=fuel-1+1 from I,M6,A4 Dv,g3,<-To];simp
  refine⟨⟨(L2.eraseIdx k,aI 0::aI 0::J,o2++[x],fuel-1),D6,D6,Od,D6,fun y hy=>?_⟩,by show(L2.eraseIdx k).length<left.length;omega,?_⟩
  ·simp only[CL]at hy;rcases hy with q|q|q
   ·exact q
   ·exact q
   exact hJ y q
  refine C6 ?_;exact bh
 refine BO ?_;have Qw:left=[]:=by
  have:=G0 h;exact rp
 have hRo:R=out:=by
  rw[R3,Qw];cases fuel<;>simp[M6]
 refine D7 ?_;simp -dsimp only[simprocAttr,↓AG,zp,zr,results116];exact⟨⟨⟨cU _ _,trivial⟩,trivial,trivial⟩,by rw[hRo]⟩
theorem qig(spare:Int):BR prog 116 [.A3 2 [] .sh,aI spare] (.Ab [.A3 2 [] .sh,aI 0]):=by
 have qmv:BR prog 143 [.A3 2 [] .sh,.fn (.func 142) [] []] (aI (-1)):=by
  have:=vQ (O:=[]) 142 [] (fun x=>decide (x.1=x.2)) [] (fun x hx=>WO);exact Cd
 have ZF:BR prog 140 [.A3 2 [] .sh,.fn (.func 142) [] []] (.A3 2 [] .sh):=by
  refine zf true 0 func140 ntmps140 ?_;refine LZ ?_;refine .inl ⟨_,qmv,jB,B4 ?_⟩;refine Ki ?_;refine BF ?_;refine E3 ?_;simp -dsimp only[simprocAttr,↓AG,zp,zr,results140];trivial
 have B8:BR prog 141 [.A3 2 [] .sh] (.A3 2 [] .sh):=by
  refine zf true 0 func141 ntmps141 ?_;refine MM ?_;refine adh 0 rfl (fun _=>?_) ?_
  ·refine BL ?_;refine Yh ?_;refine E3 ?_;exact ad5
  refine BL ?_;refine Yh ?_;refine FE ?_;refine WY ?_;refine F3 ?_;exact ad5
 refine zf true 0 func116 ntmps116 ?_;refine Yj ?_;refine Al (BZ (ι:=Unit) (fun x=>⟨99,[(0,.A3 2 [] .sh),(1,aI spare),(13,.A3 2 [] .sh),(14,aI 0),(15,aI 0)],[]⟩) (fun x=>0) () ?_ ?_)
 ·refine C6 ?_
  all_goals rfl
 rintro⟨⟩;refine Cc ?_;refine zu1 rfl ?_;refine BO ?_;refine BM ?_;refine .inl ⟨_,B8,jB,B4 ?_⟩;refine BL ?_;refine .inl ⟨_,ZF,jB,B4 ?_⟩;refine Ki ?_;refine Cc ?_;refine DW (Al (BZ (ι:=Unit) (fun x=>⟨99,[(8,.mp 0 0),(9,.A3 2 [] .ex)],[.cells [.A3 2 [] .sh]]⟩) (fun x=>0) () ?_ ?_))
 ·refine C6 ?_
  all_goals rfl
 rintro⟨⟩;refine BF ?_;refine KL ?_;refine BO ?_;refine D7 ?_;simp -dsimp only[simprocAttr,↓AG,zp,zr,results116];trivial
structure qk6(u:Ad):Prop where
 few:u.fns.length<=256
 main:0<=u.main∧u.main<u.fns.length
 none:(A7 (AB u u.main) 0).params=[]
 fns:∀f∈u.fns,Lc f
 calls:∀f∈u.fns,∀b∈f.blocks,∀i∈b.ins,KX u i=0
variable {u:Ad}
theorem qf7(AO:u.fit)(h:Hh u=0):qk6 u:=by
 unfold Hh at h;split at h
 ·simp at h
 split at h
 ·simp at h
 split at h
 ·simp at h
 rename_i h3;have h4:=Mx h;have h5:=h4.2;split at h5
 ·simp at h5
 rename_i h6;exact⟨I,I,List.length_eq_zero_iff.1 I,fun f hf=>mV (AO.2.2 f hf) (iH h4.1 f hf),iD h5⟩
variable {f:Func}
theorem Lc.qcY(h:Lc f){b:Block}(hb:b∈f.blocks):b.params.length<=6:=by
 obtain⟨k,hk⟩:=List.mem_iff_getElem?.1 hb;by_cases h0:0<k
 ·rw[h.bare k b hk h0];simp
 have Ln:k=0:=I
 subst Ln;have:=h.args;unfold A7 at this;rw[show((0:Int).toNat)=0 from rfl,hk]at this;exact Cd
theorem qgR(AO:u.fit)(h:Hh u=0):HL u:=by
 have hw:=qf7 AO h;refine⟨hw.main,hw.few,hw.none,fun f hf=>⟨(hw.fns f hf).ne,ab1⟩,fun f hf b hb=>?_⟩;have hF:=hw.fns f hf;have hE:=LS (hF.fin b hb);refine⟨fun i hi=>?_,⟨hE.kind,?_,hE.jump,hE.cond,hE.switch,fun e he=>?_,by have:=hE.cases;omega⟩,abo⟩
 ·have hc:=vo (hw.calls f hf b hb i hi);have XS:=((AO.2.2 f hf).2.2 b hb).2.2.2.1 i hi;by_cases DG:i.op=100
  ·have hm:=hF.C4 b hb i hi;unfold Ro at hm;have hl:i.args.length=1:=by
    split at hm
    ·simp at hm
    simp only[LW,DG,not_true_eq_false,Gf]at hm;split at hm
    ·simp at hm
    rename_i q;omega
   exact⟨.inr DG,I,⟨XS.1,XS.2.2.1⟩,fun q=>I,fun q=>I,fun _=>hl,fun q=>I,fun q=>I,fun q=>I,fun q=>I,fun q=>I,fun q=>I,fun q=>I,fun q=>I⟩
  have Bo:=hF.form b hb i hi DG;have hlen:=Bo.len;refine⟨.inl Bo.op,I,⟨XS.1,XS.2.2.1⟩,fun q=>(Bo.c0 q).1,Bo.c2,fun q=>Bo.c1 (by have:=Bo.op;omega),Bo.c3,fun q=>⟨?_,hlen⟩,fun q=>?_,fun q=>?_,Bo.app,Bo.sel,fun _=>hlen,Bo.vec⟩
  ·have:=Bo.con q;unfold CR;omega
  ·have:=Bo.call (.inl q);have:=hc.1 (.inr q);exact⟨I,I,hlen⟩
  have:=Bo.call (.inr q);exact⟨I,hc.1 (.inl q),hc.2.1 q⟩
 ·by_cases h4:b.term.kind=4
  ·have:=hE.VO h4;omega
  have:=hE.n h4;omega
 have Fu:=hE.DN e he;have hm:=M' (f:=f) (k:=e.block) I I;have:=hF.qcY hm;exact⟨I,I,Fu.2,I⟩
def NV(x:Mv):Ins:=⟨x.1,100,0,[x.2]⟩
def HM(g:Func)(e:Edge):List Mv:=(A7 g e.block).params.zip e.args
def Io(g:Func)(e:Edge)(spare:Int):List Ins:=(Qa (HM g e) spare).map NV
structure MvW(g:Func)(e:Edge)(spare:Int):Prop where
 blk:0<=e.block∧e.block<g.blocks.length
 len:e.args.length=(A7 g e.block).params.length
 few:(A7 g e.block).params.length<=4096
 pos:∀x∈HM g e,0<=x.1∧0<=x.2
 dis:∀(i j:Nat) (x y:Mv),i<j->(HM g e)[i]?=some x->(HM g e)[j]?=some y->x.1≠y.1
 sp:∀x∈HM g e,x.1≠spare∧x.2≠spare
def OQ(L:List Block)(k:Nat)(F:Block->Block):List Block:=match L[k]? with
 | some b=>L.set k (F b)
 | none=>L
variable {L:List Block}{b:Block}
theorem UG(h:L[k]?=some b)(F:Block->Block):OQ L k F=L.set k (F b):=by
 unfold OQ;rw[h]
def bG(b:Block):Block:=⟨b.params,b.ins,⟨1,0,0,[],b.term.to⟩⟩
def Yl(l:List Ins)(b:Block):Block:=⟨b.params,b.ins++l,b.term⟩
def Y3(l:List Ins)(b:Block):Block:=⟨b.params,l++b.ins,b.term⟩
def bR(n:Nat)(b:Block):Block:=Dq b (b.term.to.set n ⟨(b.term.to[n]?.getD ⟨0,[]⟩).block,[]⟩)
def QK(one:Bool)(l:List Ins)(k:Nat)(x:Edge)(L:List Block):List Block:=if one then OQ L k (Yl l)else OQ L x.block.toNat (Y3 l)
def kU(g:Func)(sp:Int)(k:Nat)(b:Block)(n:Nat)(x:Edge)(L:List Block):List Block:=OQ (QK (decide (b.term.to.length=1)) (Io g x sp) k x L) k (bR n)
def Mb(g:Func)(sp:Int)(k:Nat)(b:Block):Nat->List Edge->List Block->List Block
 | _,[],L=>L
 | n,x::r,L=>Mb g sp k b (n+1) r (kU g sp k b n x L)
def Ii(k:Nat)(b:Block)(L:List Block):List Block:=if b.term.kind=3∧b.term.to.length=1 then OQ L k bG else L
def K0(g:Func)(sp:Int):Nat->List Block->List Block->List Block
 | _,[],L=>L
 | k,b::r,L=>K0 g sp (k+1) r (Mb g sp k b 0 b.term.to (Ii k b L))
def Uw(b:Block):Block:=⟨[],b.ins,b.term⟩
def M5(k:Nat):List Block->List Block
 | []=>[]
 | b::r=>(if k=0 then b else Uw b)::M5 (k+1) r
def RS(g:Func)(sp:Int):Func:=⟨g.name,M5 0 (K0 g sp 0 g.blocks g.blocks)⟩
structure NT(g:Func)(m:Nat)(L:List Block):Prop where
 len:L.length=g.blocks.length
 to:∀(j:Nat) (b c:Block),g.blocks[j]?=some b->L[j]?=some c->c.term.to.length=b.term.to.length
 few:∀c∈L,c.ins.length<=m
theorem NT.set{g:Func}{m m':Nat}(h:NT g m L){k:Nat}{c c':Block}(hc:L[k]?=some c)(ht:c'.term.to.length=c.term.to.length)(hi:c'.ins.length<=m')(hm:m<=m'):NT g m' (L.set k c') where
 len:=jO
 to:=fun j b d hb hd=>by
  rw[FD]at hd;split at hd
  ·rename_i e;subst e;rw[A9 (AE hc)]at hd;simp only[AM]at hd;subst hd;rw[ht];exact h.to k b c hb hc
  exact h.to j b d hb hd
 few:=fun d hd=>by
  rcases KE hd with q|q
  ·have:=h.few d q;omega
  rw[q];exact hi
theorem NT.start(g:Func){m:Nat}(h:∀b∈g.blocks,b.ins.length<=m):NT g m g.blocks:=⟨rfl,fun j b c h1 h2=>by
 rw[h1]at h2;rw[HX h2],h⟩
@[irreducible] def MP (k n:Nat):Nat:=1024+k*2500000+n*8192
theorem qf3:MP 0 0=1024:=by unfold MP;omega
theorem qf2(k n:Nat):MP k n+8192<=MP k (n+1):=by unfold MP;omega
variable {n:Nat}
theorem qf1(h:n<=257):MP k n<=MP (k+1) 0:=by unfold MP;omega
theorem qj1(h:k<=128)(hn:n<=257):MP k n<=400000000:=by unfold MP;omega
theorem NT.mono{g:Func}{m m':Nat}(h:NT g m L)(hm:m<=m'):NT g m' L:=⟨h.len,h.to,fun c hc=>by have:=h.few c hc;omega⟩
variable {m:Mach}
theorem Wg(hm:CY u m)(ho:m.over=false)(hp:¬m.left<1):CY u (m.Ae 1)∧(m.Ae 1).over=false∧(m.Ae 1).short=false∧(m.Ae 1).left=m.left-1∧(m.Ae 1).frames=m.frames:=by
 have h0:=hm.left;have hd:=hm.depth;have S6:m.Ae 1 = { m with left:=m.left-1 }:=by simp[Mach.Ae,hp]
 rw[S6];exact⟨⟨fun f hf=>(hm.frames f hf).of_heap CX,fun a ha=>⟨(hm.Fy a ha).1,fun v hv=>((hm.Fy a ha).2 v hv).of_heap CX⟩,D6,D6,hm.out,hm.words,hm.fin,hm.val,hm.done,fun h=>hm.over h⟩,ho,(hm.over ho).2,rfl,rfl⟩
theorem cn(hp:m.left<1):m.Ae 1 = { m with short:=true,over:=true }:=by simp[Mach.Ae,hp]
theorem Ut{u:Ad}(hu:HL u):∀(k:Nat) (m:Mach),CY u m->m.left.toNat+2<=k->(Mach.run u k m).over=true∧(Mach.run u k m).left<=m.left∧(m.over=false->(Mach.run u k m).short=false->(Mach.run u k m).left<=m.left-1)∧((Mach.run u k m).short=false->CY u (Mach.run u k m))
 | 0,m,hm,hk=>by omega
 | k+1,m,hm,hk=>by
  cases FT:m.over with
  | true=>simp[Mach.run,FT,hm]
  | false =>
   have hl:=hm.left;have hd:=hm.depth;simp only[Mach.run,FT,JS,Gf];by_cases hp:m.left<1
   ·rw[cn hp];simp
   obtain⟨q1,q2,q3,q4,q5⟩:=Wg hm FT hp;rw[A4 df];have Gk:(m.Ae 1).frames.length+(m.Ae 1).left+1<=2 ^ 40:=by rw[q4,q5];omega
   have hs:=CY.step hu q1 q2 Gk;have EH:=tR u (m.Ae 1) q1 hu q2;have Of:=hs.left;have ih:=Ut hu k _ hs I;refine⟨ih.1,by have:=ih.2.1;omega,fun _ _=>by have:=ih.2.1;omega,ih.2.2.2⟩
namespace Mach
def shift(m:Mach)(c:Int):Mach:={ m with left:=m.left+c }
theorem qbD(m:Mach)(c:Int)(f:Fr):(m.shift c).BW f=(m.BW f).shift c:=rfl
theorem qcQ(m:Mach)(c:Int)(f:Fr)(v:SV):(m.shift c).leave f v=(m.leave f v).shift c:=by
 unfold leave;show(match m.frames.tail with | []=>_|g::r=>_)=_;cases m.frames.tail<;>rfl
theorem qbC(u:Ad)(m:Mach)(c:Int)(f:Fr)(t:Term):(m.shift c).finish u f t=(m.finish u f t).shift c:=by
 unfold finish;split
 ·rfl
 split
 ·rfl
 split
 ·exact qcQ ..
 split<;>rfl
theorem vN(m:Mach)(c n:Int)(h:¬m.left<n)(h':¬m.left+c<n):(m.shift c).Ae n=(m.Ae n).shift c:=by
 have h1:m.Ae n = { m with left:=m.left-n }:=by simp[Ae,h]
 have h2:(m.shift c).Ae n = { m.shift c with left:=(m.shift c).left-n }:=by simp[Ae,shift,h']
 rw[h1,h2];simp only[shift];congr 1;omega
theorem qaf(m:Mach)(c:Int)(size fill:SV)(hs:(m.E6 size fill).1.short=false)(hl:0<=(m.E6 size fill).1.left+c):(m.shift c).E6 size fill=((m.E6 size fill).1.shift c,(m.E6 size fill).2):=by
 unfold E6 at hs hl ⊢;by_cases h1:size.kind≠0
 ·rw[A9 h1,A9 h1]
 rw[A4 h1]at hs hl;rw[A4 h1,A4 h1];by_cases h2:size.n<0∨1024<size.n
 ·rw[A9 h2,A9 h2]
 rw[A4 h2]at hs hl;rw[A4 h2,A4 h2];by_cases h3:(m.Ae size.n).short=true
 ·rw[A9 h3]at hs;simp only at hs;rw[hs]at h3;cases h3
 rw[A4 h3]at hl;have h4:¬m.left<size.n:=fun q=>h3 (by simp[Ae,q]);have h5:m.Ae size.n = { m with left:=m.left-size.n }:=by simp[Ae,h4]
 have h7:(m.Ae size.n).left=m.left-size.n:=by rw[h5]
 simp only[h7]at hl;rw[vN m c size.n h4 I];have h6:¬((m.Ae size.n).shift c).short=true:=h3;rw[A4 h6,A4 h3];rfl
theorem qbB(m:Mach)(c:Int)(i:Ins)(args:List SV)(hs:(m.effect i args).1.short=false)(hl:0<=(m.effect i args).1.left+c):(m.shift c).effect i args=((m.effect i args).1.shift c,(m.effect i args).2):=by
 unfold effect at hs hl ⊢;by_cases KN:i.op=15
 ·rw[A9 KN,A9 KN];show(if _ then _ else if m.out.length=1000 then _ else _)=_;split
  ·rfl
  split<;>rfl
 rw[A4 KN]at hs hl;rw[A4 KN,A4 KN];by_cases Js:i.op=16
 ·rw[A9 Js]at hs hl;rw[A9 Js,A9 Js];exact qaf m c _ _ hs hl
 rw[A4 Js,A4 Js];by_cases Kj:i.op=18
 ·rw[A9 Kj,A9 Kj];split
  ·rfl
  split<;>rfl
 have hh:(m.shift c).heap=m.heap:=rfl;rw[A4 Kj,A4 Kj,hh];by_cases k1:(BS args 0).kind≠3∨(i.op≠17∧(BS args 1).kind≠0)
 ·rw[A9 k1,A9 k1]
 rw[A4 k1,A4 k1];by_cases k2:i.op=17
 ·rw[A9 k2,A9 k2]
 rw[A4 k2,A4 k2];by_cases k3:(BS args 1).n<0∨((K8 m.heap (BS args 0).arr).length:Int)<=(BS args 1).n
 ·rw[A9 k3,A9 k3]
 rw[A4 k3,A4 k3];by_cases k4:i.op=19
 ·rw[A9 k4,A9 k4]
 rw[A4 k4,A4 k4];rfl
theorem uC(m:Mach)(c:Int)(i:Ins)(args:List SV)(hs:(m.exec i args).1.short=false)(hl:0<=(m.exec i args).1.left+c):(m.shift c).exec i args=((m.exec i args).1.shift c,(m.exec i args).2):=by
 unfold exec at hs hl ⊢;by_cases h0:i.op=0
 ·rw[A9 h0,A9 h0]
 rw[A4 h0]at hs hl;rw[A4 h0,A4 h0];by_cases h1:1<=i.op∧i.op<=7
 ·rw[A9 h1,A9 h1];split<;>rfl
 rw[A4 h1]at hs hl;rw[A4 h1,A4 h1];by_cases h8:i.op=8
 ·rw[A9 h8,A9 h8]
 rw[A4 h8]at hs hl;rw[A4 h8,A4 h8];by_cases h9:i.op=9
 ·rw[A9 h9,A9 h9]
 rw[A4 h9]at hs hl;rw[A4 h9,A4 h9];by_cases Jr:i.op=10∨i.op=11∨i.op=12∨i.op=21
 ·rw[A9 Jr,A9 Jr]
 rw[A4 Jr]at hs hl;rw[A4 Jr,A4 Jr];by_cases Me:i.op=22∨i.op=23∨i.op=24
 ·rw[A9 Me,A9 Me]
 rw[A4 Me]at hs hl;rw[A4 Me,A4 Me];by_cases DG:i.op=100
 ·rw[A9 DG,A9 DG]
 rw[A4 DG]at hs hl;rw[A4 DG,A4 DG];exact qbB m c i args hs hl
theorem gu(f:Fr)(to:Int)(r:Mach×SV×Int):(settle f to r).short=r.1.short∧(settle f to r).left=r.1.left:=by
 unfold settle;split<;>exact⟨rfl,rfl⟩
theorem qbE(f:Fr)(to:Int)(r:Mach×SV×Int)(c:Int):settle f to (r.1.shift c,r.2)=(settle f to r).shift c:=by
 unfold settle;simp only;split<;>rfl
theorem qdl(u:Ad)(m:Mach)(c:Int)(hs:(m.step u).short=false)(hl:0<=(m.step u).left+c):(m.shift c).step u=(m.step u).shift c:=by
 unfold step at hs hl ⊢;show(match m.frames with | []=>m.shift c|f::_=>_)=_;cases hf:m.frames with
 | nil=>rfl
 | cons f r =>
  rw[hf]at hs hl;simp only at hs hl ⊢;cases hi:(A7 (AB u f.fn) f.blk).ins[f.pos]? with
  | none =>
   simp only;exact qbC u m c f _
  | some i =>
   rw[hi]at hs hl;simp only at hs hl ⊢;rw[qbD];generalize m.BW { f with pos:=f.pos+1 }=m' at *;unfold act at hs hl ⊢;by_cases FO:i.op=13
   ·simp only[FO,L4];rfl
   by_cases GH:i.op=14
   ·rw[A4 FO,A9 GH]at hs hl ⊢;rw[A4 FO,A9 GH];split<;>rfl
   rw[A4 FO,A4 GH]at hs hl ⊢;rw[A4 FO,A4 GH];have q:=gu { f with pos:=f.pos+1 } i.to (m'.exec i (BV f.vals i.args));rw[q.1]at hs;rw[q.2]at hl;rw[uC m' c i _ hs hl,qbE]
end Mach
theorem Nr(h:m.over=true)(k:Nat):Mach.run u k m=m:=by
 cases k with
 | zero=>rfl
 | succ k=>simp[Mach.run,h]
theorem vK{u:Ad}(hu:HL u)(c:Int):∀(k:Nat) (m:Mach),CY u m->m.left.toNat+2<=k->(Mach.run u k m).short=false->0<=(Mach.run u k m).left+c->∀j,k<=j∨(m.left+c).toNat+2<=j->Mach.run u j (m.shift c)=(Mach.run u k m).shift c
 | 0,m,hm,hk,_,_,j,hj=>by omega
 | k+1,m,hm,hk,hs,hl,j,hj=>by
  cases FT:m.over with
  | true =>
   have h1:(m.shift c).over=true:=FT;rw[Nr FT,Nr h1]
  | false =>
   have Qw:=hm.left;have hd:=hm.depth;have Aj:Mach.run u (k+1) m=if(m.Ae 1).short then m.Ae 1 else Mach.run u k (Mach.step u (m.Ae 1)):=by simp[Mach.run,FT]
   rw[Aj]at hs hl ⊢;by_cases hp:m.left<1
   ·rw[cn hp]at hs;simp at hs
   obtain⟨q1,q2,q3,q4,q5⟩:=Wg hm FT hp;rw[A4 df]at hs hl ⊢;have Gk:(m.Ae 1).frames.length+(m.Ae 1).left+1<=2 ^ 40:=by rw[q4,q5];omega
   have Au:=CY.step hu q1 q2 Gk;have EH:=tR u (m.Ae 1) q1 hu q2;have Of:=Au.left;have hr:=Ut hu k _ Au I;obtain⟨j,rfl⟩:∃j',j=j'+1:=⟨j-1,I⟩
   have GK:(Mach.step u (m.Ae 1)).short=false:=by
    cases hx:(Mach.step u (m.Ae 1)).short with
    | false=>rfl
    | true =>
     have ho:(Mach.step u (m.Ae 1)).over=true:=by
      cases hy:(Mach.step u (m.Ae 1)).over with
      | true=>rfl
      | false=>rw[(Au.over hy).2]at hx;cases hx
     rw[Nr ho,hx]at hs;cases hs
   have h1:Mach.run u (j+1) (m.shift c)=if((m.shift c).Ae 1).short then(m.shift c).Ae 1 else Mach.run u j (Mach.step u ((m.shift c).Ae 1)):=by
    have:(m.shift c).over=false:=FT;simp[Mach.run,this]
   have hle:=hr.2.1;rw[h1,Mach.vN m c 1 hp I];have h2:¬((m.Ae 1).shift c).short=true:=by
    show ¬(m.Ae 1).short=true;rw[q3];simp
   rw[A4 h2,Mach.qdl u (m.Ae 1) c GK I];exact vK hu c k _ Au I hs hl j I
def SE(s:Int->Int)(i:Ins):Ins:=⟨s i.to,i.op,i.n,i.args.map s⟩
theorem Nv(es:List (Int×SV))(k j:Int)(v:SV):Bq (CQ es k v) j=if k=j then v else Bq es j:=by
 unfold Bq;induction es with
 | nil =>
  simp only[CQ,JI];split<;>rfl
 | cons p r ih =>
  obtain⟨a,x⟩:=p;simp only[CQ];by_cases h:a=k
  ·rw[A9 h];subst h;simp only[JI];split<;>rfl
  rw[A4 h];simp only[JI];by_cases h2:a=j
  ·rw[A9 h2,A9 h2,A4 (fun q=>h (by rw[h2,q]))]
  rw[A4 h2,A4 h2];exact ih
def VR(D:Int->Prop)(s:Int->Int)(es es':List (Int×SV)):Prop:=∀k,D k->Bq es' (s k)=Bq es k
section
variable {D:Int->Prop} {s:Int->Int}
theorem VR.put(hi:∀j k,D j->D k->s j=s k->j=k){es es':List (Int×SV)}(h:VR D s es es'){k:Int}(hk:D k)(v:SV):VR D s (CQ es k v) (CQ es' (s k) v):=fun j hj=>by
 rw[Nv,Nv];by_cases e:k=j
 ·rw[A9 e,A9 jg]
 rw[A4 e,A4 (fun q=>e (hi k j hk hj q)),h j hj]
theorem VR.bind(hi:∀j k,D j->D k->s j=s k->j=k):∀(ps:List Int) (l:List SV) {es es':List (Int×SV)},(∀p∈ps,D p)->VR D s es es'->VR D s (C7 es ps l) (C7 es' (ps.map s) l)
 | [],l,es,es',_,h=>by simpa[C7]using h
 | p::ps,[],es,es',_,h=>by simpa[C7]using h
 | p::ps,a::l,es,es',hp,h=>by
  simp only[C7,Bc];exact VR.bind hi ps l (fun q hq=>hp q (Dw _ hq)) (h.put hi (hp p DQ) a)
theorem VR.take{es es':List (Int×SV)}(h:VR D s es es'){l:List Int}(hl:∀a∈l,D a):BV es' (l.map s)=BV es l:=by
 unfold BV;rw[HV];exact Rb fun a ha=>h a (hl a ha)
theorem VR.other{es es':List (Int×SV)}(h:VR D s es es'){j:Int}(hj:∀k,D k->s k≠j)(v:SV):VR D s es (CQ es' j v):=fun k hk=>by
 rw[Nv,A4 fun q=>hj k hk q.symm,h k hk]
end
structure xP(v:Ad)(s:Int->Int)(D L:Int->Prop)(β:Int->Int)(pre:Int->List Ins)(c:Int)(fn:Int)(e e':Edge):Prop where
 live:L e.block
 args:∀a∈e.args,D a
 way:(e'.block=β e.block∧e'.args=e.args.map s∧1+((pre e.block).length:Int)<=c) ∨
  ∃(C:Block) (e2:Edge),C=A7 (AB v fn) e'.block∧C.ins=[]∧C.term.kind=1∧C.term.to=[e2]∧e2.block=β e.block∧2+((pre e.block).length:Int)<=c ∧
   ∀es,BV (C7 es C.params (BV es e'.args)) e2.args=BV es (e.args.map s)∧∀k,D k->Bq (C7 es C.params (BV es e'.args)) (s k)=Bq es (s k)
structure qkQ(v:Ad)(s:Int->Int)(D L:Int->Prop)(β:Int->Int)(pre:Int->List Ins)(c:Int)(fn:Int)(b:Int)(B B':Block):Prop where
 params:B'.params=B.params.map s∧∀p∈B.params,D p
 ins:B'.ins=pre b++B.ins.map (SE s)
 vals:∀i∈B.ins,D i.to∧∀a∈i.args,D a
 hd:∀i∈pre b,i.op=0∧∀k,D k->s k≠i.to
 term:B'.term.kind=B.term.kind∧B'.term.n=B.term.n∧B'.term.cases=B.term.cases∧B'.term.to.length=B.term.to.length
 arg:B.term.kind≠1->B.term.kind≠4->B'.term.arg=s B.term.arg∧D B.term.arg
 DN:∀(k:Nat) e e',B.term.to[k]?=some e->B'.term.to[k]?=some e'->xP v s D L β pre c fn e e'
structure Wt(u v:Ad)(s:Int->Int)(D L:Int->Int->Prop)(β:Int->Int->Int)(pre:Int->Int->List Ins)(c:Int):Prop where
 fns:v.fns.length=u.fns.length
 main:v.main=u.main
 inj:∀fn j k:Int,D fn j->D fn k->s j=s k->j=k
 zero:∀fn:Int,0<=fn->fn<u.fns.length->L fn 0∧β fn 0=0∧1+((pre fn 0).length:Int)<=c
 S':∀fn b:Int,0<=fn->fn<u.fns.length->L fn b->qkQ v s (D fn) (L fn) (β fn) (pre fn) c fn b (A7 (AB u fn) b) (A7 (AB v fn) (β fn b))
namespace Mach
def put(m:Mach)(fs:List Fr)(l:Int):Mach:={ m with frames:=fs,left:=l }
theorem qnp(m:Mach)(fs:List Fr)(size fill:SV):({ m with frames:=fs }:Mach).E6 size fill=({ (m.E6 size fill).1 with frames:=fs },(m.E6 size fill).2):=by
 unfold E6;by_cases h1:size.kind≠0
 ·rw[A9 h1,A9 h1]
 rw[A4 h1,A4 h1];by_cases h2:size.n<0∨1024<size.n
 ·rw[A9 h2,A9 h2]
 rw[A4 h2,A4 h2];have e:({ m with frames:=fs }:Mach).Ae size.n = { m.Ae size.n with frames:=fs }:=by
  unfold Ae;by_cases h3:m.left<size.n
  ·rw[A9 h3,A9 h3]
  rw[A4 h3,A4 h3]
 rw[e];by_cases h4:(m.Ae size.n).short=true
 ·rw[A9 h4,A9 h4]
 rw[A4 h4,A4 h4]
theorem qaR(m:Mach)(fs:List Fr)(i:Ins)(args:List SV):({ m with frames:=fs }:Mach).effect i args=({ (m.effect i args).1 with frames:=fs },(m.effect i args).2):=by
 unfold effect;by_cases KN:i.op=15
 ·rw[A9 KN,A9 KN];show(if _ then _ else if m.out.length=1000 then _ else _)=_;split
  ·rfl
  split<;>rfl
 rw[A4 KN,A4 KN];by_cases Js:i.op=16
 ·rw[A9 Js,A9 Js];exact qnp m fs _ _
 rw[A4 Js,A4 Js];by_cases Kj:i.op=18
 ·rw[A9 Kj,A9 Kj];split
  ·rfl
  split<;>rfl
 rw[A4 Kj,A4 Kj];by_cases k1:(BS args 0).kind≠3∨(i.op≠17∧(BS args 1).kind≠0)
 ·rw[A9 k1,A9 k1]
 rw[A4 k1,A4 k1];by_cases k2:i.op=17
 ·rw[A9 k2,A9 k2]
 rw[A4 k2,A4 k2];show(if(BS args 1).n<0∨((K8 m.heap (BS args 0).arr).length:Int)<=(BS args 1).n then _ else _)=_;by_cases k3:(BS args 1).n<0∨((K8 m.heap (BS args 0).arr).length:Int)<=(BS args 1).n
 ·rw[A9 k3,A9 k3]
 rw[A4 k3,A4 k3];by_cases k4:i.op=19
 ·rw[A9 k4,A9 k4]
 rw[A4 k4,A4 k4]
theorem qc4(m:Mach)(fs:List Fr)(i:Ins)(args:List SV):({ m with frames:=fs }:Mach).exec i args=({ (m.exec i args).1 with frames:=fs },(m.exec i args).2):=by
 unfold exec;by_cases h0:i.op=0
 ·rw[A9 h0,A9 h0]
 rw[A4 h0,A4 h0];by_cases h1:1<=i.op∧i.op<=7
 ·rw[A9 h1,A9 h1];split<;>rfl
 rw[A4 h1,A4 h1];by_cases h8:i.op=8
 ·rw[A9 h8,A9 h8]
 rw[A4 h8,A4 h8];by_cases h9:i.op=9
 ·rw[A9 h9,A9 h9]
 rw[A4 h9,A4 h9];by_cases Jr:i.op=10∨i.op=11∨i.op=12∨i.op=21
 ·rw[A9 Jr,A9 Jr]
 rw[A4 Jr,A4 Jr];by_cases Me:i.op=22∨i.op=23∨i.op=24
 ·rw[A9 Me,A9 Me]
 rw[A4 Me,A4 Me];by_cases DG:i.op=100
 ·rw[A9 DG,A9 DG]
 rw[A4 DG,A4 DG];exact qaR m fs i args
theorem lg(m:Mach)(fs:List Fr)(l:Int)(i:Ins)(args:List SV)(hs:(m.exec i args).1.short=false)(h0:0<=(m.exec i args).1.left)(hl:m.left<=l) :
  (m.put fs l).exec i args=((m.exec i args).1.put fs (l-(m.left-(m.exec i args).1.left)),(m.exec i args).2):=by
 have e:m.put fs l = { m.shift (l-m.left)with frames:=fs }:=by
  unfold put shift;simp only[Mach.mk.injEq,FA,FW];omega
 rw[e,qc4,uC m _ i args hs I];unfold put shift;simp only[NB,Mach.mk.injEq,FA,FW];omega
inductive Steps(u:Ad):Nat->Mach->Mach->Prop
 | refl (m:Mach):Steps u 0 m m
 | cons {n:Nat} {m m':Mach}:m.over=false->m.short=false->1<=m.left->Steps u n (step u { m with left:=m.left-1 }) m'->Steps u (n+1) m m'
variable {m:Mach}
theorem WA(h:1<=m.left):m.Ae 1 = { m with left:=m.left-1 }:=by
 unfold Ae;rw[A4 I]
variable {u:Ad}{m':Mach}
theorem Steps.trans{a b:Nat}{CT:Mach}(h:Steps u a m m')(k:Steps u b m' CT):Steps u (a+b) m CT:=by
 induction h with
 | refl m=>rw[Db];exact k
 | cons h1 h2 h3 _ ih =>
  rw[Nat.add_right_comm];exact .cons h1 h2 h3 (ih k)
theorem Steps.run{n:Nat}(h:Steps u n m m')(k:Nat):Mach.run u (n+k) m=Mach.run u k m':=by
 induction h with
 | refl m=>rw[Db]
 | cons h1 h2 h3 _ ih =>
  rw[Nat.add_right_comm];simp only[Mach.run];rw[A4 qb,WA h3,A4 abp];exact ih
theorem Steps.before{n:Nat}(h:Steps u n m m'):∀k,k<n->(Mach.run u k m).over=false:=by
 induction h with
 | refl m=>intro k hk;omega
 | cons h1 h2 h3 _ ih =>
  intro k hk;cases k with
  | zero=>exact h1
  | succ k =>
   simp only[Mach.run];rw[A4 qb,WA h3,A4 abp];exact ih k I
end Mach
section
variable (u v:Ad) (s:Int->Int) (D L:Int->Int->Prop) (β:Int->Int->Int) (pre:Int->Int->List Ins)
structure FR(f f':Fr):Prop where
 ids:f'.AW=f.AW∧f'.Ay=f.Ay∧f'.fn=f.fn
 fn:0<=f.fn∧f.fn<u.fns.length
 live:L f.fn f.blk
 blk:f'.blk=β f.fn f.blk
 pos:f'.pos=(pre f.fn f.blk).length+f.pos
 vals:VR (D f.fn) s f.vals f'.vals
def ToR(f f':Fr):List Fr->Prop
 | []=>True
 | g::_=>f'.to=s f.to∧D g.fn f.to
def PQ:List Fr->List Fr->Prop
 | [],[]=>True
 | f::r,f'::r'=>FR u s D L β pre f f'∧ToR s D f f' r∧PQ r r'
 | _,_=>False
def Rel(c d:Int)(m m':Mach):Prop:=∃fs l,m'=m.put fs l∧PQ u s D L β pre m.frames fs∧c*m.left<=l∧l<=m.left+d
end
section
variable {u v:Ad} {s:Int->Int} {D L:Int->Int->Prop} {β:Int->Int->Int} {pre:Int->Int->List Ins} {c d:Int}
theorem PQ.cons{f:Fr}{r:List Fr}{fs:List Fr}(h:PQ u s D L β pre (f::r) fs):∃f' r',fs=f'::r'∧FR u s D L β pre f f'∧ToR s D f f' r∧PQ u s D L β pre r r':=by
 cases fs with
 | nil=>exact False.elim h
 | cons f' r'=>exact⟨f',r',rfl,h.1,h.2.1,h.2.2⟩
theorem ahead{fn b:Int}{B':Block}{rest:List Ins}(hb:A7 (AB v fn) (β fn b)=B')(hi:B'.ins=pre fn b++rest)(hp:∀i∈pre fn b,i.op=0∧∀k,D fn k->s k≠i.to){m:Mach}(ho:m.over=false)(hs:m.short=false){f':Fr}{r':List Fr}(h1:f'.fn=fn)(h2:f'.blk=β fn b){es:List (Int×SV)} :
  ∀(n:Nat) (k:Nat) (Ek:List (Int×SV)) (l:Int),k+n=(pre fn b).length->(n:Int)<=l->VR (D fn) s es Ek ->
   ∃bL,VR (D fn) s es bL∧Mach.Steps v n (m.put ({ f' with pos:=k,vals:=Ek }::r') l) (m.put ({ f' with pos:=(pre fn b).length,vals:=bL }::r') (l-n))
 | 0,k,Ek,l,hk,hl,hv=>⟨Ek,hv,by
   have:l-((0:Nat):Int)=l:=I
   rw[this,show k=(pre fn b).length from I];exact .refl _⟩
 | n+1,k,Ek,l,hk,hl,hv=>by
  obtain⟨i,Na⟩:∃i,(pre fn b)[k]?=some i:=⟨(pre fn b)[k]' I,AY _⟩
  obtain⟨q1,q2⟩:=hp i (AK Na);obtain⟨bL,e1,e2⟩:=ahead hb hi hp ho hs (f':=f') (r':=r') h1 h2 n (k+1) (CQ Ek i.to (.word i.n)) (l-1) I I (hv.other q2 _);refine⟨bL,e1,.cons ho hs aJ ?_⟩;have Au:Mach.step v { m.put ({ f' with pos:=k,vals:=Ek }::r') l with left:=l-1 }=m.put ({ f' with pos:=k+1,vals:=CQ Ek i.to (.word i.n) }::r') (l-1):=by
   unfold Mach.step Mach.put;simp only;rw[h1,h2,hb,hi,EV (AE Na),Na];simp only;unfold Mach.act;rw[A4 I,A4 I];unfold Mach.exec;rw[A9 q1];rfl
  rw[show l-((n+1:Nat):Int)=l-1-n from I];show Mach.Steps v n (Mach.step v { m.put ({ f' with pos:=k,vals:=Ek }::r') l with left:=l-1 }) _;rw[Au];exact e2
theorem la{c x l a:Int}(hc:1<=c)(h:c*x<=l)(ha:0<=a):c*(x-a)<=l-a:=by
 have h1:c*(x-a)=c*x-c*a:=aa5 ..;have h2:1*a<=c*a:=Sy hc ha;omega
def VA(u v:Ad)(s:Int->Int)(D L:Int->Int->Prop)(β:Int->Int->Int)(pre:Int->Int->List Ins)(c d:Int)(m m':Mach):Prop:=∃n CT,Mach.Steps v n m' CT∧Rel u s D L β pre c d m CT
theorem VA.now{m':Mach}(h:Rel u s D L β pre c d m m'):VA u v s D L β pre c d m m':=⟨0,m',.refl _,h⟩
theorem fM(T:Wt u v s D L β pre c){m:Mach}(ho:m.over=false)(hs:m.short=false){f f':Fr}{r r':List Fr}{l:Int}(hm:m.frames=f::r)
  (h1:f'.AW=f.AW∧f'.Ay=f.Ay∧f'.fn=f.fn) (h2:0<=f.fn∧f.fn<u.fns.length) (h3:L f.fn f.blk) (h4:f'.blk=β f.fn f.blk) (h5:f.pos=0) (h6:f'.pos=0) (hv:VR (D f.fn) s f.vals f'.vals)
  (ht:ToR s D f f' r) (hr:PQ u s D L β pre r r') (l0:0<=m.left) (l1:c*m.left+(pre f.fn f.blk).length<=l) (l2:l-(pre f.fn f.blk).length<=m.left+d) (hc:1<=c):VA u v s D L β pre c d m (m.put (f'::r') l):=by
 have hB:=T.S' f.fn f.blk h2.1 h2.2 h3;have B8:0<=c*m.left:=ir I l0;obtain⟨bL,e1,e2⟩:=ahead (s:=s) (D:=D) (pre:=pre) (β:=β) (v:=v) rfl hB.ins hB.hd ho hs (f':=f') (r':=r') h1.2.2 h4 (es:=f.vals) (pre f.fn f.blk).length 0 f'.vals l I I hv;have e:({ f' with pos:=0,vals:=f'.vals }:Fr)=f':=by
  rw[<-h6]
 rw[e]at e2;refine⟨_,_,e2,_,_,rfl,?_,I,I⟩;rw[hm];exact⟨⟨h1,h2,h3,h4,by rw[h5];rfl,e1⟩,by cases r<;>exact ht,hr⟩
theorem qaF(T:Wt u v s D L β pre c)(hc:1<=c){m:Mach}(ho:m.over=false)(hs:m.short=false){f f':Fr}{r r':List Fr}{y:Int}(hm:m.frames=f::r)(hF:FR u s D L β pre f f')(hT:ToR s D f f' r)(hR:PQ u s D L β pre r r')
  (l0:0<=m.left) (l1:c*m.left+(c-1)<=y) (l2:y<=m.left+d) {e e':Edge} (he:xP v s (D f.fn) (L f.fn) (β f.fn) (pre f.fn) c f.fn e e'):VA u v s D L β pre c d (m.follow u f e) ((m.put (f'::r') y).follow v f' e'):=by
 obtain⟨qoc,qoD,fn',gE,pos',to',Ek⟩:=f';obtain⟨⟨h1,h2,h3⟩,g2,g3,g4,g5,g6⟩:=hF;simp only at h1 h2 h3 g4 g5 g6;subst h1 h2 h3;have hB:=T.S' f.fn e.block g2.1 g2.2 he.live;have ht:BV Ek (e.args.map s)=BV f.vals e.args:=g6.take he.args;have B0:(m.follow u f e).frames = { f with blk:=e.block,pos:=0,vals:=C7 f.vals (A7 (AB u f.fn) e.block).params (BV f.vals e.args) }::r:=by
  show _::m.frames.tail=_;rw[hm];rfl
 rcases he.way with⟨w1,w2,w3⟩|⟨C,e2,w1,w2,w3,w4,w5,w6,w7⟩
 ·have e0:(m.put (⟨f.AW,f.Ay,f.fn,gE,pos',to',Ek⟩::r') y).follow v ⟨f.AW,f.Ay,f.fn,gE,pos',to',Ek⟩ e'=(m.follow u f e).put (⟨f.AW,f.Ay,f.fn,β f.fn e.block,0,to',C7 Ek ((A7 (AB u f.fn) e.block).params.map s) (BV f.vals e.args)⟩::r') y:=by
   unfold Mach.follow;simp only;rw[w1,w2,hB.params.1,ht];rfl
  rw[e0];exact fM T (m:=m.follow u f e) ho hs B0 ⟨rfl,rfl,rfl⟩ g2 he.live rfl rfl rfl (VR.bind (T.inj f.fn) _ _ hB.params.2 g6) hT hR l0 (by
   show c*m.left+(pre f.fn e.block).length<=y;omega) (by
   show y-(pre f.fn e.block).length<=m.left+d;omega) hc
 obtain⟨x1,x2⟩:=w7 Ek;have B8:0<=c*m.left:=ir I l0;have KR:VR (D f.fn) s f.vals (C7 Ek C.params (BV Ek e'.args)):=fun k hk=>by rw[x2 k hk,g6 k hk]
 generalize J8:C7 Ek C.params (BV Ek e'.args)=es1 at *;have e0:(m.put (⟨f.AW,f.Ay,f.fn,gE,pos',to',Ek⟩::r') y).follow v ⟨f.AW,f.Ay,f.fn,gE,pos',to',Ek⟩ e'=m.put (⟨f.AW,f.Ay,f.fn,e'.block,0,to',es1⟩::r') y:=by
  unfold Mach.follow;simp only;rw[<-w1,J8];rfl
 have e1:Mach.step v { m.put (⟨f.AW,f.Ay,f.fn,e'.block,0,to',es1⟩::r') y with left:=y-1 }=(m.follow u f e).put (⟨f.AW,f.Ay,f.fn,β f.fn e.block,0,to',C7 es1 ((A7 (AB u f.fn) e.block).params.map s) (BV f.vals e.args)⟩::r') (y-1):=by
  unfold Mach.step Mach.put;simp only;rw[<-w1,w2];simp only[List.getElem?_nil];unfold Mach.finish;rw[w3,A4 EW,A9 rfl,w4];simp only[Dh,Fp];unfold Mach.follow;simp only;rw[x1,ht,w5,hB.params.1];rfl
 rw[e0];obtain⟨n,CT,s1,s2⟩:=fM T (m:=m.follow u f e) (l:=y-1) ho hs B0 (f':=⟨f.AW,f.Ay,f.fn,β f.fn e.block,0,to',C7 es1 ((A7 (AB u f.fn) e.block).params.map s) (BV f.vals e.args)⟩) ⟨rfl,rfl,rfl⟩ g2 he.live rfl rfl rfl (VR.bind (T.inj f.fn) _ _ hB.params.2 KR) hT hR l0 (by
  show c*m.left+(pre f.fn e.block).length<=y-1;omega) (by
  show y-1-(pre f.fn e.block).length<=m.left+d;omega) hc
 refine⟨n+1,CT,.cons ho hs (by show 1<=y;omega) ?_,s2⟩;show Mach.Steps v n (Mach.step v { m.put (⟨f.AW,f.Ay,f.fn,e'.block,0,to',es1⟩::r') y with left:=y-1 }) CT;rw[e1];exact s1
theorem qez(T:Wt u v s D L β pre c){m:Mach}{f f':Fr}{r r':List Fr}{y:Int}(hm:m.frames=f::r)(hT:ToR s D f f' r)(hR:PQ u s D L β pre r r')(l1:c*m.left<=y)(l2:y<=m.left+d)(x:SV) :
  VA u v s D L β pre c d (m.leave f x) ((m.put (f'::r') y).leave f' x):=by
 refine .now ?_;unfold Mach.leave;rw[hm];simp only[iq,Mach.put];cases r with
 | nil =>
  cases r' with
  | nil=>exact⟨[],y,rfl,trivial,l1,l2⟩
  | cons g' r'=>exact False.elim hR
 | cons g r =>
  obtain⟨g',r2,rfl,hG,PZ,hR2⟩:=hR.cons;obtain⟨t1,t2⟩:=hT;simp only;refine⟨{ g' with vals:=CQ g'.vals f'.to x }::r2,y,rfl,⟨⟨hG.ids,hG.fn,hG.live,hG.blk,hG.pos,?_⟩,by cases r<;>exact PZ,hR2⟩,l1,l2⟩;show VR (D g.fn) s (CQ g.vals f.to x) (CQ g'.vals f'.to x);rw[t1];exact hG.vals.put (T.inj g.fn) t2 x
theorem uZ(T:Wt u v s D L β pre c)(hc:1<=c){m:Mach}(ho:m.over=false)(hs:m.short=false){fs':List Fr}{y:Int}{g:Fr}{r:List Fr}(hm:m.frames=g::r)(hR:PQ u s D L β pre m.frames fs')(l0:0<=m.left)(l1:c*m.left+(c-1)<=y)(l2:y<=m.left+d)
  {fn:Int} (Cv:0<=fn∧fn<u.fns.length) (args:List SV) {to to':Int} (ht:to'=s to∧D g.fn to):VA u v s D L β pre c d (m.enter u fn args to) ((m.put fs' y).enter v fn args to'):=by
 obtain⟨z1,z2,z3⟩:=T.zero fn Cv.1 Cv.2;have hB:=T.S' fn 0 Cv.1 Cv.2 z1;rw[z2]at hB;have e0:(m.put fs' y).enter v fn args to'=(m.enter u fn args to).put (⟨m.next+1,m.next,fn,0,0,to',C7 [] ((A7 (AB u fn) 0).params.map s) args⟩::fs') y:=by
  unfold Mach.enter;rw[hB.params.1];rfl
 rw[e0];refine fM T (m:=m.enter u fn args to) ho hs (f:=⟨m.next+1,m.next,fn,0,0,to,C7 [] (A7 (AB u fn) 0).params args⟩) (r:=m.frames) rfl ⟨rfl,rfl,rfl⟩ Cv z1 z2.symm rfl rfl (VR.bind (T.inj fn) _ _ hB.params.2 (fun _ _=>rfl)) ?_ hR l0 (by
  show c*m.left+(pre fn 0).length<=y;omega) (by
  show y-(pre fn 0).length<=m.left+d;omega) hc
 rw[hm];exact ht
theorem sn(E:Mach)(E2:SV×Int)(f f':Fr)(fs:List Fr)(to to' y:Int):Mach.settle f' to' (E.put fs y,E2)=(Mach.settle f to (E,E2)).put ({ f' with vals:=CQ f'.vals to' E2.1 }::fs.tail) y:=by
 unfold Mach.settle;simp only;split<;>rfl
theorem ox(E:Mach)(E2:SV×Int)(f:Fr)(to:Int):(Mach.settle f to (E,E2)).frames = { f with vals:=CQ f.vals to E2.1 }::E.frames.tail∧(Mach.settle f to (E,E2)).left=E.left:=by
 unfold Mach.settle;simp only;split<;>exact⟨rfl,rfl⟩
theorem qhj(T:Wt u v s D L β pre c)(hu:HL u)(hc:1<=c){m m':Mach}(hm:CY u m)(ho:m.over=false)(h1:1<=m.left)(hs:(Mach.step u { m with left:=m.left-1 }).short=false)(hr:Rel u s D L β pre c d m m') :
  ∃n CT,Mach.Steps v (n+1) m' CT∧Rel u s D L β pre c d (Mach.step u { m with left:=m.left-1 }) CT:=by
 obtain⟨fs,l,rfl,Mj,l1,l2⟩:=hr;obtain⟨AT,D5⟩:=hm.over ho;have B8:1*m.left<=c*m.left:=Sy hc I;have BQ:c*(m.left-1)=c*m.left-c:=qv
 suffices h:VA u v s D L β pre c d (Mach.step u { m with left:=m.left-1 }) (Mach.step v (({ m with left:=m.left-1 }:Mach).put fs (l-1))) by
  obtain⟨n,CT,q1,q2⟩:=h;exact⟨n,CT,.cons ho D5 aJ q1,q2⟩
 have EJ:CY u { m with left:=m.left-1 }:=by
  have:=(Wg hm ho I).1
  rwa [Mach.WA h1]at this
 have e1:({ m with left:=m.left-1 }:Mach).left=m.left-1:=rfl;have k1:c*({ m with left:=m.left-1 }:Mach).left+(c-1)<=l-1:=dT
 have k2:l-1<=({ m with left:=m.left-1 }:Mach).left+d:=dT
 have k0:0<=({ m with left:=m.left-1 }:Mach).left:=dT
 have DT:({ m with left:=m.left-1 }:Mach).over=false:=ho;have He:({ m with left:=m.left-1 }:Mach).short=false:=D5;have ye:PQ u s D L β pre ({ m with left:=m.left-1 }:Mach).frames fs:=Mj;have TP:({ m with left:=m.left-1 }:Mach).frames≠[]:=AT;generalize ({ m with left:=m.left-1 }:Mach)=M at *;generalize l-1=y at *;clear hm B8 BQ l1 l2 Mj AT e1 D5 h1 ho;cases B0:M.frames with
 | nil=>exact B3 B0 TP
 | cons f r =>
  rw[B0]at ye;obtain⟨f',r',rfl,hF,hT,hR⟩:=ye.cons;have F6:=EJ.frames f Re;have hb:=hu.blocks _ (Nu F6.fn.1 F6.fn.2) _ (M' F6.blk.1 F6.blk.2);have hB:=T.S' f.fn f.blk hF.fn.1 hF.fn.2 hF.live;have DO:(A7 (AB v f'.fn) f'.blk).ins[f'.pos]?=((A7 (AB u f.fn) f.blk).ins[f.pos]?).map (SE s):=by
   rw[hF.ids.2.2,hF.blk,hB.ins,hF.pos,Dg I,Sz,Bv]
  have El:(M.put (f'::r') y).frames=f'::r':=rfl;have k3:c*M.left<=y:=I
  unfold Mach.step at hs ⊢;rw[B0]at hs ⊢;rw[El];simp only at hs ⊢;rw[DO];cases hi:(A7 (AB u f.fn) f.blk).ins[f.pos]? with
  | none =>
   simp only[ik];rw[hF.ids.2.2,hF.blk];generalize A7 (AB v f.fn) (β f.fn f.blk)=B' at *;generalize hBB:A7 (AB u f.fn) f.blk=B at *;obtain⟨t1,t2,t3,t4⟩:=hB.term;unfold Mach.finish;rw[t1,t2];by_cases q4:B.term.kind=4
   ·rw[A9 q4,A9 q4];exact .now ⟨f'::r',y,rfl,aaL,k3,k2⟩
   rw[A4 q4,A4 q4];by_cases q1:B.term.kind=1
   ·rw[A9 q1,A9 q1];have hl:=hb.term.jump q1;obtain⟨e,he⟩:∃e,B.term.to[0]?=some e:=⟨B.term.to[0]' I,AY _⟩
    obtain⟨e',Fu⟩:∃e',B'.term.to[0]?=some e':=⟨B'.term.to[0]' I,AY _⟩
    rw[he,Fu];exact qaF T hc DT He B0 hF hT hR k0 k1 k2 (hB.DN 0 e e' he Fu)
   rw[A4 q1,A4 q1];obtain⟨a1,a2⟩:=hB.arg q1 q4;have hga:Bq f'.vals B'.term.arg=Bq f.vals B.term.arg:=by rw[a1];exact hF.vals _ a2
   rw[hga];by_cases q0:B.term.kind=0
   ·rw[A9 q0,A9 q0];exact qez T B0 hT hR k3 k2 _
   rw[A4 q0,A4 q0];by_cases qk:(Bq f.vals B.term.arg).kind≠0
   ·rw[A9 qk,A9 qk];exact .now ⟨f'::r',y,rfl,aaL,k3,k2⟩
   rw[A4 qk,A4 qk];have F5:K3 B'.term (Bq f.vals B.term.arg).n=K3 B.term (Bq f.vals B.term.arg).n:=by
    unfold K3;rw[t1,t3]
   rw[F5];obtain⟨e,he⟩:=cf hb.term q0 q1 q4 (Bq f.vals B.term.arg).n;have AF:=AE he;obtain⟨e',Fu⟩:∃e',B'.term.to[K3 B.term (Bq f.vals B.term.arg).n]?=some e':=⟨B'.term.to[K3 B.term (Bq f.vals B.term.arg).n]' I,AY _⟩
   rw[he,Fu];exact qaF T hc DT He B0 hF hT hR k0 k1 k2 (hB.DN _ e e' he Fu)
  | some i =>
   rw[hi]at hs;simp only[FV]at hs ⊢;have Km:=AK hi;have Ia:=hb.ins i Km;have AF:=AE hi;obtain⟨d1,d2⟩:=hB.vals i Km;have GP:BV f'.vals (SE s i).args=BV f.vals i.args:=hF.vals.take d2;rw[GP];have E8:J' u M { f with pos:=f.pos+1 }:=⟨F6.fn,F6.blk,AF,F6.vals⟩
   have LF:J' u (M.BW { f with pos:=f.pos+1 }) { f with pos:=f.pos+1 }:=E8.of_heap CX;have hM2:=EJ.BW TP E8;have ha:=Y2 LF.vals i.args;have DK:=Zi f.vals i.args;have Jt:FR u s D L β pre { f with pos:=f.pos+1 } { f' with pos:=f'.pos+1 }:=⟨hF.ids,hF.fn,hF.live,hF.blk,aaf,hF.vals⟩
   have MU:(M.BW { f with pos:=f.pos+1 }).frames = { f with pos:=f.pos+1 }::r:=by
    exact dz B0
   have e2:(M.put (f'::r') y).BW { f' with pos:=f'.pos+1 }=(M.BW { f with pos:=f.pos+1 }).put ({ f' with pos:=f'.pos+1 }::r') y:=rfl;rw[e2];have PZ:ToR s D { f with pos:=f.pos+1 } { f' with pos:=f'.pos+1 } r:=dN
   have TK:PQ u s D L β pre (M.BW { f with pos:=f.pos+1 }).frames ({ f' with pos:=f'.pos+1 }::r'):=by
    rw[MU];exact⟨Jt,PZ,hR⟩
   have k0':0<=(M.BW { f with pos:=f.pos+1 }).left:=k0;have k1':c*(M.BW { f with pos:=f.pos+1 }).left+(c-1)<=y:=k1;have k2':y<=(M.BW { f with pos:=f.pos+1 }).left+d:=k2;have To:(M.BW { f with pos:=f.pos+1 }).over=false:=DT;have Vq:(M.BW { f with pos:=f.pos+1 }).short=false:=He;have hvk:(({ f with pos:=f.pos+1 }:Fr)).vals=f.vals:=rfl;rw[hvk]at ha;unfold Mach.act at hs ⊢;have o1:(SE s i).op=i.op:=rfl;have o2:(SE s i).n=i.n:=rfl;have o3:(SE s i).to=s i.to:=rfl;rw[o1,o2,o3];by_cases FO:i.op=13
   ·rw[A9 FO,A9 FO];obtain⟨c1,c2,c3⟩:=Ia.call FO;exact uZ T hc To Vq MU TK k0' k1' k2' ⟨c1,c2⟩ _ ⟨rfl,d1⟩
   rw[A4 FO]at hs;rw[A4 FO,A4 FO];by_cases GH:i.op=14
   ·rw[A9 GH,A9 GH];by_cases Ig:(BS (BV f.vals i.args) 0).kind=2
    ·have Cv:=SV.Wf.fn (P4 ha 0) Ig;obtain⟨z1,z2,z3⟩:=T.zero _ Cv.1 Cv.2;have hP:=(T.S' _ 0 Cv.1 Cv.2 z1).params.1;rw[z2]at hP;rw[hP,BE];by_cases IG:(BS (BV f.vals i.args) 0).kind=2∧(A7 (AB u (BS (BV f.vals i.args) 0).n) 0).params.length=(BV f.vals i.args).length
     ·rw[A9 IG,A9 IG];exact uZ T hc To Vq MU TK k0' k1' k2' Cv _ ⟨rfl,d1⟩
     rw[A4 IG,A4 IG];exact .now ⟨_,y,rfl,TK,k3,k2⟩
    rw[A4 (fun q=>Ig q.1),A4 (fun q=>Ig q.1)];exact .now ⟨_,y,rfl,TK,k3,k2⟩
   rw[A4 GH]at hs;rw[A4 GH,A4 GH];have hx:=ay hM2 Ia DK ha;have htr:((M.BW { f with pos:=f.pos+1 }).put ({ f' with pos:=f'.pos+1 }::r') y).exec (SE s i) (BV f.vals i.args)=((M.BW { f with pos:=f.pos+1 }).put ({ f' with pos:=f'.pos+1 }::r') y).exec i (BV f.vals i.args):=rfl;have GK:=(Mach.gu { f with pos:=f.pos+1 } i.to ((M.BW { f with pos:=f.pos+1 }).exec i (BV f.vals i.args))).1;rw[GK]at hs;have JY:(M.BW { f with pos:=f.pos+1 }).left<=y:=by
    have:1*M.left<=c*M.left:=Sy hc k0;show M.left<=y;omega
   rw[htr,Mach.lg _ _ _ _ _ hs hx.left.1 JY];generalize (M.BW { f with pos:=f.pos+1 }).exec i (BV f.vals i.args)=X at *;obtain⟨E,E2⟩:=X;have hxf:E.frames = { f with pos:=f.pos+1 }::r:=by
    rw[<-MU];exact hx.frames
   have JC:E.left<=M.left:=hx.left.2;obtain⟨w1,w2⟩:=ox E E2 { f with pos:=f.pos+1 } i.to;refine .now ⟨_,_,sn E E2 { f with pos:=f.pos+1 } _ _ i.to _ _,?_,?_,?_⟩
   ·rw[w1,hxf];refine⟨⟨Jt.ids,Jt.fn,Jt.live,Jt.blk,Jt.pos,Jt.vals.put (T.inj f.fn) d1 _⟩,dN,hR⟩
   ·rw[w2];have:=la hc k3 (a:=M.left-E.left) I;rw[show M.left-(M.left-E.left)=E.left from I]at this;exact Cd
   rw[w2];show y-(M.left-E.left)<=E.left+d;omega
theorem Rel.core{m':Mach}(h:Rel u s D L β pre c d m m'):m'.over=m.over∧m'.short=m.short∧m'.out=m.out∧m'.fin=m.fin∧m'.val=m.val∧c*m.left<=m'.left∧m'.left<=m.left+d:=by
 obtain⟨fs,l,rfl,_,l1,l2⟩:=h;exact⟨rfl,rfl,rfl,rfl,rfl,l1,l2⟩
theorem xC(T:Wt u v s D L β pre c)(hu:HL u)(hc:1<=c):∀(k:Nat) (m m':Mach),CY u m->Rel u s D L β pre c d m m'->(Mach.run u k m).short=false->∃n CT,Mach.Steps v n m' CT∧Rel u s D L β pre c d (Mach.run u k m) CT
 | 0,m,m',hm,hr,hs=>⟨0,m',.refl _,hr⟩
 | k+1,m,m',hm,hr,hs=>by
  cases ho:m.over with
  | true =>
   rw[Nr ho]at hs ⊢;exact⟨0,m',.refl _,hr⟩
  | false =>
   have Aj:Mach.run u (k+1) m=if(m.Ae 1).short then m.Ae 1 else Mach.run u k (Mach.step u (m.Ae 1)):=qF
   rw[Aj]at hs ⊢;by_cases hp:m.left<1
   ·rw[cn hp]at hs;simp at hs
   obtain⟨q1,q2,q3,q4,q5⟩:=Wg hm ho hp;rw[A4 df]at hs ⊢;have Gk:(m.Ae 1).frames.length+(m.Ae 1).left+1<=2 ^ 40:=by
    have:=hm.depth;rw[q4,q5];omega
   have Au:=CY.step hu q1 q2 Gk;have GK:(Mach.step u (m.Ae 1)).short=false:=by
    cases hx:(Mach.step u (m.Ae 1)).short with
    | false=>rfl
    | true =>
     have ho:(Mach.step u (m.Ae 1)).over=true:=by
      cases hy:(Mach.step u (m.Ae 1)).over with
      | true=>rfl
      | false=>rw[(Au.over hy).2]at hx;cases hx
     rw[Nr ho,hx]at hs;cases hs
   rw[Mach.WA I]at Au GK hs ⊢;obtain⟨n,m1,s1,s2⟩:=qhj T hu hc hm ho I GK hr;obtain⟨n2,m2,s3,s4⟩:=xC T hu hc k _ m1 Au s2 hs;exact⟨n+1+n2,m2,s1.trans s3,s4⟩
theorem qbs(T:Wt u v s D L β pre c)(hu:HL u)(hv:HL v)(hc:1<=c){F G:Int}(hF:0<=F∧F<=1000000)(hG:G<=1000000)(CA:c*F+(c-1)<=G)(he:(D2 u F).e=0) :
  (D2 v G).e=0∧(D2 v G).out=(D2 u F).out∧(D2 v G).fin=(D2 u F).fin∧(D2 v G).val=(D2 u F).val∧(D2 v G).n<=G-c*(F-(D2 u F).n)∧(D2 u F).n+(pre u.main 0).length<=(D2 v G).n:=by
 have hcF:1*F<=c*F:=Sy hc hF.1;obtain⟨z1,z2,z3⟩:=T.zero u.main hu.main.1 hu.main.2;have hB:=T.S' u.main 0 hu.main.1 hu.main.2 z1;rw[z2]at hB;have Vr:=eN hu (fuel:=F) hF.1 hF.2;have Nf:=eN hv (fuel:=G) I hG;have bK:VA u v s D L β pre c (G-F-(pre u.main 0).length) ((Mach.start F).enter u u.main [] 0) ((Mach.start G).enter v v.main [] 0):=by
  have e0:(Mach.start G).enter v v.main [] 0=((Mach.start F).enter u u.main [] 0).put [⟨5,4,u.main,0,0,0,C7 [] ((A7 (AB u u.main) 0).params.map s) []⟩] G:=by
   rw[T.main];unfold Mach.enter;rw[hB.params.1];rfl
  rw[e0];refine fM T (m:=(Mach.start F).enter u u.main [] 0) rfl rfl (f:=⟨5,4,u.main,0,0,0,C7 [] (A7 (AB u u.main) 0).params []⟩) (r:=[]) rfl ⟨rfl,rfl,rfl⟩ hu.main z1 z2.symm rfl rfl (VR.bind (T.inj u.main) _ _ hB.params.2 (fun _ _=>rfl)) trivial trivial hF.1 (by
   show c*F+(pre u.main 0).length<=G;omega) (by
   show G-(pre u.main 0).length<=F+(G-F-(pre u.main 0).length)
   omega) hc
 obtain⟨n0,m0,s0,r0⟩:=bK;unfold D2 at he ⊢;simp only at he ⊢;have hru:=Ut hu (F.toNat+2) _ Vr YH;have GJ:=Ut hv (G.toNat+2) _ Nf YH;have bu:=fun h=>xC T hu hc (F.toNat+2) _ m0 Vr r0 h;generalize Mach.run u (F.toNat+2) ((Mach.start F).enter u u.main [] 0)=E at *;cases hs:E.short with
 | true =>
  rw[hs]at he;simp at he
 | false =>
  obtain⟨n1,m1,s1,r1⟩:=bu hs;have S:=s0.trans s1;obtain⟨b1,b2,b3,b4,b5,b6,b7⟩:=r1.core;have hle:n0+n1<=G.toNat+2:=N8 fun q=>by
   have:=S.before (G.toNat+2) I;rw[GJ.1]at this;cases this
  have Ge:Mach.run v (G.toNat+2) ((Mach.start G).enter v v.main [] 0)=m1:=by
   have:=S.run (G.toNat+2-(n0+n1));rw[show n0+n1+(G.toNat+2-(n0+n1))=G.toNat+2 from I]at this;rw[this];exact Nr (by rw[b1];exact hru.1) _
  rw[Ge,b2,hs];simp only[JS,Gf];refine⟨trivial,b3,b4,b5,?_,?_⟩
  ·rw[show F-(F-E.left)=E.left from I];omega
  omega
end
variable {ds:Defs}{v:Int}
theorem qgm(h:v ∉ ds.map (·.1)):Hm ds v=none:=by
 cases hl:Hm ds v with
 | none=>rfl
 | some p=>exact B3 (List.mem_map.2 ⟨_,tr hl,rfl⟩) h
theorem adu{p:Int×Int}(hv:0<=v∧v<=4095)(h:v ∉ ds.map (·.1)):(Ip ds v p).1=0:=by
 unfold Ip;rw[qgm h];simp[within,hv]
theorem adq(k:Int):∀(l:List Int) (ds:Defs),(∀v∈l,0<=v∧v<=4095)->(ds.map (·.1)++l).Nodup->(Je k ds l).1=0
 | [],_,_,_=>rfl
 | p::r,ds,hv,hn=>by
  have hp:p ∉ ds.map (·.1):=fun q=>by
   rw[Rc]at hn;exact hn.2.2 p q p DQ rfl
  have h0:=adu (p:=(k,0)) (hv p DQ) hp;simp only[Je];rw[A4 qc,iE h0];refine adq k r _ (fun v h=>hv v (Dw _ h)) ?_;rw[Dx,Ez];exact hn
theorem vT(k:Int):∀(l:List Ins) (n:Int) (ds:Defs),(∀i∈l,0<=i.to∧i.to<=4095∧MA i=0)->(ds.map (·.1)++l.map Ins.to).Nodup->(Ke k n ds l).1=0
 | [],_,_,_,_=>rfl
 | i::r,n,ds,hv,hn=>by
  have hp:i.to ∉ ds.map (·.1):=fun q=>by
   rw[Rc]at hn;exact hn.2.2 _ q _ DQ rfl
  have hi:=hv i DQ;have h0:=adu (p:=(k,n+1)) ⟨hi.1,hi.2.1⟩ hp;simp only[Ke];rw[A4 qc,A4 (by rw[hi.2.2];simp),iE h0];refine vT k r _ _ (fun j h=>hv j (Dw _ h)) ?_;rw[Dx,Ez];exact hn
theorem qbr{k:Int}(hb:A7 f k=b)(hp:∀v∈b.params,0<=v∧v<=4095)(hi:∀i∈b.ins,0<=i.to∧i.to<=4095∧MA i=0)(he:I4 f b.term=0)(hn:(ds.map (·.1)++Gx b).Nodup):(KW f ds k).1=0:=by
 unfold KW;rw[hb];unfold Gx at hn;rw[<-Ez]at hn;have h1:=adq k b.params ds hp (by
  rw[Rc]at hn;exact hn.1)
 rw[A4 qb,sg k b.params ds h1];have h2:=vT k b.ins 0 (ds++RP k b.params) hi (by
  rw[Dx];have:(RP k b.params).map (·.1)=b.params:=by
   unfold RP;rw[HV];exact Y9 _
  rw[this];exact hn)
 rw[A4 (by rw[h2];simp)];exact he
theorem qbq(k:Int)(b:Block):(UI k b).map (·.1)=Gx b:=by
 rw[UI,Dx,sC,Gx,RP,HV];congr 1;exact Y9 _
theorem adj{f:Func}(hp:∀b∈f.blocks,(∀v∈b.params,0<=v∧v<=4095)∧(∀i∈b.ins,0<=i.to∧i.to<=4095∧MA i=0)∧I4 f b.term=0) :
  ∀(n k:Nat) (ds:Defs),k+n=f.blocks.length->(ds.map (·.1)++(f.blocks.drop k).flatMap Gx).Nodup->(I0 f n k ds).1=0
 | 0,_,_,_,_=>rfl
 | n+1,k,ds,hk,hn=>by
  have hb:f.blocks[k]?=some f.blocks[k]:=AY I;have Pf:A7 f (k:Int)=f.blocks[k]:=by simp[A7,hb]
  rw[D9 hb,GF,<-Ez]at hn;obtain⟨p1,p2,p3⟩:=hp _ (AK hb);have h0:=qbr (ds:=ds) Pf p1 p2 p3 (by
   rw[Rc]at hn;exact hn.1)
  simp only[I0];rw[A4 qc,ui h0,Pf];have e:(k:Int)+1=((k+1:Nat):Int):=I
  rw[e];refine adj hp n (k+1) _ I ?_;rw[Dx,qbq];exact hn
theorem ade{ds:Defs}{over:List Bs}{seen:Bs}{k:Nat}:∀(l:List Ins) (n:Nat),(∀(j:Nat) i,l[j]?=some i->∀a∈i.args,Ku ds over seen k ((n+j:Nat):Int) a=true)->Sk ds over seen k n l=true
 | [],_,_=>rfl
 | x::r,n,h=>by
  simp only[Sk,F0,OJ];refine⟨fun a ha=>h 0 x rfl a ha,ade r (n+1) fun j i hj a ha=>?_⟩;rw[show n+1+j=n+(j+1) from I];exact h (j+1) i QO a ha
theorem adY{ds:Defs}{over:List Bs}{seen:Bs}:∀(l:List Block) (k:Nat),(∀(j:Nat) b,l[j]?=some b->W8 ds over seen (k+j) b=true)->Q7 ds over seen k l=true
 | [],_,_=>rfl
 | x::r,k,h=>by
  simp only[Q7,F0];refine⟨h 0 x rfl,adY r (k+1) fun j b hj=>?_⟩;rw[show k+1+j=k+(j+1) from I];exact h (j+1) b QO
theorem sY(hn:(G8 f).Nodup){k:Nat}{n v:Int}(h:Ru f k n v):Ku (Lj f) (JM f).1 (JM f).2 k n v=true:=by
 obtain⟨p,h1,h2⟩:=h;have hl:Hm (Lj f) v=some p:=(tH (by rw[lN];exact hn)).2 (lP.2 h1);unfold Ku;rw[hl];simp only[Hq,F0,Cp,OI,Kf];cases hs:Ky f k with
 | false=>exact .inr (.inr hs)
 | true =>
  rcases h2 hs with q|q
  ·exact JV
  exact .inr (.inl q)
theorem qdu(hn:(G8 f).Nodup)(h:fg f):V1 f (Lj f)=0:=by
 unfold V1;rw[A9];refine adY f.blocks 0 fun j b hj=>?_;rw[Db];unfold W8 Rq;simp only[F0,Hq,Cp,OJ];refine⟨ade b.ins 0 fun n i hi a ha=>?_,?_,fun e he a ha=>sY hn (h.args j b hj e he a ha)⟩
 ·rw[Db];exact sY hn (h.ins j b hj n i hi a ha)
 by_cases h1:b.term.kind=1
 ·exact .inl (.inl h1)
 by_cases h4:b.term.kind=4
 ·exact .inl (.inr h4)
 exact .inr (sY hn (h.arg j b hj h1 h4))
def H0(bs:List Block):Nat:=(bs.map fun b=>b.ins.length).sum
theorem mM:∀(bs:List Block) (m:Nat),(∀b∈bs,b.ins.length<=1024)->m+bs.length*1024<=1000000->KB m bs=((m+H0 bs:Nat):Int)
 | [],m,_,_=>by simp[KB,H0]
 | b::r,m,h,hm=>by
  have h1:=h b DQ;rw[CE]at hm;have hw:IntKind.i64.wrap ((m:Int)+(b.ins.length:Int))=((m+b.ins.length:Nat):Int):=by
   rw[Yk .i64 _ (by show(-9223372036854775808:Int)<=_;omega) (by show _<=(9223372036854775807:Int);omega)];omega
  simp only[KB];rw[hw,mM r (m+b.ins.length) (fun x hx=>h x (Dw _ hx)) I];unfold H0;rw[Bc,KH,Y6]
theorem sN(AT:f.blocks≠[])(NK:f.blocks.length<=128)(Wv:-1<=f.name∧f.name<=1048575)(OW:∀b∈f.blocks,b.ins.length<=1024)(zK:H0 f.blocks<=1024)(MO:(A7 f 0).params.length<=6)
  (hv:∀v∈G8 f,0<=v∧v<=4095) (hn:(G8 f).Nodup) (hb:∀b∈f.blocks,(∀i∈b.ins,MA i=0)∧I4 f b.term=0) (hu:fg f):Cj f=0:=by
 have hbv:∀b∈f.blocks,(∀v∈b.params,0<=v∧v<=4095)∧(∀i∈b.ins,0<=i.to∧i.to<=4095∧MA i=0)∧I4 f b.term=0:=fun b h=>by
  have G2:∀v∈Gx b,0<=v∧v<=4095:=fun v q=>hv v (List.mem_flatMap.2 ⟨b,h,q⟩);refine⟨fun v q=>G2 v (UQ _ q),fun i q=>?_,(hb b h).2⟩;have:=G2 i.to (YB _ (List.mem_map.2 ⟨i,q,rfl⟩));exact⟨this.1,this.2,(hb b h).1 i q⟩
 have h0:=adj hbv f.blocks.length 0 [] I (by
  rw[I7];exact hn)
 have h1:=sR f.blocks.length 0 [] I h0;rw[I7,HF]at h1;have hw:=mM f.blocks 0 OW I;rw[Db]at hw;have hl:=List.length_pos_iff.2 AT;unfold Cj;have Vt:KB 0 f.blocks=((H0 f.blocks:Nat):Int):=hw;rw[A4 I,A4 (by rw[Vt];omega),A4 (by simp[within,Wv]),A4 (by
  have NR:(I0 f f.blocks.length 0 []).1=0:=h0;rw[NR];simp)]
 have Om:(I0 f f.blocks.length 0 []).2=Lj f:=h1;rw[Om];exact qdu hn hu
theorem xE(AO:f.fit)(h:Cj f=0):H0 f.blocks<=1024:=by
 have hw:=Mp AO h;have he:=mM f.blocks 0 hw.ins (by have:=hw.few;omega);unfold Cj at h;split at h
 ·simp at h
 split at h
 ·simp at h
 rename_i h2;rw[Db]at he;have Fu:KB 0 f.blocks=((H0 f.blocks:Nat):Int):=he;rw[Fu]at h2;omega
variable {D:Nat->Nat->Prop}{R:Nat->Prop}
theorem qk0{S:Ds}(hn:n<=128)(hl:S.over.length=n)(h1:∀i j,j<n->D i j->i<n∧(S.at_ j).has i=true)(h2:∀j,j<128->S.seen.has j=true->R j)(hk:k<n){e:Edge}(he:0<=e.block∧e.block.toNat<n)(hR:R k->R e.block.toNat)
  (hD:R k->∀i,D i e.block.toNat->i=e.block.toNat∨D i k) (hs:R k):(∀i j,j<n->D i j->i<n∧((Gd k S e).at_ j).has i=true)∧(∀j,j<128->(Gd k S e).seen.has j=true->R j)∧(Gd k S e).over.length=n:=by
 unfold Gd;simp only;split
 ·refine⟨fun i j hj F4=>?_,fun j hj Og=>?_,by simp only;rw[B2,hl]⟩
  ·refine⟨(h1 i j hj F4).1,?_⟩;have hi:=(h1 i j hj F4).1;unfold Ds.at_;simp only;rw[FD];split
   ·rename_i q;rw[A9 (by rw[hl];exact he.2),Fp,Bs.has_add _ _ _ I I,Bs.th];simp only[Hq,F0,Cp];rw[<-q]at F4;rcases hD hs i F4 with r|r
    ·exact .inr r
    exact .inl ⟨(h1 i _ he.2 F4).2,(h1 i k hk r).2⟩
   exact(h1 i j hj F4).2
  simp only at Og;rw[Bs.has_add _ _ _ I hj]at Og;simp only[Hq,Cp]at Og;rcases Og with q|q
  ·exact h2 j hj q
  rw[q];exact hR hs
 exact⟨h1,h2,hl⟩
structure Vb(n:Nat)(D:Nat->Nat->Prop)(R:Nat->Prop)(S:Ds):Prop where
 len:S.over.length=n
 Tp:∀i j,j<n->D i j->i<n∧(S.at_ j).has i=true
 seen:∀j,j<128->S.seen.has j=true->R j
structure DmC(f:Func)(D:Nat->Nat->Prop)(R:Nat->Prop):Prop where
 few:f.blocks.length<=128
 DN:∀b∈f.blocks,∀e∈b.term.to,0<=e.block∧e.block.toNat<f.blocks.length
 next:∀(k:Nat) b,f.blocks[k]?=some b->R k->∀e∈b.term.to,R e.block.toNat∧∀i,D i e.block.toNat->i=e.block.toNat∨D i k
theorem xn{f:Func}{D:Nat->Nat->Prop}{R:Nat->Prop}(hc:DmC f D R){k:Nat}{b:Block}(hb:f.blocks[k]?=some b)(hR:R k):∀(l:List Edge) {S:Ds},(∀e∈l,e∈b.term.to)->Vb f.blocks.length D R S->Vb f.blocks.length D R (l.foldl (Gd k) S)
 | [],_,_,h=>h
 | e::r,S,hl,h=>by
  have hn:=hc.next k b hb hR e (hl e DQ)
  obtain⟨a1,a2,a3⟩:=qk0 hc.few h.len h.Tp h.seen (AE hb) (hc.DN b (AK hb) e (hl e DQ)) (fun _=>hn.1) (fun _=>hn.2) hR;rw[HG];exact xn hc hb hR r (fun x hx=>hl x (Dw _ hx)) ⟨a3,a1,a2⟩
theorem xo{f:Func}{D:Nat->Nat->Prop}{R:Nat->Prop}(hc:DmC f D R):∀(l:List Block) (k:Nat) {S:Ds},l=f.blocks.drop k->Vb f.blocks.length D R S->Vb f.blocks.length D R (Jg k S l)
 | [],_,_,_,h=>h
 | b::r,k,S,hl,h=>by
  have hb:f.blocks[k]?=some b:=by
   have:=Dj (fun l=>l[0]?) hl;simpa using this.symm
  have hr:r=f.blocks.drop (k+1):=by
   rw[D9 hb]at hl;simpa using hl
  rw[Jg];refine xo hc r (k+1) hr ?_;unfold OU;split
  ·exact h
  rename_i hs;have hk:=AE hb;exact xn hc hb (h.seen k (by have:=hc.few;omega) a8) _ (fun e he=>he) h
theorem nM{f:Func}{D:Nat->Nat->Prop}{R:Nat->Prop}(hc:DmC f D R):∀(n:Nat) {S:Ds},Vb f.blocks.length D R S->Vb f.blocks.length D R (HE f n S)
 | 0,_,h=>h
 | n+1,S,h=>by
  simp only[HE];split
  ·exact nM hc n (xo hc f.blocks 0 (S:=⟨S.over,S.seen,false⟩) (by rw[I7]) ⟨h.len,h.Tp,h.seen⟩)
  exact h
theorem uu:∀(n j:Nat),n<=128->j<n->(S8 n).has j=true
 | 0,_,_,h=>B3 h (Nat.not_lt_zero _)
 | n+1,j,hn,hj=>by
  rw[S8,Bs.has_add _ _ _ I I];by_cases e:j=n
  ·simp[e]
  rw[uu n j I I];rfl
theorem wh(AT:f.blocks≠[])(hc:DmC f D R)(h0:R 0)(hz:∀i,D i 0->i=0)(AF:∀i j,D i j->i<f.blocks.length){i j:Nat}(hj:j<f.blocks.length)(h:D i j):(MC f j).has i=true:=by
 have hl:=List.length_pos_iff.2 AT;have hs:Vb f.blocks.length D R (JN f):=by
  refine⟨by simp[JN],fun i j hj F4=>⟨AF i j F4,?_⟩,fun j hj Og=>?_⟩
  ·unfold Ds.at_ JN;simp only;rw[FD];split
   ·rename_i e;subst e;rw[A9 OL,Fp,hz i F4];decide
   exact ach
  have:(Bs.none.add 0).has j=true:=Og;rw[Bs.has_add _ _ _ I hj]at this;have hn:Bs.none.has j=false:=pt
  rw[hn]at this;simp only[Y5,Cp]at this;rw[this];exact h0
 exact((nM hc 20000 hs).Tp i j hj h).2
theorem adk(f:Func):((List.range f.blocks.length).map fun k:Nat=>A7 f (k:Int))=f.blocks:=by
 apply Gg;intro i;rw[Bv];by_cases h:i<f.blocks.length
 ·rw[J3 h,AY h];simp[A7,h]
 rw[H3 Ai,H3 I];rfl
theorem bH(hw:Kd f):DP f=((List.range f.blocks.length).map fun k:Nat=>(k:Int)).filter fun k=>decide (0<=CD f k):=by
 have hp:((List.range f.blocks.length).map fun k:Nat=>(k:Int)).Pairwise (fun a b=>a<b):=by
  rw[List.pairwise_map];exact List.Pairwise.imp (fun h=>I) List.pairwise_lt_range
 have hp2:=hp.filter (fun k=>decide (0<=CD f k));refine List.Perm.eq_of_pairwise (le:=fun a b=>a<=b) (fun a b _ _ h1 h2=>I) (adp _) (hp2.imp fun h=>I) ?_;rw[List.perm_ext_iff_of_nodup (sj hw) (hp2.imp fun h=>I)];intro k;rw[LL,ct,Cp];constructor
 ·intro h;have hr:=hw.range k h;exact⟨List.mem_map.2 ⟨k.toNat,List.mem_range.2 I,I⟩,h⟩
 exact fun h=>h.2
theorem qhk{α β:Type}(F:α->List β){l m:List α}(h:l.Sublist m):(l.flatMap F).Sublist (m.flatMap F):=by
 induction h with
 | slnil=>exact pY _
 | cons a _ ih =>
  rw[GF];exact List.sublist_append_of_sublist_right ih
 | cons_cons a _ ih =>
  rw[GF,GF];exact(pY _).append ih
theorem qis{α:Type}(F:α->Nat){l m:List α}(h:l.Sublist m):(l.map F).sum<=(m.map F).sum:=by
 induction h with
 | slnil=>exact B6 _
 | cons a _ ih =>
  rw[Bc,KH];omega
 | cons_cons a _ ih =>
  rw[Bc,Bc,KH,KH];omega
theorem mb(hw:Kd f):(DP f).Sublist ((List.range f.blocks.length).map fun k:Nat=>(k:Int)):=by
 rw[bH hw];exact List.filter_sublist
theorem qd9(hw:Kd f):(G8 (Bj f)).Sublist (G8 f):=by
 have h1:G8 (Bj f)=(DP f).flatMap fun k=>Gx (A7 f k):=by
  unfold G8 Bj;rw[ig];rfl
 have h2:G8 f=((List.range f.blocks.length).map fun k:Nat=>(k:Int)).flatMap fun k=>Gx (A7 f k):=by
  unfold G8
  conv=>lhs;rw[<-adk f]
  rw[ig,ig]
 rw[h1,h2];exact qhk _ (mb hw)
theorem qem(hw:Kd f):H0 (Bj f).blocks<=H0 f.blocks:=by
 have h1:H0 (Bj f).blocks=((DP f).map fun k=>(A7 f k).ins.length).sum:=by
  unfold H0 Bj;rw[HV];rfl
 have h2:H0 f.blocks=(((List.range f.blocks.length).map fun k:Nat=>(k:Int)).map fun k=>(A7 f k).ins.length).sum:=by
  unfold H0
  conv=>lhs;rw[<-adk f]
  rw[HV,HV];rfl
 rw[h1,h2];exact qis _ (mb hw)
def DZ(f:Func)(k:Int):Int:=I5 (DP f) k
section
variable {f:Func}
theorem pos_at{k:Int}(h:0<=CD f k):0<=DZ f k∧(DP f)[(DZ f k).toNat]?=some k:=by
 have h1:=(P3 (l:=DP f) (n:=k)).1.2 (LL.2 h);exact⟨h1,(P3 (l:=DP f) (n:=k)).2 h1⟩
theorem lT(hw:Kd f){i j:Nat}{k:Int}(h1:(DP f)[i]?=some k)(h2:(DP f)[j]?=some k):i=j:=by
 have hn:=List.pairwise_iff_getElem.1 (sj hw);obtain⟨p1,e1⟩:=List.getElem?_eq_some_iff.1 h1;obtain⟨p2,e2⟩:=List.getElem?_eq_some_iff.1 h2;refine N8 fun q=>?_;rcases pR q with q|q
 ·exact hn i j p1 p2 q (e1.trans e2.symm)
 exact hn j i p2 p1 q (e2.trans e1.symm)
theorem Yp(hw:Kd f){j:Nat}{k:Int}(h:(DP f)[j]?=some k):DZ f k=j:=by
 obtain⟨h1,h2⟩:=pos_at (LL.1 (AK h))
 have:=lT hw h h2;omega
theorem lA(hw:Kd f):(DP f)[0]?=some 0:=by
 obtain⟨h1,h2⟩:=pos_at (f:=f) (k:=0) qL
 have hs:=List.pairwise_iff_getElem.1 (adp (Cf f));have hl:=AE h2;have h0:(DP f)[0]?=some ((DP f)[0]' I):=AY _;rw[h0];congr 1;by_cases e:(DZ f 0).toNat=0
 ·rw[e,h0]at h2;simpa using h2
 have h3:=hs 0 (DZ f 0).toNat (by show 0<(DP f).length;omega) hl I;have h4:=(List.getElem?_eq_some_iff.1 h2).2;have h5:=(hw.range _ (LL.1 (AK h0))).1;have h6:(DP f)[0]' I<=(DP f)[(DZ f 0).toNat]:=h3;rw[h4]at h6;omega
theorem fA{k:Int}(h0:0<=k)(h1:k<f.blocks.length):MZ (FG f) k=DZ f k:=by
 unfold MZ FG;rw[Bv,J3 I,FV,Fp];show I5 (DP f) ((k.toNat:Nat):Int)=_;rw[show((k.toNat:Nat):Int)=k from I];rfl
theorem Xs{j:Nat}{c:Block}:(Bj f).blocks[j]?=some c↔∃k,(DP f)[j]?=some k∧c=PM (FG f) (A7 f k):=by
 unfold Bj;simp only[Bv,PB];constructor
 ·rintro⟨k,h1,h2⟩;exact⟨k,h1,h2.symm⟩
 rintro⟨k,h1,h2⟩;exact⟨k,h1,h2.symm⟩
theorem Q0:(Bj f).blocks.length=(DP f).length:=BE ..
theorem eK{k:Int}(h:0<=CD f k):A7 (Bj f) (DZ f k)=PM (FG f) (A7 f k):=by
 have:=(Xs (f:=f)).2 ⟨k,(pos_at h).2,rfl⟩;unfold A7;rw[this];rfl
theorem K7{k:Int}(h0:0<=k)(h1:k<f.blocks.length):f.blocks[k.toNat]?=some (A7 f k):=by
 unfold A7;rw[AY I];rfl
end
variable {t:Term}
theorem tq{t':Term}(h1:t.kind=t'.kind)(h2:t.arg=t'.arg)(h3:t.n=t'.n)(h4:t.cases=t'.cases)(h5:t.to.length=t'.to.length):Hj t=Hj t':=by
 unfold Hj K6 TC;rw[h1,h2,h3,h4,h5]
theorem Rr.range{p:Int×Int}(h:Rr f v p):0<=p.1∧p.1<f.blocks.length:=by
 obtain⟨k,b,h1,h2,_⟩:=h;have:=AE h1;omega
theorem cj(h1:Hj t=true)(h2:t.cases.length<=256)(h3:t.kind=4->1<=t.n∧t.n<=6)(h4:P5 t.cases t.cases.length=0)(h5:∀e∈t.to,(1<=e.block∧e.block<=(f.blocks.length:Int)-1)∧e.args.length=(A7 f e.block).params.length):I4 f t=0:=by
 unfold I4;rw[A4 Uc,A4 I,A4 (fun q=>by
  have:=h3 q.1;have q2:=q.2;simp[within,this]at q2),A4 (by rw[h4];simp)]
 generalize t.to=l at h5;induction l with
 | nil=>rfl
 | cons e r ih =>
  have he:=h5 e DQ;simp only[Wi];rw[A4 (by simp[within,he.1]),A4 (by rw[he.2];simp)];exact ih fun x hx=>h5 x (Dw _ hx)
theorem uY(h:I4 f t=0):P5 t.cases t.cases.length=0:=by
 unfold I4 at h;split at h
 ·simp at h
 split at h
 ·simp at h
 split at h
 ·simp at h
 split at h
 ·rename_i q;exact B3 h q
 rename_i q;simpa using q
theorem wY{f:Func}(hd:Z5 f)(hw:Kd f):∀(n:Nat) (k:Int),0<=CD f k->CD f k<n->Ky f k.toNat=true∧∀d,d<128->(MC f k.toNat).has d=true->0<=CD f (d:Int)
 | 0,k,h,hn=>by omega
 | n+1,k,h,hn=>by
  by_cases h0:CD f k=0
  ·have hk:k=0:=hw.inj k 0 h (by rw[hw.zero,h0]);subst hk;refine⟨hd.seen,fun d DB q=>?_⟩;rw[(hd.zero d DB).1 q];show 0<=CD f 0;rw[hw.zero];omega
  obtain⟨p,⟨e,he,NY⟩,Oe,Mm⟩:=hw.fwd k I;obtain⟨i1,i2⟩:=wY hd hw n p Oe I;have Gn:=hw.range p Oe;obtain⟨s1,s2⟩:=hd.step p.toNat (A7 f p) (K7 Gn.1 Gn.2) i1 e he;rw[NY]at s1 s2;refine⟨s1,fun d DB q=>?_⟩;rcases s2 d DB q with r|r
  ·have Lo:=hw.range k h;rw[r,show((k.toNat:Nat):Int)=k from I];exact h
  exact i2 d DB r
theorem wR(hd:Z5 f)(hw:Kd f){k:Int}(h:0<=CD f k):Ky f k.toNat=true∧∀d,d<128->(MC f k.toNat).has d=true->0<=CD f (d:Int):=wY hd hw 300 k h (by
 have h1:=(hw.low k).2;have h2:=hw.few;omega)
theorem uQ(hw:Kd f){v:Int}{p:Int×Int}(h:Rr f v p)(hr:0<=CD f p.1):Rr (Bj f) v (DZ f p.1,p.2):=by
 obtain⟨k,b,h1,h2,h3⟩:=h;obtain⟨q1,q2⟩:=pos_at hr;have hb:A7 f p.1=b:=by
  rw[h2];unfold A7;rw[BH,h1];rfl
 refine⟨(DZ f p.1).toNat,PM (FG f) b,Xs.2 ⟨p.1,q2,by rw[hb]⟩,D6,h3⟩
theorem qcL(AO:f.fit)(hc:Cj f=0):Cj (Bj f)=0:=by
 have hv:=Sa AO hc;have hf:=hv.fn;have hg:=hf.gr;have hw:=Kx hg;have hd:=hv.Tp;have HS:=qd9 hw;have Vp:=lA hw;have hlen:(DP f).length<=f.blocks.length:=by
  have:=(mb hw).length_le;exact NI
 have Jy:=AE Vp;have NK:=hg.few;have hb0:A7 (Bj f) 0=PM (FG f) (A7 f 0):=by
  have:=eK (f:=f) (k:=0) qL
  rwa [Yp hw Vp]at this
 have ED:∀c∈(Bj f).blocks,∃k,0<=CD f k∧c=PM (FG f) (A7 f k)∧A7 f k∈f.blocks:=fun c FQ=>by
  obtain⟨j,hj⟩:=List.mem_iff_getElem?.1 FQ;obtain⟨k,h1,h2⟩:=Xs.1 hj;have hk:=LL.1 (AK h1);have Lo:=hw.range k hk;exact⟨k,hk,h2,AK (K7 Lo.1 Lo.2)⟩
 have bZ:∀{k:Int},0<=CD f k->∀e∈(A7 f k).term.to,0<=CD f e.block∧1<=e.block∧e.block<f.blocks.length:=fun {k} hk e he=>by
  have Lo:=hw.range k hk;have:=hg.DN _ (AK (K7 Lo.1 Lo.2)) e he;exact⟨hw.next k e.block hk ⟨e,he,rfl⟩,this⟩
 have Yu:∀{k:Int} {n v:Int},0<=CD f k->Ru f k.toNat n v->Ru (Bj f) (DZ f k).toNat n v:=fun {k n v} hk h=>by
  obtain⟨⟨pa,pb⟩,h1,h2⟩:=h;obtain⟨p,Qn⟩:∃p:Int×Int,p=(pa,pb):=⟨_,rfl⟩
  rw[<-Qn]at h1 h2;obtain⟨s1,s2⟩:=wR hd hw hk;have Lo:=hw.range k hk;obtain⟨q1,q2⟩:=pos_at hk;rcases h2 s1 with⟨e1,e2⟩|⟨e1,e2⟩
  ·have e3:p.1=k:=I
   refine⟨(DZ f k,p.2),by rw[<-e3];exact uQ hw h1 (by rw[e3];exact hk),fun _=>.inl ⟨D6,e2⟩⟩
  have DB:=h1.range;have Li:((p.1.toNat:Nat):Int)=p.1:=I
  have hpd:0<=CD f p.1:=by
   have:=s2 p.1.toNat I e2
   rwa [Li]at this
  obtain⟨r1,r2⟩:=pos_at hpd;refine⟨(DZ f p.1,p.2),uQ hw h1 hpd,fun _=>.inr ⟨fun q=>?_,?_⟩⟩
  ·have q':(DZ f p.1).toNat=(DZ f k).toNat:=by
    have:DZ f p.1=((DZ f k).toNat:Int):=q;omega
   rw[q',q2]at r2;simp only[AM]at r2;omega
  show(MC (Bj f) (DZ f k).toNat).has (DZ f p.1).toNat=true;refine wh (D:=fun i j=>∃ki kj,(DP f)[i]?=some ki∧(DP f)[j]?=some kj∧(MC f kj.toNat).has ki.toNat=true) (R:=fun _=>True) (by
   intro q;have:=Dj List.length q;rw[Q0]at this;simp only[GD]at this;omega) ?_ trivial ?_ ?_ (by rw[Q0];exact AE q2) ⟨p.1,k,r2,q2,e2⟩
  ·refine⟨qM,fun c FQ e he=>?_,fun j c hj _ e he=>⟨trivial,fun i hi=>?_⟩⟩
   ·obtain⟨kc,hkc,e3,_⟩:=ED c FQ;rw[e3,Q8]at he;obtain⟨x,hx,rfl⟩:=List.mem_map.1 he;obtain⟨x1,x2,x3⟩:=bZ hkc x hx;obtain⟨y1,y2⟩:=pos_at x1;show 0<=MZ (FG f) x.block∧(MZ (FG f) x.block).toNat<_;rw[fA I x3,Q0];exact⟨y1,AE y2⟩
   obtain⟨kc,h3,h4⟩:=Xs.1 hj;have hkc:=LL.1 (AK h3);rw[h4,Q8]at he;obtain⟨x,hx,rfl⟩:=List.mem_map.1 he;obtain⟨x1,x2,x3⟩:=bZ hkc x hx;obtain⟨y1,y2⟩:=pos_at x1;have FP:(Fl (FG f) x).block=DZ f x.block:=fA I x3;rw[FP]at hi ⊢;obtain⟨ki,kj,i1,i2,i3⟩:=hi;rw[y2]at i2;simp only[AM]at i2;subst i2;have yj:=hw.range kc hkc;have hki:=hw.range ki (LL.1 (AK i1));obtain⟨t1,t2⟩:=hd.step kc.toNat _ (K7 yj.1 yj.2) (wR hd hw hkc).1 x hx;rcases t2 ki.toNat I i3 with u|u
   ·refine .inl ?_;have:ki=x.block:=I
    rw[this]at i1;exact lT hw i1 y2
   exact .inr ⟨ki,kc,i1,h3,u⟩
  ·rintro i ⟨ki,kj,i1,i2,i3⟩;rw[Vp]at i2;simp only[AM]at i2;subst i2;have hki:=hw.range ki (LL.1 (AK i1));have:=(hd.zero ki.toNat I).1 i3;have Ln:ki=0:=I
   rw[Ln]at i1;exact lT hw i1 Vp
  rintro i j ⟨ki,kj,i1,_,_⟩;rw[Q0];exact AE i1
 refine sN (fun q=>?_) qM hf.name (fun c FQ=>?_) (NC (qem hw) (xE AO hc)) (by rw[hb0];exact hf.args) (fun v h=>hv.vals v (HS.subset h)) (HS.nodup hv.nodup) (fun c FQ=>?_) ?_
 ·have:=Dj List.length q;rw[Q0]at this;simp only[GD]at this;omega
 ·obtain⟨k,_,e1,e2⟩:=ED c FQ;rw[e1];exact hf.ins (A7 f k) e2
 ·obtain⟨k,hk,e1,e2⟩:=ED c FQ;have RA:=hf.blk _ e2;rw[e1];refine⟨RA.Yv,?_⟩;obtain⟨m1,m2,m3,m4⟩:=ZR RA.fin;refine cj ?_ m2 m3 (uY (f:=f) (t:=(A7 f k).term) RA.fin) fun e he=>?_
  ·have hs:Hj (PM (FG f) (A7 f k)).term=Hj (A7 f k).term:=tq rfl rfl rfl rfl (BE ..);rw[hs];exact m1
  rw[Q8]at he;obtain⟨x,hx,rfl⟩:=List.mem_map.1 he;obtain⟨x1,x2,x3⟩:=bZ hk x hx;obtain⟨y1,y2⟩:=pos_at x1;have FP:(Fl (FG f) x).block=DZ f x.block:=fA I x3;rw[FP,eK x1,Q0];have hyl:=AE y2;refine⟨⟨?_,I⟩,(m4 x hx).2⟩;refine N8 fun q=>?_;have h0:(DZ f x.block).toNat=0:=I
  rw[h0,Vp]at y2;simp only[AM]at y2;omega
 have DO:∀{j:Nat} {c:Block},(Bj f).blocks[j]?=some c->∃k,0<=CD f k∧c=PM (FG f) (A7 f k)∧f.blocks[k.toNat]?=some (A7 f k)∧j=(DZ f k).toNat:=fun {j c} hj=>by
  obtain⟨k,h1,h2⟩:=Xs.1 hj;have hk:=LL.1 (AK h1);have Lo:=hw.range k hk;have:=Yp hw h1;exact⟨k,hk,h2,K7 Lo.1 Lo.2,I⟩
 refine⟨fun j c hj n i hi a ha=>?_,fun j c hj h1 h4=>?_,fun j c hj e he a ha=>?_⟩
 ·obtain⟨k,hk,e1,e2,e3⟩:=DO hj;rw[e3];rw[e1]at hi;exact Yu hk (hv.NL.ins _ _ e2 n i hi a ha)
 ·obtain⟨k,hk,e1,e2,e3⟩:=DO hj;rw[e3];rw[e1]at h1 h4 ⊢;exact Yu hk (hv.NL.arg _ (A7 f k) e2 h1 h4)
 obtain⟨k,hk,e1,e2,e3⟩:=DO hj;rw[e3];rw[e1]at he ⊢;rw[Q8]at he;obtain⟨x,hx,rfl⟩:=List.mem_map.1 he;exact Yu hk (hv.NL.args _ _ e2 x hx a ha)
theorem qel(AO:f.fit)(hg:FN f):(Bj f).fit:=by
 have hw:=Kx hg;have hl:(DP f).length<=128:=by rw[wQ];exact hw.few
 refine⟨AO.1,qM,fun c FQ=>?_⟩;obtain⟨j,hj⟩:=List.mem_iff_getElem?.1 FQ;obtain⟨k,h1,h2⟩:=Xs.1 hj;have Lo:=hw.range k (LL.1 (AK h1));obtain⟨b1,b2,b3,b4,t1,t2,t3,t4,t5,t6,t7⟩:=AO.2.2 _ (AK (K7 Lo.1 Lo.2));rw[h2];refine⟨b1,b2,b3,b4,t1,t2,t3,t4,t5,by rw[Q8,BE];exact t6,fun e he=>?_⟩;rw[Q8]at he;obtain⟨x,hx,rfl⟩:=List.mem_map.1 he;obtain⟨x1,x2,x3⟩:=t7 x hx;refine⟨?_,x2,x3⟩;show Bi (MZ (FG f) x.block);have hb:-1<=MZ (FG f) x.block∧MZ (FG f) x.block<=128:=by
  unfold MZ FG;rw[Bv];by_cases q:x.block.toNat<f.blocks.length
  ·rw[J3 q,FV,Fp];by_cases r:0<=I5 (DP f) ((x.block.toNat:Nat):Int)
   ·have:=AE ((P3 (l:=DP f) (n:=((x.block.toNat:Nat):Int))).2 r);omega
   have:I5 (DP f) ((x.block.toNat:Nat):Int)=-1:=by
    unfold I5 at r ⊢;split
    ·rename_i s;rw[A9 s]at r;omega
    rfl
   omega
  rw[H3 Ai];simp
 unfold Bi;omega
section
variable {f:Func}
theorem qgf(hw:Kd f):DZ f 0=0:=Yp hw (lA hw)
theorem qek(hg:FN f){p k:Int}(hp:0<=CD f p)(h:Qj f p k):Qj (Bj f) (DZ f p) (DZ f k):=by
 have hw:=Kx hg;obtain⟨x,hx,e⟩:=h;have Gn:=hw.range p hp;have hxr:=hg.DN _ (AK (K7 Gn.1 Gn.2)) x hx;refine⟨Fl (FG f) x,?_,?_⟩
 ·unfold Ea;rw[eK hp,Q8];exact List.mem_map.2 ⟨x,hx,rfl⟩
 show MZ (FG f) x.block=_;rw[fA I hxr.2,e]
theorem vG(hg:FN f)(JZ:Kd (Bj f)):∀(n:Nat) (k:Int),0<=CD f k->CD f k<n->0<=CD (Bj f) (DZ f k)
 | 0,k,h,hn=>by omega
 | n+1,k,h,hn=>by
  have hw:=Kx hg;by_cases h0:CD f k=0
  ·have hk:k=0:=hw.inj k 0 h (by rw[hw.zero,h0]);rw[hk,qgf hw,JZ.zero];omega
  obtain⟨p,he,Oe,Mm⟩:=hw.fwd k I;exact JZ.next _ _ (vG hg JZ n p Oe I) (qek hg Oe he)
theorem qep(hg:FN f)(JZ:Kd (Bj f)){k:Int}(h:0<=CD f k):0<=CD (Bj f) (DZ f k):=vG hg JZ 300 k h (by
 have hw:=Kx hg;have h1:=(hw.low k).2;have h2:=hw.few;omega)
end
theorem adz:∀{l:List Func},(∀f∈l,Cj f=0)->UL l=0
 | [],_=>rfl
 | g::r,h=>by
  unfold UL;rw[HK (h g DQ)];exact adz fun f hf=>h f (Dw _ hf)
theorem adn{u:Ad}:∀{l:List Ins},(∀i∈l,KX u i=0)->UK u l=0
 | [],_=>rfl
 | g::r,h=>by
  unfold UK;rw[HK (h g DQ)];exact adn fun f hf=>h f (Dw _ hf)
theorem adl{u:Ad}:∀{l:List Block},(∀b∈l,∀i∈b.ins,KX u i=0)->RQ u l=0
 | [],_=>rfl
 | g::r,h=>by
  unfold RQ;rw[HK (adn (h g DQ))];exact adl fun f hf=>h f (Dw _ hf)
theorem adm{u:Ad}:∀{l:List Func},(∀f∈l,∀b∈f.blocks,∀i∈b.ins,KX u i=0)->M8 u l=0
 | [],_=>rfl
 | g::r,h=>by
  unfold M8;rw[HK (adl (h g DQ))];exact adm fun f hf=>h f (Dw _ hf)
theorem cT(h:GN u=0):u.fns.length≠0∧u.fns.length<=256∧within u.main 0 ((u.fns.length:Int)-1)=true∧(∀f∈u.fns,Cj f=0)∧(A7 (AB u u.main) 0).params.length=0∧M8 u u.fns=0:=by
 unfold GN at h;split at h
 ·simp at h
 rename_i h1;split at h
 ·simp at h
 rename_i h2;split at h
 ·simp at h
 rename_i h3;obtain⟨h4,h5⟩:=Mx h;split at h5
 ·simp at h5
 rename_i h6;exact⟨h1,I,Ug,iG h4,I,h5⟩
theorem qcj(h1:u.fns.length≠0)(h2:u.fns.length<=256)(h3:within u.main 0 ((u.fns.length:Int)-1)=true)(h4:∀f∈u.fns,Cj f=0)(h5:(A7 (AB u u.main) 0).params.length=0)(h6:M8 u u.fns=0):GN u=0:=by
 unfold GN;rw[A4 h1,A4 I,A4 (by simp[h3]),HK (adz h4),A4 I];exact h6
theorem qcZ{v:Ad}(h1:v.fns.length=u.fns.length)(h2:∀k:Int,0<=k->k<u.fns.length->(A7 (AB v k) 0).params.length=(A7 (AB u k) 0).params.length){i j:Ins}(ho:j.op=i.op)(hn:j.n=i.n)(hl:j.args.length=i.args.length)(h0:i.op=13∨i.op=9->0<=i.n):KX v j=KX u i:=by
 unfold KX;rw[ho,hn,hl,h1];split
 ·rfl
 split
 ·rfl
 rw[h2 i.n (h0 I) I]
theorem qcK(hw:Kd f):DZ f 0=0∧A7 (Bj f) 0=PM (FG f) (A7 f 0):=by
 have h0:=Yp hw (lA hw);have:=eK (f:=f) (k:=0) qL;rw[h0]at this;exact⟨h0,this⟩
theorem qej(hg:FN f)(JZ:Kd (Bj f)):(DP (Bj f)).length=(Bj f).blocks.length:=by
 have hw:=Kx hg;rw[bH JZ,List.filter_eq_self.2,BE,N7];intro k hk;obtain⟨j,hj,rfl⟩:=List.mem_map.1 hk;have hj:=List.mem_range.1 hj;rw[Q0]at hj;have hb:(DP f)[j]?=some ((DP f)[j]'hj):=AY _;have:=qep hg JZ (LL.1 (AK hb));rw[Yp hw hb]at this;exact Ar this
theorem qks(i:Ins):SE (fun k=>k) i=i:=by
 unfold SE;rw[Y9]
section
variable {u:Ad} (AO:u.fit) (hc:GN u=0)
include AO hc
theorem tN(hf:f∈u.fns):FN f:=(Mp (AO.2.2 f hf) ((cT hc).2.2.2.1 f hf)).gr
end
structure Tb(f:Func)(S:Sp):Prop where
 w:SpW f S
 Hf:∀(k:Nat) b l,f.blocks[k]?=some b->S.tos[k]?=some l->∀(n:Nat) x,b.term.to[n]?=some x->l[n]?=some x∨∃i:Nat,l[n]?=some ⟨((f.blocks.length+i:Nat):Int),[]⟩∧S.news[i]?=some (Gb x)
 new:∀(i:Nat) c,S.news[i]?=some c->∃(k:Nat) (b:Block) (x:Edge),f.blocks[k]?=some b∧x∈b.term.to∧c=Gb x
theorem vP(f:Func):Tb f (Kp f):=⟨y3 f,fun k b l h1 h2 n x h3=>by
 unfold Kp at h2;simp only[Bv,h1,FV,AM]at h2;rw[<-h2];exact .inl h3,fun i c h=>by simp[Kp]at h⟩
theorem wG{S:Sp}(h:Tb f S):Tb f (QH f k n S):=by
 refine⟨qhf h.w,?_,?_⟩
 ·intro j b l h1 h2 m x h3;unfold QH at h2 ⊢;cases hx:(Ea f (k:Int))[n]? with
  | none =>
   rw[hx]at h2;exact h.Hf j b l h1 h2 m x h3
  | some y =>
   rw[hx]at h2;simp only at h2 ⊢;by_cases hc:N' f k y=true
   ·rw[A9 hc]at h2 ⊢;simp only at h2 ⊢;have qmq:∀i:Nat,S.news[i]?=some (Gb x)->(S.news++[Gb y])[i]?=some (Gb x):=fun i q=>by
     rw[EV (AE q)];exact q
    have hold:∀l',S.tos[j]?=some l'->l'[m]?=l[m]?->l[m]?=some x∨∃i:Nat,l[m]?=some ⟨((f.blocks.length+i:Nat):Int),[]⟩∧(S.news++[Gb y])[i]?=some (Gb x):=fun l' q1 q2=>by
     rw[<-q2];rcases h.Hf j b l' h1 q1 m x h3 with r|⟨i,r1,r2⟩
     ·exact .inl r
     exact .inr ⟨i,r1,qmq i r2⟩
    rw[FD]at h2;split at h2
    ·rename_i e;subst e;split at h2
     ·rename_i hk;simp only[AM]at h2;obtain⟨l',J9⟩:∃l',S.tos[k]?=some l':=⟨_,AY hk⟩
      rw[J9,Fp]at h2;by_cases e2:n=m
      ·subst e2;have DM:Ea f (k:Int)=b.term.to:=by
        unfold Ea A7;rw[BH,h1];rfl
       rw[DM,h3]at hx;simp only[AM]at hx;subst hx;refine .inr ⟨S.news.length,?_,A6⟩;rw[<-h2,Bb];rw[h.w.each k b l' h1 J9];exact AE h3
      exact hold l' J9 (by rw[<-h2,Ap e2])
     cases h2
    exact hold l h2 rfl
   rw[A4 hc]at h2 ⊢;exact h.Hf j b l h1 h2 m x h3
 intro i c hi;unfold QH at hi;cases hx:(Ea f (k:Int))[n]? with
 | none =>
  rw[hx]at hi;exact h.new i c hi
 | some y =>
  rw[hx]at hi;simp only at hi;split at hi
  ·simp only at hi;by_cases hl:i<S.news.length
   ·rw[EV hl]at hi;exact h.new i c hi
   have:=AE hi;rw[Bf,IU]at this;have e:i=S.news.length:=I
   subst e;rw[Dg (B6 _),FB]at hi;simp only[Dh,AM]at hi;have hk:k<f.blocks.length:=by
    refine N8 fun q=>?_;unfold Ea A7 at hx;rw[BH,show f.blocks[k]?=none from H3 I]at hx;cases hx
   have hb:f.blocks[k]?=some f.blocks[k]:=AY hk;have DM:Ea f (k:Int)=f.blocks[k].term.to:=by
    unfold Ea A7;rw[BH,hb];rfl
   rw[DM]at hx;exact⟨k,_,y,hb,AK hx,hi.symm⟩
  exact h.new i c hi
theorem xz{f:Func}{k:Nat}:∀(m n:Nat) {S:Sp},Tb f S->Tb f (Vg f k m n S)
 | 0,_,_,h=>h
 | m+1,n,_,h=>xz m (n+1) (wG h)
theorem y0{f:Func}:∀(m k:Nat) {S:Sp},Tb f S->Tb f (spK f m k S)
 | 0,_,_,h=>h
 | m+1,k,_,h=>y0 m (k+1) (xz _ 0 h)
theorem K5(f:Func):Tb f (DI f):=y0 _ 0 (vP f)
section
variable {f:Func}
theorem U8:(DD f).blocks.length=f.blocks.length+(DI f).news.length:=by
 unfold DD;rw[Bf,iX,(K5 f).w.len];omega
theorem ka{c:Block}(hk:k<f.blocks.length):(DD f).blocks[k]?=some c↔∃b l,f.blocks[k]?=some b∧(DI f).tos[k]?=some l∧c=Dq b l:=by
 have hw:=(K5 f).w.len;have e:(DD f).blocks[k]?=(List.zipWith Dq f.blocks (DI f).tos)[k]?:=EV (by rw[iX];omega);have h1:f.blocks[k]?=some f.blocks[k]:=AY hk;have h2:(DI f).tos[k]?=some ((DI f).tos[k]' I):=AY _;rw[e,iM,h1,h2];constructor
 ·intro h;simp only[AM]at h;exact⟨_,_,rfl,rfl,h.symm⟩
 rintro⟨b,l,q1,q2,q3⟩;simp only[AM]at q1 q2;rw[q1,q2,q3]
theorem tP(i:Nat):(DD f).blocks[f.blocks.length+i]?=(DI f).news[i]?:=by
 have hw:=(K5 f).w.len;have hl:(List.zipWith Dq f.blocks (DI f).tos).length=f.blocks.length:=by
  rw[iX];omega
 have e:(DD f).blocks[f.blocks.length+i]?=(DI f).news[f.blocks.length+i-(List.zipWith Dq f.blocks (DI f).tos).length]?:=Dg I;rw[e,hl,Sz]
theorem Xm{l:List Edge}(hb:f.blocks[k]?=some b)(hl:(DI f).tos[k]?=some l){e:Edge}(he:e∈l):e∈b.term.to∨∃(i:Nat) (x:Edge),e=⟨((f.blocks.length+i:Nat):Int),[]⟩∧(DI f).news[i]?=some (Gb x)∧x∈b.term.to:=by
 obtain⟨n,hn⟩:=List.mem_iff_getElem?.1 he;have hlen:=(K5 f).w.each k b l hb hl;have JA:=AE hn;have hx:b.term.to[n]?=some (b.term.to[n]' I):=AY _;rcases(K5 f).Hf k b l hb hl n _ hx with q|⟨i,q1,q2⟩
 ·rw[hn]at q;simp only[AM]at q;rw[q];exact .inl (MG _)
 rw[hn]at q1;simp only[AM]at q1;exact .inr ⟨i,_,q1,q2,MG _⟩
end
theorem qev{x y:Edge}(h:Gb x=Gb y):x=y:=by
 unfold Gb at h;simpa using h
theorem lx:∀(bs:List Block) (tos:List (List Edge)),tos.length=bs.length->(List.zipWith Dq bs tos).flatMap Gx=bs.flatMap Gx
 | [],_,_=>by simp
 | b::bs,l::tos,h=>by
  rw[pG,GF,GF,lx bs tos Aa];rfl
 | b::bs,[],h=>MI
theorem xK:∀(bs:List Block) (tos:List (List Edge)),tos.length=bs.length->H0 (List.zipWith Dq bs tos)=H0 bs
 | [],_,_=>by simp[H0]
 | b::bs,l::tos,h=>by
  have ih:=xK bs tos Aa;unfold H0 at ih ⊢;rw[pG,Bc,Bc,KH,KH,ih];rfl
 | b::bs,[],h=>MI
theorem qfp(AT:f.blocks≠[])(hc:DmC f D R)(h0:R 0)(hz:∀i,D i 0->i=0)(AF:∀i j,D i j->i<f.blocks.length){j:Nat}(hj:j<128)(h:Ky f j=true):R j:=by
 have hl:=List.length_pos_iff.2 AT;have hs:Vb f.blocks.length D R (JN f):=by
  refine⟨by simp[JN],fun i j hj F4=>⟨AF i j F4,?_⟩,fun j hj Og=>?_⟩
  ·unfold Ds.at_ JN;simp only;rw[FD];split
   ·rename_i e;subst e;rw[A9 OL,Fp,hz i F4];decide
   exact ach
  have:(Bs.none.add 0).has j=true:=Og;rw[Bs.has_add _ _ _ I hj]at this;have hn:Bs.none.has j=false:=pt
  rw[hn]at this;simp only[Y5,Cp]at this;rw[this];exact h0
 exact(nM hc 20000 hs).seen j hj h
theorem eT{n:Int}(h:Ru f k n v):v∈G8 f:=by
 obtain⟨p,⟨k',b,h1,h2,h3⟩,_⟩:=h;refine List.mem_flatMap.2 ⟨b,AK h1,?_⟩;rcases h3 with⟨_,q⟩|⟨j,i,q1,q2,q3⟩
 ·exact UQ _ q
 exact YB _ (List.mem_map.2 ⟨i,AK q1,q2⟩)
section
variable {f g:Func} {s:Int->Int} {β:Nat->Nat} {pre:Nat->List Ins}
end
end Go.Proofs.YtjdnhamngpafmaaGreat
