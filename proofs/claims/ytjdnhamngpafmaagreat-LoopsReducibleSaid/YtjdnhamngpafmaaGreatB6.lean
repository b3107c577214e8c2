/-
  Texts bound together by a program of mine: YtjdnhamngpafmaaGreatPzu, YtjdnhamngpafmaaGreatT104, YtjdnhamngpafmaaGreatT176, YtjdnhamngpafmaaGreatPy, YtjdnhamngpafmaaGreatPz, YtjdnhamngpafmaaGreatPwa, YtjdnhamngpafmaaGreatPzp, YtjdnhamngpafmaaGreatPuv, YtjdnhamngpafmaaGreatPwb, YtjdnhamngpafmaaGreatPwc, YtjdnhamngpafmaaGreatPzq, YtjdnhamngpafmaaGreatPzr, YtjdnhamngpafmaaGreatT130, YtjdnhamngpafmaaGreatT131, YtjdnhamngpafmaaGreatT132, YtjdnhamngpafmaaGreatT170, YtjdnhamngpafmaaGreatPuy, YtjdnhamngpafmaaGreatT121, YtjdnhamngpafmaaGreatT122, YtjdnhamngpafmaaGreatT123, YtjdnhamngpafmaaGreatT126, YtjdnhamngpafmaaGreatPwd, YtjdnhamngpafmaaGreatPwe, YtjdnhamngpafmaaGreatT171, YtjdnhamngpafmaaGreatT172, YtjdnhamngpafmaaGreatPzt, YtjdnhamngpafmaaGreatT177.
-/
import Derived.Test.YtjdnhamngpafmaaGreatB5
set_option linter.all false
set_option maxRecDepth 100000
set_option maxHeartbeats 4000000

namespace Go.Proofs.YtjdnhamngpafmaaGreat
open Go.Av
def GJ(f:Func)(a:Int):List Bool:=mu f f.blocks.length ((List.replicate f.blocks.length false).set a.toNat true)
def Pq(f:Func)(a b:Int):Bool:=(GJ f a)[b.toNat]?.getD false
def CN(f:Func)(k p:Int):Bool:=(lT f)[p.toNat]?.getD false&&Pq f k p
def LR(f:Func):Bool:=(List.range f.blocks.length).any fun k:Nat=>(HJ f (k:Int)).any (CN f (k:Int))
def pg(s t:List Bool):Prop:=t.length=s.length∧∀j:Nat,s[j]?=some true->t[j]?=some true
theorem pg.refl(s:List Bool):pg s s:=⟨rfl,fun _ h=>h⟩
theorem pg.trans{s t u:List Bool}(h:pg s t)(h':pg t u):pg s u:=⟨h'.1.trans h.1,fun j q=>h'.2 j (h.2 j q)⟩
theorem Fo(k:Nat)(s:List Bool)(e:Edge):pg s (pr k s e):=by
 refine⟨vx k s e,fun j h=>?_⟩;unfold pr;split
 ·rw[List.getElem?_set];split
  ·rename_i q;subst q;rw[if_pos (I h)]
  exact h
 exact h
theorem uP(k:Nat):∀(l:List Edge) (s:List Bool),pg s (l.foldl (pr k) s)
 | [],s=>pg.refl s
 | e::r,s=>(Fo k s e).trans (uP k r _)
theorem Fm(k:Nat)(s:List Bool)(b:Block):pg s (Bz k s b):=uP k _ s
theorem tW:∀(l:List Block) (k:Nat) (s:List Bool),pg s (mr l k s)
 | [],_,s=>pg.refl s
 | b::r,k,s=>(Fm k s b).trans (tW r (k+1) _)
theorem zn(f:Func):∀(n:Nat) (s:List Bool),pg s (mu f n s)
 | 0,s=>pg.refl s
 | n+1,s=>(tW f.blocks 0 s).trans (zn f n _)
theorem xp(k:Nat):∀(l:List Edge) (s:List Bool) (e:Edge),e∈l->s[k]?=some true->e.block.toNat<s.length->(l.foldl (pr k) s)[e.block.toNat]?=some true
 | a::r,s,e,he,hk,hl=>by
  rw[List.foldl_cons];rcases List.mem_cons.1 he with q|q
  ·subst q;refine(uP k r _).2 _ ?_;unfold pr;rw[if_pos (by rw[hk];rfl),List.getElem?_set_self hl]
  exact xp k r _ e q ((Fo k s a).2 _ hk) (by rw[vx];exact hl)
theorem BA:∀(l:List Block) (k j:Nat) (s:List Bool) (b:Block) (e:Edge),l[j]?=some b->e∈b.term.to->s[k+j]?=some true->e.block.toNat<s.length->(mr l k s)[e.block.toNat]?=some true
 | b::r,k,0,s,b',e,hj,he,hk,hl=>by
  obtain rfl:b=b':=by simpa using hj
  exact(tW r (k+1) _).2 _ (xp k _ s e he hk hl)
 | b::r,k,j+1,s,b',e,hj,he,hk,hl=>by
  rw[mr];refine BA r (k+1) j _ b' e (by simpa using hj) he ?_ (by rw[rp];exact hl);rw[show k+1+j=k+(j+1) by omega];exact(Fm k s b).2 _ hk
def Br(s:List Bool):Nat:=s.countP fun b=>!b
theorem DJ:∀{s t:List Bool},pg s t->s≠t->Br t<Br s
 | [],[],_,h=>absurd rfl h
 | a::s,b::t,hle,bD=>by
  have h1:pg s t:=⟨by have:=hle.1;simpa using this,fun j h=>by have:=hle.2 (j+1) (by simpa using h);simpa using this⟩
  have h0:a=true->b=true:=fun q=>by
   have:=hle.2 0 (by simp[q]);simpa using this
  unfold Br;rw[List.countP_cons,List.countP_cons];by_cases e:s=t
  ·subst e;have xw:a≠b:=fun q=>bD (by rw[q]);cases a<;>cases b<;>simp at xw h0 ⊢
  have:=DJ h1 e;unfold Br at this;cases a<;>cases b<;>simp at h0 ⊢<;>omega
 | [],b::t,h,_=>by have:=h.1;simp at this
 | a::s,[],h,_=>by have:=h.1;simp at this
theorem x9{f:Func}{s:List Bool}(h:mr f.blocks 0 s=s):∀n,mu f n s=s
 | 0=>rfl
 | n+1=>by rw[mu,h,x9 h n]
theorem ya(f:Func):∀(n:Nat) (s:List Bool),Br s<n->mr f.blocks 0 (mu f n s)=mu f n s
 | 0,_,h=>absurd h (by omega)
 | n+1,s,h=>by
  rw[mu];by_cases e:mr f.blocks 0 s=s
  ·rw[e,x9 e,e]
  have:=DJ (tW f.blocks 0 s) (fun q=>e q.symm);exact ya f n _ (by omega)
theorem xK{f:Func}{a:Nat}(ha:a<f.blocks.length){k:Nat}{b:Block}{e:Edge}(hk:f.blocks[k]?=some b)(he:e∈b.term.to)(hm:(mu f f.blocks.length ((List.replicate f.blocks.length false).set a true))[k]?=some true)(hl:e.block.toNat<f.blocks.length) :
  (mu f f.blocks.length ((List.replicate f.blocks.length false).set a true))[e.block.toNat]?=some true:=by
 have hs:Br ((List.replicate f.blocks.length false).set a true)<f.blocks.length:=by
  have h1:=DJ (s:=List.replicate f.blocks.length false) (t:=(List.replicate f.blocks.length false).set a true) ⟨by simp,fun j h=>by
   have:=(List.mem_replicate.1 (List.mem_of_getElem? h)).2;cases this⟩ (fun q=>by
   have h2:((List.replicate f.blocks.length false).set a true)[a]?=some true:=List.getElem?_set_self (by simpa using ha);rw[<-q,List.getElem?_replicate,if_pos ha]at h2;simp at h2)
  have h3:Br (List.replicate f.blocks.length false)=f.blocks.length:=by
   unfold Br;rw[List.countP_eq_length.2 (fun b hb=>by rw[(List.mem_replicate.1 hb).2];rfl),List.length_replicate]
  omega
 have dG:=ya f _ _ hs;have:=BA f.blocks 0 k _ b e hk he (by rw[Nat.zero_add];exact hm) (by rw[rr];simpa using hl);rw[dG]at this;exact this
theorem BB{f:Func}{P:Nat->Prop}(hP:∀(k:Nat) b,f.blocks[k]?=some b->P k->∀e∈b.term.to,P e.block.toNat):∀(n:Nat) (s:List Bool),(∀j,s[j]?=some true->P j)->∀j,(mu f n s)[j]?=some true->P j:=by
 have hE:∀(k:Nat) b,f.blocks[k]?=some b->∀(l:List Edge) (s:List Bool),(∀e∈l,e∈b.term.to)->(∀j,s[j]?=some true->P j)->∀j,(l.foldl (pr k) s)[j]?=some true->P j:=fun k b hb l=>by
  induction l with
  | nil=>exact fun s _ h=>h
  | cons e r ih =>
   intro s hl h;rw[List.foldl_cons];refine ih _ (fun x hx=>hl x (List.mem_cons_of_mem _ hx)) fun j hj=>?_;unfold pr at hj;split at hj
   ·rename_i hk;by_cases q:e.block.toNat=j
    ·subst q;refine hP k b hb (h k ?_) e (hl e List.mem_cons_self);cases hs:s[k]? with
     | none=>rw[hs]at hk;cases hk
     | some a=>rw[hs]at hk;simpa using hk
    rw[List.getElem?_set_ne q]at hj;exact h j hj
   exact h j hj
 have hL:∀(l:List Block) (k:Nat) (s:List Bool),(∀(j:Nat) b,l[j]?=some b->f.blocks[k+j]?=some b)->(∀j,s[j]?=some true->P j)->∀j,(mr l k s)[j]?=some true->P j:=fun l=>by
  induction l with
  | nil=>exact fun k s _ h=>h
  | cons b r ih =>
   intro k s hl h;rw[mr];refine ih (k+1) _ (fun j x hx=>?_) (hE k b (by have:=hl 0 b rfl;simpa using this) _ s (fun e he=>he) h);have:=hl (j+1) x (by simpa using hx);rw[show k+1+j=k+(j+1) by omega];exact this
 intro n;induction n with
 | zero=>exact fun s h=>h
 | succ n ih=>exact fun s h=>ih _ (hL f.blocks 0 s (fun j b hj=>by rw[Nat.zero_add];exact hj) h)
theorem Ik{P Q:Nat->Bool}:∀{l:List Nat},(∀q∈l,P q=true->Q q=true)->(∃q∈l,P q=false∧Q q=true)->l.countP P<l.countP Q
 | [],_,⟨_,h,_⟩=>by cases h
 | a::r,h,⟨q,hq,h1,h2⟩=>by
  have ha:=h a List.mem_cons_self;have hr:=fun x hx=>h x (List.mem_cons_of_mem a hx);have hle:r.countP P<=r.countP Q:=List.countP_mono_left hr;rw[List.countP_cons,List.countP_cons];rcases List.mem_cons.1 hq with e|q'
  ·subst e;rw[h1,h2];simp;omega
  have:=Ik hr ⟨q,q',h1,h2⟩;by_cases hp:P a=true
  ·rw[if_pos hp,if_pos (ha hp)];omega
  rw[if_neg hp];omega
theorem DG{f:Func}{k p:Int}:p∈HJ f k↔∃j:Nat,p=(j:Int)∧j<f.blocks.length∧qz f p k:=by
 have key:∀(bs:List Block) (n:Nat),p∈HI k n bs↔∃(j:Nat) (b:Block),bs[j]?=some b∧p=((n+j:Nat):Int)∧∃e∈b.term.to,e.block=k:=fun bs=>by
  induction bs with
  | nil=>intro n;simp[HI]
  | cons b r ih =>
   intro n;rw[HI,List.mem_append,ih (n+1)];constructor
   ·rintro(h|⟨j,b',h1,h2,h3⟩)
    ·unfold Sf at h;obtain⟨e,h1,h2⟩:=List.mem_map.1 h;rw[List.mem_filter]at h1;exact⟨0,b,rfl,h2.symm,e,h1.1,by simpa using h1.2⟩
    exact⟨j+1,b',by simpa using h1,by rw[h2];congr 1;omega,h3⟩
   rintro⟨j,b',h1,h2,e,h3,h4⟩;cases j with
   | zero =>
    obtain rfl:b=b':=by simpa using h1
    refine .inl (List.mem_map.2 ⟨e,?_,h2.symm⟩);rw[List.mem_filter];exact⟨h3,by simpa using h4⟩
   | succ j=>exact .inr ⟨j,b',by simpa using h1,by rw[h2];congr 1;omega,e,h3,h4⟩
 unfold HJ;rw[key];constructor
 ·rintro⟨j,b,h1,h2,e,h3,h4⟩;rw[Nat.zero_add]at h2;refine⟨j,h2,I h1,e,?_,h4⟩;unfold eA aY;rw[h2,Int.toNat_natCast,h1];exact h3
 rintro⟨j,rfl,h1,e,h2,h3⟩;refine⟨j,f.blocks[j],List.getElem?_eq_getElem h1,by rw[Nat.zero_add],e,?_,h3⟩;unfold eA aY at h2;rw[Int.toNat_natCast,List.getElem?_eq_getElem h1]at h2;exact h2
theorem LS{f:Func}(hv:Ld f)(hb:dd f=[]):LR f=true↔¬Py f:=by
 have hg:=hv.fn.gr;have hw:=cE hg;have I9:∀{k t:Int},t∈kJ f k↔qz f k t:=fun {k t}=>by
  rw[kK,hb];simp
 have hlen:=List.length_pos_iff.2 hg.ne;have xE:∀{k:Nat} {b:Block},f.blocks[k]?=some b->eA f (k:Int)=b.term.to:=fun {k b} h=>by
  unfold eA aY;rw[Int.toNat_natCast,h];rfl
 constructor
 ·rintro hc ⟨r,hr⟩;obtain⟨k,hk,h1⟩:=List.any_eq_true.1 hc;obtain⟨p,hp,h2⟩:=List.any_eq_true.1 h1;obtain⟨j,rfl,hj,he⟩:=DG.1 hp;unfold CN Pq GJ at h2;rw[Bool.and_eq_true,Int.toNat_natCast,Int.toNat_natCast]at h2;have gt:∀{l:List Bool} {i:Nat},l[i]?.getD false=true->l[i]?=some true:=fun {l i} q=>by
   cases h:l[i]? with
   | none=>rw[h]at q;cases q
   | some a=>rw[h]at q;simpa using q
  have hs:=gt h2.1;have hl:=gt h2.2;have qu:=List.mem_range.1 hk;have bG:∀(i:Nat) b,f.blocks[i]?=some b->(i:Int)∈dw f->∀e∈b.term.to,((e.block.toNat:Nat):Int)∈dw f∧r i<r (e.block.toNat:Nat):=fun i b RZ hi e he=>by
   have h0:=(hv.ee b (List.mem_of_getElem? RZ) e he).1;have Mu:qz f (i:Int) e.block:=⟨e,by rw[xE RZ];exact he,rfl⟩
   rw[Int.toNat_of_nonneg (by omega)];exact⟨lL hg hi (I9.2 Mu),hr _ hi _ (I9.2 Mu)⟩
  have Yb:(j:Int)∈dw f:=by
   refine BB (P:=fun i=>(i:Int)∈dw f) (fun i b RZ hi e he=>(bG i b RZ hi e he).1) _ _ (fun i hi=>?_) j hs;by_cases q:0=i
   ·subst q;exact cD.2 (by rw[show((0:Nat):Int)=0 from rfl,hw.zero];exact Int.le_refl 0)
   rw[List.getElem?_set_ne q]at hi;have:=(List.mem_replicate.1 (List.mem_of_getElem? hi)).2;cases this
  have Ty:(k:Int)∈dw f:=lL hg Yb (I9.2 he);have hjk:=BB (P:=fun i=>(i:Int)∈dw f∧r k<=r i) (fun i b RZ hi e he=>by
   obtain⟨q1,q2⟩:=bG i b RZ hi.1 e he;exact⟨q1,by omega⟩) _ _ (fun i hi=>by
   by_cases q:k=i
   ·subst q;exact⟨Ty,Nat.le_refl _⟩
   rw[List.getElem?_set_ne q]at hi;have:=(List.mem_replicate.1 (List.mem_of_getElem? hi)).2;cases this) j hl
  have:=hr _ Yb _ (I9.2 he);omega
 intro U3;refine Classical.byContradiction fun hc=>U3 ?_;have Ww:∀(k j:Nat),k<f.blocks.length->j<f.blocks.length->qz f (j:Int) (k:Int)->(lT f)[j]?=some true->(GJ f (k:Int))[j]?.getD false=false:=fun k j hk hj he hs=>by
  cases q:(GJ f (k:Int))[j]?.getD false with
  | false=>rfl
  | true =>
   refine absurd (List.any_eq_true.2 ⟨k,List.mem_range.2 hk,List.any_eq_true.2 ⟨(j:Int),DG.2 ⟨j,rfl,hj,he⟩,?_⟩⟩) hc;unfold CN Pq;rw[Int.toNat_natCast,hs,q];rfl
 have nU:∀(n:Nat) (p:Int),p∈dw f->cP f p=(n:Int)->(lT f)[p.toNat]?=some true:=fun n=>by
  induction n using Nat.strongRecOn with
  | _ n ih =>
   intro p hp hn;by_cases h0:p=0
   ·subst h0;exact(zn f _ _).2 _ (List.getElem?_set_self (by simpa using hlen))
   obtain⟨q,q1,q2,q3⟩:=hw.fwd p (by
    have:=cD.1 hp;rcases Int.lt_or_eq_of_le this with h|h
    ·omega
    exact absurd (hw.inj p 0 this (by rw[hw.zero,<-h])) h0)
   have h1:=ih (cP f q).toNat (by omega) q (cD.2 q2) (by omega);have Yv:=hw.range q q2;have kc:=hw.range p (cD.1 hp);obtain⟨e,he,heq⟩:=q1;have hqb:=uk Yv.1 Yv.2;have:=xK (f:=f) (a:=0) hlen (k:=q.toNat) (e:=e) hqb he h1 (by rw[heq];omega);rw[heq]at this;exact this
 refine⟨fun t=>(List.range f.blocks.length).countP fun q:Nat=>(GJ f (q:Int))[t.toNat]?.getD false,fun p hp t ht=>?_⟩;have Mu:=I9.1 ht;have kc:=eU hg hp;have qw:=eU hg (lL hg hp ht);refine Ik (fun q hq h=>?_) ⟨t.toNat,List.mem_range.2 (by omega),?_,?_⟩
 ·obtain⟨e,he,heq⟩:=Mu;have hm:(GJ f (q:Int))[p.toNat]?=some true:=by
   cases h':(GJ f (q:Int))[p.toNat]? with
   | none=>rw[h']at h;cases h
   | some a=>rw[h']at h;simpa using h
  unfold GJ at hm ⊢;rw[Int.toNat_natCast]at hm ⊢;have:=xK (f:=f) (a:=q) (List.mem_range.1 hq) (k:=p.toNat) (e:=e) (uk kc.1 kc.2) he hm (by rw[heq];omega);rw[heq]at this;rw[this];rfl
 ·refine Ww t.toNat p.toNat (by omega) (by omega) ?_ (nU (cP f p).toNat p hp (by have:=cD.1 hp;omega));rw[Int.toNat_of_nonneg kc.1,Int.toNat_of_nonneg qw.1];exact Mu
 have:(GJ f ((t.toNat:Nat):Int))[t.toNat]?=some true:=by
  unfold GJ;rw[Int.toNat_natCast];exact(zn f _ _).2 _ (List.getElem?_set_self (by simp;omega))
 rw[this];rfl
theorem zS(a c:Int)(h0:0<=a)(h1:a<=c):bq Tryz.prog 50 [aI a,aI 0,aI c] (.v (.bool true)):=by
 have ZK:decide (0<=a)=true:=decide_eq_true h0;have ni:decide (a<=c)=true:=decide_eq_true h1;refine zf true 0 Tryz.func50 Tryz.ntmps50 ?_;dsimp only[Tmp,TypeId,slotsOf];refine az (ah ?_);refine aU ?_;simp -dsimp only[simprocAttr,↓aa,zp,ZK,ni];refine ah ?_;refine aq ?_;simp -dsimp only[simprocAttr,↓aa,zp,zr,Tryz.results50]
theorem D0(f:Func)(bJ:f.fit)(hc:aN f=0):bq Tryz.prog 19 [f.enc,aI (-1)] (.aB 1 ((lT f).map eB) .sh):=by
 have hv:=ig bJ hc;have hn:f.blocks.length<=128:=hv.fn.few;have Di:=List.length_pos_iff.2 hv.fn.ne;have IW:=vy f;obtain⟨R,hR⟩:∃R,R=lT f:=⟨_,rfl⟩
 rw[<-hR]at IW ⊢;unfold lT at hR;obtain⟨N,hN⟩:∃N,N=f.blocks.length:=⟨_,rfl⟩
 rw[<-hN]at hn Di hR IW;have hd:decide ((N:Int)=0)=false:=decide_eq_false (by omega);have QB:List.replicate N (ae.v (.bool false))=(List.replicate N false).map eB:=by simp[eB]
 have QF:=yD (l:=List.replicate N false) (j:=0) (by simp;omega) true;refine zf true 0 Tryz.func19 Tryz.ntmps19 ?_;dsimp only[Tmp,TypeId,slotsOf];refine az (ah ?_);refine aC 2 0 (.ip none [aI f.name,aw f.blocks]) rfl (by simp[ai.aD]) trivial rfl ?_ ?_;rotate_left;simp -dsimp only[simprocAttr,↓aa,zp]
 ·refine aU ?_;simp -dsimp only[simprocAttr,↓aa,zp,<-hN,nO]
  repeat(refine⟨by omega,?_⟩)
  refine ah ?_;refine cK ?_;simp -dsimp only[simprocAttr,↓aa,zp,<-hN,hd];refine ah ?_;apply aP rfl<;>intro h
  ·cases h
  refine ct ?_;refine aU ?_;simp -dsimp only[simprocAttr,↓aa,zp,QB,QF,List.length_replicate,Int.toNat_natCast,Nat.mul_one]
  repeat(refine⟨by omega,?_⟩)
  refine ah ?_;obtain⟨s0,Dl⟩:∃s0,s0=(List.replicate N false).set 0 true:=⟨_,rfl⟩
  rw[<-Dl]at hR ⊢;have QD:s0.length=N:=by rw[Dl];simp
  refine cK ?_;simp -dsimp only[simprocAttr,↓aa,zp,<-hN];refine ah ?_;refine ag (aM (ι:={x:Nat×List Bool // x.1<=N∧x.2.length=N∧R=mu f (N-x.1) x.2}) (fun x=>⟨73,[(1,aI (-1)),(2,.ip none [aI f.name,aw f.blocks]),(5,.ms 1 0 N N),(27,aI N),(28,aI x.1.1)],[.gone,.cells (x.1.2.map eB)]⟩) (fun x=>N-x.1.1) ⟨(0,s0),by simp,QD,hR⟩ ?_ ?_)
  ·refine zq rfl ?_ ?_;simp -dsimp only[simprocAttr,↓aa,zp,zc];rfl
  rintro⟨⟨m,s⟩,fa,iY,de⟩;simp only at fa iY de;refine az (ah ?_);apply ic rfl<;>intro h
  ·refine ct ?_;have a8:m<N:=by simpa using h
   rw[show N-m=(N-(m+1))+1 by omega]at de;simp only[mu]at de;obtain⟨L,hL⟩:∃L,L=mr f.blocks 0 s:=⟨_,rfl⟩
   have OF:L.length=N:=by rw[hL,rq,iY]
   rw[<-hL]at de;refine aG (ag ?_);refine aU ?_;simp -dsimp only[simprocAttr,↓aa,zp,<-hN];refine ah ?_;refine ag (aM (ι:={x:Nat×List Bool // x.1<=N∧x.2.length=N∧L=mr (f.blocks.drop x.1) x.1 x.2}) (fun x=>⟨73,[(1,aI (-1)),(2,.ip none [aI f.name,aw f.blocks]),(5,.ms 1 0 N N),(27,aI N),(28,aI m),(31,aw f.blocks),(32,aI N),(33,aI x.1.1)],[.gone,.cells (x.1.2.map eB)]⟩) (fun x=>N-x.1.1) ⟨(0,s),by simp,iY,hL⟩ ?_ ?_)
   ·refine zq rfl ?_ ?_;simp -dsimp only[simprocAttr,↓aa,zp,zc];rfl
   rintro⟨⟨k,s⟩,hk,iY,me⟩;simp only at hk iY me;refine az (ah ?_);apply ic rfl<;>intro h
   ·refine ct ?_;have Gp:k<N:=by simpa using h
    obtain⟨b,hb⟩:∃b,f.blocks[k]?=some b:=⟨f.blocks[k]'(by omega),List.getElem?_eq_getElem _⟩
    rw[bA hb]at me;simp only[mr]at me;obtain⟨B,hB⟩:∃B,B=Bz k s b:=⟨_,rfl⟩
    have Lh:B.length=N:=by rw[hB,rp,iY]
    rw[<-hB]at me;unfold Bz at hB;refine aG (ag ?_);refine aU ?_;simp -dsimp only[simprocAttr,↓aa,zp,hb];refine ah ?_;refine aC 7 2 (.ip none [a7 b.params,bW b.ins,aI b.term.kind,aI b.term.arg,aI b.term.n,a7 b.term.cases,aH b.term.to]) rfl (by simp[ai.aD]) trivial rfl ?_ ?_;rotate_left;simp -dsimp only[simprocAttr,↓aa,zp]
    ·refine cb 2 [(1,aI (-1)),(2,.ip none [aI f.name,aw f.blocks]),(5,.ms 1 0 N N),(27,aI N),(28,aI m),(31,aw f.blocks),(32,aI N),(33,aI k),(6,aI k),(7,.ip none [a7 b.params,bW b.ins,aI b.term.kind,aI b.term.arg,aI b.term.n,a7 b.term.cases,aH b.term.to])] (by simp) (by omega) [.gone,.cells (s.map eB)] ?_ ?_ ?_ ?_ ?_
     ·rfl
     ·simp[ai.upto,dS]
     ·simp[iv,St.get,bt,bc,Go.Av.look,Sub.refl]
     ·simp[ai.upto,av,ae.upto,ax,Func.ak,Block.ak,Edge.ak,Ins.ak]
     refine az (ah ?_);refine fh 40 rfl (fun Uk=>?_);simp only[List.length_map]at Uk;refine ag (aM (ι:={x:Nat×List Bool // x.1<=b.term.to.length∧x.2.length=N∧B=(b.term.to.drop x.1).foldl (pr k) x.2}) (fun x=>⟨73,[(1,aI (-1)),(2,.ip none [aI f.name,aw f.blocks]),(5,.ms 1 0 N N),(27,aI N),(28,aI m),(31,aw f.blocks),(32,aI N),(33,aI k),(6,aI k),(40,aH b.term.to),(41,aI b.term.to.length),(42,aI x.1.1)],[.gone,.cells (x.1.2.map eB)]⟩) (fun x=>b.term.to.length-x.1.1) ⟨(0,s),by simp,iY,hB⟩ ?_ ?_)
     ·refine zq rfl ?_ ?_;simp -dsimp only[simprocAttr,↓aa,zp,zc];rfl
     rintro⟨⟨z,s⟩,hz,iY,gO⟩;simp only at hz iY gO;refine az (ah ?_);apply ic rfl<;>intro h
     ·refine ct ?_;have mf:z<b.term.to.length:=by simpa using h
      obtain⟨e,he⟩:∃e,b.term.to[z]?=some e:=⟨b.term.to[z],by simp[mf]⟩
      obtain⟨tz,ZQ⟩:=hv.ee b (List.mem_of_getElem? hb) e (List.mem_of_getElem? he);rw[bA he,List.foldl_cons]at gO;obtain⟨j,hj⟩:∃j:Nat,e.block=(j:Int):=⟨e.block.toNat,by omega⟩
      obtain⟨a,ha⟩:∃a,s[k]?=some a:=⟨s[k]'(by omega),List.getElem?_eq_getElem _⟩
      have Mk:(s.map eB)[k]?=some (eB a):=by rw[List.getElem?_map,ha];rfl
      have WM:pr k s e=if a=true then s.set j true else s:=by simp[pr,ha,hj]
      rw[WM]at gO;have bD:decide (e.block=-1)=false:=decide_eq_false (by omega);have Js:=zS e.block ((N:Int)-1) (by omega) (by omega);have nv:=yD (l:=s) (j:=j) (by omega) true;refine aG (ag ?_);refine aU ?_;simp -dsimp only[simprocAttr,↓aa,zp,he];refine ah ?_;refine aC 9 2 (.ip none [aI e.block,a7 e.args]) rfl (by simp[ai.aD]) trivial rfl ?_ ?_;rotate_left;simp -dsimp only[simprocAttr,↓aa,zp]
      ·refine cb 2 [(1,aI (-1)),(2,.ip none [aI f.name,aw f.blocks]),(5,.ms 1 0 N N),(27,aI N),(28,aI m),(31,aw f.blocks),(32,aI N),(33,aI k),(6,aI k),(40,aH b.term.to),(41,aI b.term.to.length),(42,aI z),(9,.ip none [aI e.block,a7 e.args])] (by simp) (by omega) [.gone,.cells (s.map eB)] ?_ ?_ ?_ ?_ ?_
       ·rfl
       ·simp[ai.upto,dS]
       ·simp[iv,St.get,bt,bc,Go.Av.look,Sub.refl]
       ·simp[ai.upto,av,ae.upto,ax,Func.ak,Block.ak,Edge.ak,Ins.ak]
       cases a with
       | true =>
        simp only[if_true]at gO;refine aU ?_;simp -dsimp only[simprocAttr,↓aa,zp,Mk,eB,bD,<-hN,Int.toNat_natCast,Nat.mul_one]
        repeat(refine⟨by omega,?_⟩)
        refine .inl ⟨_,Js,by simp only[av,ae.upto,zt,zu,ax,dS],ao ?_⟩;simp -dsimp only[simprocAttr,↓aa,zp];refine ah ?_;refine cY rfl ?_;refine jD ?_;simp -dsimp only[simprocAttr,↓aa,zp,hj,nv,iY,Int.toNat_natCast,Nat.mul_one]
        repeat(refine⟨by omega,?_⟩)
        refine ah ?_;refine cC ?_
        repeat(refine⟨by omega,?_⟩)
        refine eX ?_;refine⟨⟨(z+1,s.set j true),mf,by simp[iY],gO⟩,by simp;omega,?_⟩;refine zq rfl ?_ ?_;simp -dsimp only[simprocAttr,↓aa,zp,zc]
        ·exact Sub.int (by simp)
        rfl
       | false =>
        simp only[Bool.false_eq_true,if_false]at gO;refine aU ?_;simp -dsimp only[simprocAttr,↓aa,zp,Mk,eB,bD,<-hN,Int.toNat_natCast,Nat.mul_one]
        repeat(refine⟨by omega,?_⟩)
        refine ah ?_;refine cm rfl ?_;refine lX ?_;refine cC ?_
        repeat(refine⟨by omega,?_⟩)
        refine eX ?_;refine⟨⟨(z+1,s),mf,iY,gO⟩,by simp;omega,?_⟩;refine zq rfl ?_ ?_;simp -dsimp only[simprocAttr,↓aa,zp,zc]
        ·exact Sub.int (by simp)
        rfl
      exact bY.mp rfl rfl
     refine aF ?_;simp -dsimp only[bF,ne_eq,Nat.reduceEqDiff,reduceCtorEq];have Jw:z=b.term.to.length:=by simp at h;omega
     subst Jw;rw[List.drop_length,List.foldl_nil]at gO;subst gO;refine cC ?_
     repeat(refine⟨by omega,?_⟩)
     refine eX ?_;refine⟨⟨(k+1,B),Gp,Lh,me⟩,by simp;omega,?_⟩;refine zq rfl ?_ ?_;simp -dsimp only[simprocAttr,↓aa,zp,zc]
     ·exact Sub.int (by simp)
     rfl
    exact bY.mp rfl rfl
   refine aF ?_;simp -dsimp only[bF,ne_eq,Nat.reduceEqDiff,reduceCtorEq];have ik:k=N:=by simp at h;omega
   subst ik;rw[List.drop_of_length_le (by omega)]at me;simp only[mr]at me;subst me;refine cC ?_
   repeat(refine⟨by omega,?_⟩)
   refine eX ?_;refine⟨⟨(m+1,L),a8,OF,de⟩,by simp;omega,?_⟩;refine zq rfl ?_ ?_;simp -dsimp only[simprocAttr,↓aa,zp,zc]
   ·exact Sub.int (by simp)
   rfl
  refine aF ?_;simp -dsimp only[bF,ne_eq,Nat.reduceEqDiff,reduceCtorEq];have TN:m=N:=by simp at h;omega
  subst TN;rw[Nat.sub_self]at de;simp only[mu]at de;subst de;refine aC 5 1 (o:=.cells (R.map eB)) (.aB 1 (R.map eB) .nn) rfl (by simp[ai.aD]) trivial rfl (FZ rfl IW) ?_;simp -dsimp only[simprocAttr,↓aa,zp];refine az (ah ?_);refine aq ?_;simp -dsimp only[simprocAttr,↓aa,zp,zr,Tryz.results19];exact dS _ _
 exact bY.mp rfl rfl
theorem Dy(f:Func)(bJ:f.fit)(hc:aN f=0)(a t:Nat)(ha:a<f.blocks.length)(ht:t<f.blocks.length):bq Tryz.prog 21 [f.enc,aI a,aI t] (.v (.bool (Pq f a t))):=by
 have hv:=ig bJ hc;have hn:f.blocks.length<=128:=hv.fn.few;have Di:=List.length_pos_iff.2 hv.fn.ne;obtain⟨R,hR⟩:∃R,R=GJ f a:=⟨_,rfl⟩
 have IW:R.length=f.blocks.length:=by
  rw[hR];unfold GJ;rw[rr];simp
 have Yg:Pq f a t=R[t]?.getD false:=by
  rw[hR];unfold Pq;rw[Int.toNat_natCast]
 rw[Yg];unfold GJ at hR;rw[Int.toNat_natCast]at hR;obtain⟨N,hN⟩:∃N,N=f.blocks.length:=⟨_,rfl⟩
 rw[<-hN]at hn Di hR IW ha ht;have QB:List.replicate N (ae.v (.bool false))=(List.replicate N false).map eB:=by simp[eB]
 have QF:=yD (l:=List.replicate N false) (j:=a) (by simpa using ha) true;refine zf true 0 Tryz.func21 Tryz.ntmps21 ?_;dsimp only[Tmp,TypeId,slotsOf];refine az (ah ?_);refine aC 3 0 (.ip none [aI f.name,aw f.blocks]) rfl (by simp[ai.aD]) trivial rfl ?_ ?_;rotate_left;simp -dsimp only[simprocAttr,↓aa,zp]
 ·refine aU ?_;simp -dsimp only[simprocAttr,↓aa,zp,<-hN,nO]
  repeat(refine⟨by omega,?_⟩)
  refine ah ?_;refine aU ?_;simp -dsimp only[simprocAttr,↓aa,zp,QB,QF,List.length_replicate,Int.toNat_natCast,Nat.mul_one]
  repeat(refine⟨by omega,?_⟩)
  refine ah ?_;obtain⟨s0,Dl⟩:∃s0,s0=(List.replicate N false).set a true:=⟨_,rfl⟩
  rw[<-Dl]at hR ⊢;have QD:s0.length=N:=by rw[Dl];simp
  refine cK ?_;simp -dsimp only[simprocAttr,↓aa,zp,<-hN];refine ah ?_;refine ag (aM (ι:={x:Nat×List Bool // x.1<=N∧x.2.length=N∧R=mu f (N-x.1) x.2}) (fun x=>⟨62,[(1,aI a),(2,aI t),(3,.ip none [aI f.name,aw f.blocks]),(7,.ms 1 0 N N),(21,aI N),(22,aI x.1.1)],[.gone,.cells (x.1.2.map eB)]⟩) (fun x=>N-x.1.1) ⟨(0,s0),by simp,QD,hR⟩ ?_ ?_)
  ·refine zq rfl ?_ ?_;simp -dsimp only[simprocAttr,↓aa,zp,zc];rfl
  rintro⟨⟨m,s⟩,fa,iY,de⟩;simp only at fa iY de;refine az (ah ?_);apply ic rfl<;>intro h
  ·refine ct ?_;have a8:m<N:=by simpa using h
   rw[show N-m=(N-(m+1))+1 by omega]at de;simp only[mu]at de;obtain⟨L,hL⟩:∃L,L=mr f.blocks 0 s:=⟨_,rfl⟩
   have OF:L.length=N:=by rw[hL,rq,iY]
   rw[<-hL]at de;refine aG (ag ?_);refine aU ?_;simp -dsimp only[simprocAttr,↓aa,zp,<-hN];refine ah ?_;refine ag (aM (ι:={x:Nat×List Bool // x.1<=N∧x.2.length=N∧L=mr (f.blocks.drop x.1) x.1 x.2}) (fun x=>⟨62,[(1,aI a),(2,aI t),(3,.ip none [aI f.name,aw f.blocks]),(7,.ms 1 0 N N),(21,aI N),(22,aI m),(25,aw f.blocks),(26,aI N),(27,aI x.1.1)],[.gone,.cells (x.1.2.map eB)]⟩) (fun x=>N-x.1.1) ⟨(0,s),by simp,iY,hL⟩ ?_ ?_)
   ·refine zq rfl ?_ ?_;simp -dsimp only[simprocAttr,↓aa,zp,zc];rfl
   rintro⟨⟨k,s⟩,hk,iY,me⟩;simp only at hk iY me;refine az (ah ?_);apply ic rfl<;>intro h
   ·refine ct ?_;have Gp:k<N:=by simpa using h
    obtain⟨b,hb⟩:∃b,f.blocks[k]?=some b:=⟨f.blocks[k]'(by omega),List.getElem?_eq_getElem _⟩
    rw[bA hb]at me;simp only[mr]at me;obtain⟨B,hB⟩:∃B,B=Bz k s b:=⟨_,rfl⟩
    have Lh:B.length=N:=by rw[hB,rp,iY]
    rw[<-hB]at me;unfold Bz at hB;refine aG (ag ?_);refine aU ?_;simp -dsimp only[simprocAttr,↓aa,zp,hb];refine ah ?_;refine aC 9 2 (.ip none [a7 b.params,bW b.ins,aI b.term.kind,aI b.term.arg,aI b.term.n,a7 b.term.cases,aH b.term.to]) rfl (by simp[ai.aD]) trivial rfl ?_ ?_;rotate_left;simp -dsimp only[simprocAttr,↓aa,zp]
    ·refine cb 2 [(1,aI a),(2,aI t),(3,.ip none [aI f.name,aw f.blocks]),(7,.ms 1 0 N N),(21,aI N),(22,aI m),(25,aw f.blocks),(26,aI N),(27,aI k),(8,aI k),(9,.ip none [a7 b.params,bW b.ins,aI b.term.kind,aI b.term.arg,aI b.term.n,a7 b.term.cases,aH b.term.to])] (by simp) (by omega) [.gone,.cells (s.map eB)] ?_ ?_ ?_ ?_ ?_
     ·rfl
     ·simp[ai.upto,dS]
     ·simp[iv,St.get,bt,bc,Go.Av.look,Sub.refl]
     ·simp[ai.upto,av,ae.upto,ax,Func.ak,Block.ak,Edge.ak,Ins.ak]
     refine az (ah ?_);refine fh 34 rfl (fun Uk=>?_);simp only[List.length_map]at Uk;refine ag (aM (ι:={x:Nat×List Bool // x.1<=b.term.to.length∧x.2.length=N∧B=(b.term.to.drop x.1).foldl (pr k) x.2}) (fun x=>⟨62,[(1,aI a),(2,aI t),(3,.ip none [aI f.name,aw f.blocks]),(7,.ms 1 0 N N),(21,aI N),(22,aI m),(25,aw f.blocks),(26,aI N),(27,aI k),(8,aI k),(34,aH b.term.to),(35,aI b.term.to.length),(36,aI x.1.1)],[.gone,.cells (x.1.2.map eB)]⟩) (fun x=>b.term.to.length-x.1.1) ⟨(0,s),by simp,iY,hB⟩ ?_ ?_)
     ·refine zq rfl ?_ ?_;simp -dsimp only[simprocAttr,↓aa,zp,zc];rfl
     rintro⟨⟨z,s⟩,hz,iY,gO⟩;simp only at hz iY gO;refine az (ah ?_);apply ic rfl<;>intro h
     ·refine ct ?_;have mf:z<b.term.to.length:=by simpa using h
      obtain⟨e,he⟩:∃e,b.term.to[z]?=some e:=⟨b.term.to[z],by simp[mf]⟩
      obtain⟨tz,ZQ⟩:=hv.ee b (List.mem_of_getElem? hb) e (List.mem_of_getElem? he);rw[bA he,List.foldl_cons]at gO;obtain⟨j,hj⟩:∃j:Nat,e.block=(j:Int):=⟨e.block.toNat,by omega⟩
      obtain⟨q,hq⟩:∃q,s[k]?=some q:=⟨s[k]'(by omega),List.getElem?_eq_getElem _⟩
      have Mk:(s.map eB)[k]?=some (eB q):=by rw[List.getElem?_map,hq];rfl
      have WM:pr k s e=if q=true then s.set j true else s:=by simp[pr,hq,hj]
      rw[WM]at gO;obtain⟨c,VT⟩:∃c,s[j]?=some c:=⟨s[j]'(by omega),List.getElem?_eq_getElem _⟩
      have P6:(s.map eB)[j]?=some (eB c):=by rw[List.getElem?_map,VT];rfl
      have nv:=yD (l:=s) (j:=j) (by omega) (c ||q);have ga:s.set j (c ||q)=if q=true then s.set j true else s:=by
       cases q with
       | true=>simp
       | false =>
        simp only[Bool.or_false,Bool.false_eq_true,if_false];apply List.ext_getElem?;intro i;rw[List.getElem?_set];split
        ·rename_i q;subst q;rw[if_pos (I VT),VT]
        rfl
      rw[<-ga]at gO;refine aG (ag ?_);refine aU ?_;simp -dsimp only[simprocAttr,↓aa,zp,he];refine ah ?_;refine aC 11 2 (.ip none [aI e.block,a7 e.args]) rfl (by simp[ai.aD]) trivial rfl ?_ ?_;rotate_left;simp -dsimp only[simprocAttr,↓aa,zp]
      ·refine cb 2 [(1,aI a),(2,aI t),(3,.ip none [aI f.name,aw f.blocks]),(7,.ms 1 0 N N),(21,aI N),(22,aI m),(25,aw f.blocks),(26,aI N),(27,aI k),(8,aI k),(34,aH b.term.to),(35,aI b.term.to.length),(36,aI z),(11,.ip none [aI e.block,a7 e.args])] (by simp) (by omega) [.gone,.cells (s.map eB)] ?_ ?_ ?_ ?_ ?_
       ·rfl
       ·simp[ai.upto,dS]
       ·simp[iv,St.get,bt,bc,Go.Av.look,Sub.refl]
       ·simp[ai.upto,av,ae.upto,ax,Func.ak,Block.ak,Edge.ak,Ins.ak]
       cases c with
       | true =>
        simp only[Bool.true_or]at gO nv;refine jD ?_;simp -dsimp only[simprocAttr,↓aa,zp,hj,Mk,P6,eB,nv,iY,Int.toNat_natCast,Nat.mul_one]
        repeat(refine⟨by omega,?_⟩)
        refine⟨ob (by kernel_rfl),?_⟩;refine ah ?_;refine cC ?_
        repeat(refine⟨by omega,?_⟩)
        refine eX ?_;refine⟨⟨(z+1,s.set j true),mf,by simp[iY],gO⟩,by simp;omega,?_⟩;refine zq rfl ?_ ?_;simp -dsimp only[simprocAttr,↓aa,zp,zc]
        ·exact Sub.int (by simp)
        rfl
       | false =>
        simp only[Bool.false_or]at gO nv;refine jD ?_;simp -dsimp only[simprocAttr,↓aa,zp,hj,Mk,P6,eB,nv,iY,Int.toNat_natCast,Nat.mul_one]
        repeat(refine⟨by omega,?_⟩)
        refine⟨ob (by kernel_rfl),?_⟩;refine ah ?_;refine cC ?_
        repeat(refine⟨by omega,?_⟩)
        refine eX ?_;refine⟨⟨(z+1,s.set j q),mf,by simp[iY],gO⟩,by simp;omega,?_⟩;refine zq rfl ?_ ?_;simp -dsimp only[simprocAttr,↓aa,zp,zc]
        ·exact Sub.int (by simp)
        rfl
      exact bY.mp rfl rfl
     refine aF ?_;simp -dsimp only[bF,ne_eq,Nat.reduceEqDiff,reduceCtorEq];have Jw:z=b.term.to.length:=by simp at h;omega
     subst Jw;rw[List.drop_length,List.foldl_nil]at gO;subst gO;refine cC ?_
     repeat(refine⟨by omega,?_⟩)
     refine eX ?_;refine⟨⟨(k+1,B),Gp,Lh,me⟩,by simp;omega,?_⟩;refine zq rfl ?_ ?_;simp -dsimp only[simprocAttr,↓aa,zp,zc]
     ·exact Sub.int (by simp)
     rfl
    exact bY.mp rfl rfl
   refine aF ?_;simp -dsimp only[bF,ne_eq,Nat.reduceEqDiff,reduceCtorEq];have ik:k=N:=by simp at h;omega
   subst ik;rw[List.drop_of_length_le (by omega)]at me;simp only[mr]at me;subst me;refine cC ?_
   repeat(refine⟨by omega,?_⟩)
   refine eX ?_;refine⟨⟨(m+1,L),a8,OF,de⟩,by simp;omega,?_⟩;refine zq rfl ?_ ?_;simp -dsimp only[simprocAttr,↓aa,zp,zc]
   ·exact Sub.int (by simp)
   rfl
  refine aF ?_;simp -dsimp only[bF,ne_eq,Nat.reduceEqDiff,reduceCtorEq];have TN:m=N:=by simp at h;omega
  subst TN;rw[Nat.sub_self]at de;simp only[mu]at de;subst de;obtain⟨v,Ph⟩:∃v,R[t]?=some v:=⟨R[t]'(by omega),List.getElem?_eq_getElem _⟩
  have hvt:(R.map eB)[t]?=some (eB v):=by rw[List.getElem?_map,Ph];rfl
  refine aU ?_;simp -dsimp only[simprocAttr,↓aa,zp,hvt,eB,Int.toNat_natCast,Nat.mul_one]
  repeat(refine⟨by omega,?_⟩)
  refine ah ?_;rw[Ph];refine aq ?_;simp -dsimp only[simprocAttr,↓aa,zp,zr,Tryz.results21];rfl
 exact bY.mp rfl rfl

namespace Mach
def shift(m:Mach)(c:Int):Mach:={ m with left:=m.left+c }
end Mach
end Go.Proofs.YtjdnhamngpafmaaGreat
namespace Go.Proofs.YtjdnhamngpafmaaGreat
open Go.Av
def VR(D:Int->Prop)(s:Int->Int)(es RK:List (Int×SV)):Prop:=∀k,D k->iI RK (s k)=iI es k
section
variable {D:Int->Prop} {s:Int->Int}
end
namespace Mach
def put(m:Mach)(fs:List Fr)(l:Int):Mach:={ m with frames:=fs,left:=l }
inductive Steps(u:cu):Nat->Mach->Mach->Prop
 | refl (m:Mach):Steps u 0 m m
 | cons {n:Nat} {m m':Mach}:m.over=false->m.short=false->1<=m.left->Steps u n (step u { m with left:=m.left-1 }) m'->Steps u (n+1) m m'
theorem Steps.trans{u:cu}{a b:Nat}{m m' QT:Mach}(h:Steps u a m m')(k:Steps u b m' QT):Steps u (a+b) m QT:=by
 induction h with
 | refl m=>rw[Nat.zero_add];exact k
 | cons h1 h2 h3 _ ih =>
  rw[Nat.add_right_comm];exact .cons h1 h2 h3 (ih k)
end Mach
section
variable (u v:cu) (s:Int->Int) (D L:Int->Int->Prop) (β:Int->Int->Int) (pre:Int->Int->List Ins)
structure FR(f f':Fr):Prop where
 ids:f'.bT=f.bT∧f'.dt=f.dt∧f'.fn=f.fn
 fn:0<=f.fn∧f.fn<u.fns.length
 live:L f.fn f.blk
 blk:f'.blk=β f.fn f.blk
 pos:f'.pos=(pre f.fn f.blk).length+f.pos
 vals:VR (D f.fn) s f.vals f'.vals
def YS(f f':Fr):List Fr->Prop
 | []=>True
 | g::_=>f'.to=s f.to∧D g.fn f.to
def Xw:List Fr->List Fr->Prop
 | [],[]=>True
 | f::r,f'::r'=>FR u s D L β pre f f'∧YS s D f f' r∧Xw r r'
 | _,_=>False
def Rel(c d:Int)(m m':Mach):Prop:=∃fs l,m'=m.put fs l∧Xw u s D L β pre m.frames fs∧c*m.left<=l∧l<=m.left+d
end
section
variable {u v:cu} {s:Int->Int} {D L:Int->Int->Prop} {β:Int->Int->Int} {pre:Int->Int->List Ins} {c d:Int}
end
end Go.Proofs.YtjdnhamngpafmaaGreat
namespace Go.Proofs.YtjdnhamngpafmaaGreat
open Go.Av

end Go.Proofs.YtjdnhamngpafmaaGreat
namespace Go.Proofs.YtjdnhamngpafmaaGreat
open Go.Av
section
variable {f:Func}
end
end Go.Proofs.YtjdnhamngpafmaaGreat
namespace Go.Proofs.YtjdnhamngpafmaaGreat
open Go.Av
section
variable {u:cu} (bJ:u.fit) (hc:gF u=0)
include bJ hc
end
end Go.Proofs.YtjdnhamngpafmaaGreat
namespace Go.Proofs.YtjdnhamngpafmaaGreat
open Go.Av
section
variable {u:cu} (bJ:u.fit) (hc:gF u=0) (hm:∀f∈u.fns,f.blocks.length+(spM f).news.length<=128)
include bJ hc hm
end
end Go.Proofs.YtjdnhamngpafmaaGreat
namespace Go.Proofs.YtjdnhamngpafmaaGreat
open Go.Av
section
variable {u:cu} (bJ:u.fit) (hc:gF u=0) (hm:∀f∈u.fns,f.blocks.length+(bE f).length<=128∧c5 f+fW f (bE f)<=4096)
include bJ hc hm
end
end Go.Proofs.YtjdnhamngpafmaaGreat
namespace Go.Proofs.YtjdnhamngpafmaaGreat
open Go.Av



def PH(gM:Func->Func)(er:Func->Int)(f:Func):ae:=if er f=0 then .cx [(gM f).enc,aI 0]else .cx [.agg [aI 0,.aB 7 [] .sh],aI (er f)]
theorem DS(f:Func)(x:bd)(hg:fv f)(hx:x.blocks.length<=128):bq Tryz.prog 35 [f.enc,iE x] (.aB 2 ((gI f x).map eM) .sh):=by
 have hn:f.blocks.length<=128:=hg.few;obtain⟨R,hR⟩:∃R,R=gI f x:=⟨_,rfl⟩
 have IW:R.length<=128*257:=by
  have:=y6 (x:=x) (k:=0) (l:=f.blocks) hg.to;rw[hR];unfold gI;omega
 rw[<-hR];unfold gI at hR;unfold iE;refine zf true 0 Tryz.func35 Tryz.ntmps35 ?_;dsimp only[Tmp,TypeId,slotsOf];refine az (ah ?_);refine aC 2 0 (.ip none [aI f.name,aw f.blocks]) rfl (by simp[ai.aD]) trivial rfl ?_ ?_;rotate_left;simp -dsimp only[simprocAttr,↓aa,zp];rotate_left
 ·exact bY.mp rfl rfl
 refine aC 3 1 (.ip none [aI x.head,a7 x.blocks,aI x.parent]) rfl (by simp[ai.aD]) trivial rfl ?_ ?_;rotate_left;simp -dsimp only[simprocAttr,↓aa,zp];rotate_left
 ·exact bY.mp rfl rfl
 refine az (ah ?_);refine Ev 5 rfl ?_;simp -dsimp only[simprocAttr,↓aa,zp];show cn Tryz.prog _ _ _ ⟨_,_,[.gone,.gone,.spare 0]⟩;refine ck (ah ?_);refine ag (aM (ι:={X:Nat×List Mv // X.1<=f.blocks.length∧R=X.2++JS x X.1 (f.blocks.drop X.1)}) (fun X=>⟨48,[(2,.ip none [aI f.name,aw f.blocks]),(3,.ip none [aI x.head,a7 x.blocks,aI x.parent]),(5,.aB 2 (X.1.2.map eM) (.tok 2)),(11,aw f.blocks),(12,aI f.blocks.length),(13,aI X.1.1)],[.gone,.gone,.spare X.1.2.length]⟩) (fun X=>f.blocks.length-X.1.1) ⟨(0,[]),Nat.zero_le _,hR⟩ ?_ ?_)
 ·refine zq rfl ?_ ?_;simp -dsimp only[simprocAttr,↓aa,zp,zc]
  all_goals rfl
 rintro⟨⟨k,acc⟩,hk,de⟩;simp only at hk de;refine az (ah ?_);apply ic rfl<;>intro h
 ·refine ct ?_;have a8:k<f.blocks.length:=by simpa using h
  obtain⟨b,hb⟩:∃b,f.blocks[k]?=some b:=⟨f.blocks[k],List.getElem?_eq_getElem a8⟩
  rw[bA hb,JS]at de;have xz:=ju x.blocks (k:Int);obtain⟨inb,Wb⟩:∃inb,inb=gj x.blocks (k:Int):=⟨_,rfl⟩
  rw[<-Wb]at xz de;refine aG (ag ?_);refine aU ?_;simp -dsimp only[simprocAttr,↓aa,zp,hb];refine ah ?_;refine aC 7 3 (.ip none [a7 b.params,bW b.ins,aI b.term.kind,aI b.term.arg,aI b.term.n,a7 b.term.cases,aH b.term.to]) rfl (by simp[ai.aD]) trivial rfl ?_ ?_;rotate_left;simp -dsimp only[simprocAttr,↓aa,zp];rotate_left
  ·exact bY.mp rfl rfl
  refine cb 3 [(2,.ip none [aI f.name,aw f.blocks]),(3,.ip none [aI x.head,a7 x.blocks,aI x.parent]),(5,.aB 2 (acc.map eM) (.tok 2)),(11,aw f.blocks),(12,aI f.blocks.length),(13,aI k),(6,aI k),(7,.ip none [a7 b.params,bW b.ins,aI b.term.kind,aI b.term.arg,aI b.term.n,a7 b.term.cases,aH b.term.to])] (by simp) (by omega) [.gone,.gone,.spare acc.length] ?_ ?_ ?_ ?_ ?_
  ·rfl
  ·simp[ai.upto]
  ·simp[iv,St.get,bt,bc,Go.Av.look,Sub.refl]
  ·simp[ai.upto,av,ae.upto,ax,Func.ak,Block.ak,Edge.ak,Ins.ak,oM]
  refine az (ah ?_);obtain⟨Q,hQ⟩:∃Q,Q=acc++HH x.head inb (k:Int) 0 b.term.to:=⟨_,rfl⟩
  have me:R=Q++JS x (k+1) (f.blocks.drop (k+1)):=by rw[hQ,List.append_assoc];exact de
  have hQl:Q.length<=128*257:=by
   have:=congrArg List.length me;rw[List.length_append]at this;omega
  have ZF:=hg.to b (List.mem_of_getElem? hb);refine ag (aM (ι:={Y:Nat×List Mv // Y.1<=b.term.to.length∧Q=Y.2++HH x.head inb (k:Int) Y.1 (b.term.to.drop Y.1)}) (fun Y=>⟨48,[(2,.ip none [aI f.name,aw f.blocks]),(3,.ip none [aI x.head,a7 x.blocks,aI x.parent]),(5,.aB 2 (Y.1.2.map eM) (.tok 2)),(11,aw f.blocks),(12,aI f.blocks.length),(13,aI k),(6,aI k),(20,aH b.term.to),(21,aI b.term.to.length),(22,aI Y.1.1)],[.gone,.gone,.spare Y.1.2.length]⟩) (fun Y=>b.term.to.length-Y.1.1) ⟨(0,acc),Nat.zero_le _,hQ⟩ ?_ ?_)
  ·refine zq rfl ?_ ?_;simp -dsimp only[simprocAttr,↓aa,zp,zc]
   all_goals rfl
  rintro⟨⟨n,acc⟩,z7,gO⟩;simp only at z7 gO;refine az (ah ?_);apply ic rfl<;>intro h
  ·refine ct ?_;have U2:n<b.term.to.length:=by simpa using h
   obtain⟨e,he⟩:∃e,b.term.to[n]?=some e:=⟨b.term.to[n],List.getElem?_eq_getElem U2⟩
   rw[bA he,HH]at gO;have lN:acc.length<=128*257:=by
    have:=congrArg List.length gO;rw[List.length_append]at this;omega
   refine aG (ag ?_);refine aU ?_;simp -dsimp only[simprocAttr,↓aa,zp,he];refine ah ?_;refine aC 9 3 (.ip none [aI e.block,a7 e.args]) rfl (by simp[ai.aD]) trivial rfl ?_ ?_;rotate_left;simp -dsimp only[simprocAttr,↓aa,zp];rotate_left
   ·exact bY.mp rfl rfl
   refine cb 3 [(2,.ip none [aI f.name,aw f.blocks]),(3,.ip none [aI x.head,a7 x.blocks,aI x.parent]),(5,.aB 2 (acc.map eM) (.tok 2)),(11,aw f.blocks),(12,aI f.blocks.length),(13,aI k),(6,aI k),(20,aH b.term.to),(21,aI b.term.to.length),(22,aI n),(8,aI n),(9,.ip none [aI e.block,a7 e.args])] (by simp) (by omega) [.gone,.gone,.spare acc.length] ?_ ?_ ?_ ?_ ?_
   ·rfl
   ·simp[ai.upto]
   ·simp[iv,St.get,bt,bc,Go.Av.look,Sub.refl]
   ·simp[ai.upto,av,ae.upto,ax,Func.ak,Block.ak,Edge.ak,Ins.ak,oM]
   by_cases h1:e.block=x.head
   ·have d1:decide (e.block=x.head)=true:=decide_eq_true h1;cases inb with
    | false =>
     rw[if_pos ⟨h1,rfl⟩]at gO;have Wr:acc.map eM++[.agg [aI (k:Int),aI (n:Int)]]=(acc++[((k:Int),(n:Int))]).map eM:=by simp[eM]
     refine aU ?_;simp -dsimp only[simprocAttr,↓aa,zp,d1];refine .inl ⟨_,xz,by simp only[av,ae.upto,zt,zu,ax],ao ?_⟩;simp -dsimp only[simprocAttr,↓aa,zp,d1];refine ah ?_;refine cY rfl ?_;refine jD ?_;simp -dsimp only[simprocAttr,↓aa,zp,List.length_map]
     repeat(refine⟨by omega,?_⟩)
     refine ah ?_;rw[Wr];refine cC ?_
     repeat(refine⟨by omega,?_⟩)
     refine eX ?_;refine⟨⟨(n+1,acc++[((k:Int),(n:Int))]),U2,by rw[gO,List.append_assoc];rfl⟩,by simp;omega,?_⟩;refine zq rfl ?_ ?_;simp -dsimp only[simprocAttr,↓aa,zp,zc]
     ·exact Sub.int (by simp)
     simp
    | true =>
     rw[if_neg (by simp)]at gO;refine aU ?_;simp -dsimp only[simprocAttr,↓aa,zp,d1];refine .inl ⟨_,xz,by simp only[av,ae.upto,zt,zu,ax],ao ?_⟩;simp -dsimp only[simprocAttr,↓aa,zp,d1];refine ah ?_;refine cm rfl ?_;refine lX ?_;refine cC ?_
     repeat(refine⟨by omega,?_⟩)
     refine eX ?_;refine⟨⟨(n+1,acc),U2,gO⟩,by simp;omega,?_⟩;refine zq rfl ?_ ?_;simp -dsimp only[simprocAttr,↓aa,zp,zc]
     ·exact Sub.int (by simp)
     rfl
   have d1:decide (e.block=x.head)=false:=decide_eq_false h1;rw[if_neg (fun q=>h1 q.1)]at gO;refine aU ?_;simp -dsimp only[simprocAttr,↓aa,zp,d1];refine ah ?_;refine cm rfl ?_;refine lX ?_;refine cC ?_
   repeat(refine⟨by omega,?_⟩)
   refine eX ?_;refine⟨⟨(n+1,acc),U2,gO⟩,by simp;omega,?_⟩;refine zq rfl ?_ ?_;simp -dsimp only[simprocAttr,↓aa,zp,zc]
   ·exact Sub.int (by simp)
   rfl
  refine aF ?_;simp -dsimp only[bF,ne_eq,Nat.reduceEqDiff,reduceCtorEq];have uX:n=b.term.to.length:=by simp at h;omega
  subst uX;rw[List.drop_length,HH,List.append_nil]at gO;subst gO;refine cC ?_
  repeat(refine⟨by omega,?_⟩)
  refine eX ?_;refine⟨⟨(k+1,Q),a8,me⟩,by simp;omega,?_⟩;refine zq rfl ?_ ?_;simp -dsimp only[simprocAttr,↓aa,zp,zc]
  ·exact Sub.int (by simp)
  rfl
 refine aF ?_;simp -dsimp only[bF,ne_eq,Nat.reduceEqDiff,reduceCtorEq];have ik:k=f.blocks.length:=by simp at h;omega
 subst ik;rw[List.drop_length,JS,List.append_nil]at de;subst de;refine az (ah ?_);refine aq ?_;simp -dsimp only[simprocAttr,↓aa,zp,zr,Tryz.results35];exact oM _ _
theorem mH(bs:List Block):(al (bs.map Block.enc)).length=bs.length*7:=by
 induction bs with
 | nil=>rfl
 | cons b r ih =>
  have e:al ((b::r).map Block.enc)=b.enc.cells++al (r.map Block.enc):=rfl;have hb:b.enc.cells.length=7:=rfl;rw[e,List.length_append,ih,hb,List.length_cons];omega
theorem wg(bs:List Block):∀d∈al (bs.map Block.enc),d.scalar:=by
 induction bs with
 | nil=>intro d hd;cases hd
 | cons b r ih =>
  intro d hd;have e:al ((b::r).map Block.enc)=b.enc.cells++al (r.map Block.enc):=rfl;rw[e]at hd;rcases List.mem_append.1 hd with q|q
  ·simp only[Block.enc,ae.cells,List.mem_cons,List.not_mem_nil,or_false]at q;rcases q with rfl|rfl|rfl|rfl|rfl|rfl|rfl<;>trivial
  exact ih d q
theorem Ai{P:Program}{kb:Nat}{c:Code}{Q:dR->St->Prop}{n:Nat}{bn:List (Nat×ae)}{O:List ai}{ids:List Nat}{bs T:List Block}{X oid:Nat}{name:Int}
  (hl:ids.length=bs.length) (hX:oid≠X) (jO:O[X]?=some (.cells [aI name,.os oid (bs.length+T.length) 7])) (Wp:O[oid]?=some (.cells (eF ids bs++al (T.map Block.enc))))
  (nS:∀(j id:Nat) (b:Block),ids[j]?=some id->bs[j]?=some b->b.term.to≠[]->id≠oid∧id≠X∧O[id]?=some (.cells (j7 b.term.to)))
  (Wc:∀(i j id:Nat) (b d:Block),ids[i]?=some id->ids[j]?=some id->bs[i]?=some b->bs[j]?=some d->b.term.to≠[]->d.term.to≠[]->i=j)
  (h:∀O',O'.length=O.length->O'[X]?=some (.cells [aI name,aw (bs++T)])->cn P kb c Q ⟨n,bn,O'⟩):cn P kb c Q ⟨n,bn,O⟩:=by
 have hT:=mH T;refine ue (A:=oid) (C:=fun i=>lS i ids bs++al (T.map Block.enc)) (N:=bs.length) (M:=bs.length*7+T.length*7) (fun i=>i*7+6) (fun i d hd=>by
   rcases List.mem_append.1 hd with q|q
   ·exact sW i ids bs d q
   exact wg T d q) (fun i=>by rw[List.length_append,Bl i hl,hT])
  (fun i O=>O[X]?=some (.cells [aI name,.os oid (bs.length+T.length) 7])∧∀(j id:Nat) (b:Block),i<=j->ids[j]?=some id->bs[j]?=some b->b.term.to≠[]->id≠oid∧id≠X∧O[id]?=some (.cells (j7 b.term.to)))
  (fun i O hi hA hf=>?_) bs.length 0 O (by omega) Wp ⟨jO,fun j id b _=>nS j id b⟩ (fun O1 dM hA hf=>?_)
 ·have gC:ids[i]?=some (ids[i]'(by omega)):=List.getElem?_eq_getElem _;have hb:bs[i]?=some (bs[i]'hi):=List.getElem?_eq_getElem _;generalize ids[i]'(by omega)=id at gC;generalize bs[i]'hi=b at hb;obtain⟨m1,m2⟩:=Fe i gC hb;have Jh:=I m1;by_cases ht:b.term.to=[]
  ·refine .inl ⟨?_,hf.1,fun j id b tP=>hf.2 j id b (by omega)⟩;have he:aH b.term.to=rj id b.term.to:=by
    rw[ht];rfl
   show lS (i+1) ids bs++_=lS i ids bs++_;rw[m2,he];congr 1;apply List.ext_getElem?;intro j;rw[List.getElem?_set];split
   ·rename_i e
    first|rw[<-e,m1]|rw[<-e,if_pos (I m1),m1]
   rfl
  obtain⟨o1,o2,o3⟩:=hf.2 i id b (Nat.le_refl _) gC hb ht;refine .inr ⟨id,.cells (j7 b.term.to),.os id b.term.to.length 2,aH b.term.to,o1,o3,by simp[ai.aD],trivial,?_,?_,bY.os (cs:=j7 b.term.to) o3 (fun x hx=>by obtain⟨e,_,rfl⟩:=List.mem_map.1 hx;rfl) (by simp) (by rw[List.drop_zero,List.take_of_length_le (by rw[lq];omega)];exact F2 _),?_,fun j ny b' tP h1 h2 h3=>?_⟩
  ·show(lS i ids bs++_)[i*7+6]?=_;rw[List.getElem?_append_left Jh,m1];exact congrArg some (if_neg ht)
  ·show lS (i+1) ids bs++_=(lS i ids bs++_).set (i*7+6) _;rw[m2,List.set_append_left _ _ Jh]
  ·rw[List.getElem?_set_ne (fun e=>hX e),List.getElem?_set_ne (fun e=>o2 e)];exact hf.1
  obtain⟨p1,p2,p3⟩:=hf.2 j ny b' (by omega) h1 h2 h3;refine⟨p1,p2,?_⟩;rw[List.getElem?_set_ne (fun e=>p1 e.symm),List.getElem?_set_ne (fun e=>?_)]
  ·exact p3
  subst e;have:=Wc i j id b b' gC h1 hb h2 ht h3;omega
 have cB:lS bs.length ids bs++al (T.map Block.enc)=al ((bs++T).map Block.enc):=by
  rw[Bk hl,List.map_append];simp[al]
 rw[cB]at hA;refine lG oid hA (by simp[ai.aD]) trivial bn (fun s z hz=>⟨z,hz,.refl z⟩) X (Ne.symm hX) [aI name,.os oid (bs.length+T.length) 7] [aI name,aw (bs++T)] hf.1 rfl (fun d hd=>?_) (fun j a d ha hd=>?_) (h _ (by rw[List.length_set,List.length_set,dM]) ?_)
 ·simp only[List.mem_cons,List.not_mem_nil,or_false]at hd;rcases hd with rfl|rfl<;>trivial
 ·match j,ha,hd with
  | 0,ha,hd =>
   simp only[List.getElem?_cons_zero,Option.some.injEq]at ha hd;subst ha;subst hd;exact .refl _
  | 1,ha,hd =>
   simp only[List.getElem?_cons_succ,List.getElem?_cons_zero,Option.some.injEq]at ha hd;subst ha;subst hd;refine bY.os hA (fun x hx=>?_) (by simp) ?_
   ·obtain⟨b,_,rfl⟩:=List.mem_map.1 hx;rfl
   have Jh:=mH (bs++T);rw[List.length_append]at Jh;rw[List.drop_zero,List.take_of_length_le (by omega)];exact yp (bs++T)
  | j+2,ha,hd=>simp at ha
 rw[List.getElem?_set_self (by rw[List.length_set];exact I hf.1)]
theorem LI{ids:List Nat}{bs:List Block}{T:List ae}{k id:Nat}{b:Block}(h1:ids[k]?=some id)(h2:bs[k]?=some b):(eF ids bs++T)[k*7+6]?=some (rj id b.term.to):=by
 have h3:=Ex h1 h2;have h4:(((eF ids bs).drop (k*7)).take 7)[6]?=some (rj id b.term.to):=by
  rw[h3];rfl
 rw[List.getElem?_take,if_pos (by omega),List.getElem?_drop]at h4;rw[List.getElem?_append_left (I h4)];exact h4
theorem LH(id:Nat)(b:Block)(l:List Edge)(h:l.length=b.term.to.length):we id (fS b l)=we id b:=by
 unfold we fS rj;simp only;by_cases q:b.term.to=[]
 ·rw[if_pos q,if_pos (by rw[q]at h;exact List.length_eq_zero_iff.1 h)]
 rw[if_neg q,if_neg (fun r=>q (by rw[r]at h;exact List.length_eq_zero_iff.1 h.symm)),h]
theorem Ao:∀{ids:List Nat} {bs:List Block} {fj:List (List Edge)},fj.length=bs.length->(∀(k:Nat) b l,bs[k]?=some b->fj[k]?=some l->l.length=b.term.to.length)->eF ids (List.zipWith fS bs fj)=eF ids bs
 | [],_,_,_,_=>by simp[eF]
 | _::_,[],[],_,_=>rfl
 | i::ids,b::bs,l::fj,h,hl=>by
  have e1:eF (i::ids) (List.zipWith fS (b::bs) (l::fj))=we i (fS b l)++eF ids (List.zipWith fS bs fj):=rfl;have e2:eF (i::ids) (b::bs)=we i b++eF ids bs:=rfl;rw[e1,e2,LH i b l (hl 0 b l rfl rfl),Ao (by simpa using h) fun k b l h1 h2=>hl (k+1) b l (by simpa using h1) (by simpa using h2)]
 | _::_,[],_::_,h,_=>by simp at h
 | _::_,_::_,[],h,_=>by simp at h
theorem LZ{es:List Edge}{n:Nat}(h:n<es.length)(e:Edge):bp (j7 es) (n*2) [aI e.block,a7 e.args]=j7 (es.set n e):=by
 have hl:=lq es;have hx:es[n]?=some es[n]:=List.getElem?_eq_getElem h;have hlen:(j7 (es.take n)).length=n*2:=by rw[lq,List.length_take];omega
 have e1:es=es.take n++es[n]::es.drop (n+1):=by rw[<-bA hx,List.take_append_drop]
 have e2:j7 es=j7 (es.take n)++(aI es[n].block::a7 es[n].args::j7 (es.drop (n+1))):=by
  conv=>lhs;rw[e1]
  rw[pS];rfl
 have e3:j7 (es.set n e)=j7 (es.take n)++(aI e.block::a7 e.args::j7 (es.drop (n+1))):=by
  have:es.set n e=es.take n++e::es.drop (n+1):=by
   conv=>lhs;rw[e1]
   rw[List.set_append_right _ _ (by rw[List.length_take];omega),List.length_take,show n-min n es.length=0 by omega];rfl
  rw[this,pS];rfl
 rw[e3];apply List.ext_getElem?;intro i;rw[jo (by rw[hl];simp;omega),e2];simp only[List.length_cons,List.length_nil];by_cases h1:i<n*2
 ·rw[if_neg (by omega),List.getElem?_append_left (by omega),List.getElem?_append_left (by omega)]
 by_cases h2:i<n*2+2
 ·rw[if_pos (by omega),List.getElem?_append_right (by omega),hlen];rcases(show i=n*2∨i=n*2+1 by omega)with q|q
  ·subst q;rw[Nat.sub_self];rfl
  subst q;rw[show n*2+1-n*2=1 by omega];rfl
 rw[if_neg (by omega),List.getElem?_append_right (by omega),List.getElem?_append_right (by omega),hlen];obtain⟨j,hj⟩:∃j,i-n*2=j+2:=⟨i-n*2-2,by omega⟩
 rw[hj];rfl
theorem FI(l:List Int):(l.map aI).map ae.share=l.map aI:=by
 rw[List.map_map];rfl
theorem uG(l:List Int)(hl:l.length<=2 ^ 43):bq Tryz.prog 36 [a7 l] (a7 l):=by
 have hs:=FI l;refine zf true 0 Tryz.func36 Tryz.ntmps36 ?_;dsimp only[Tmp,TypeId,slotsOf];refine az (ah ?_);refine HV 0 rfl (fun hn=>?_) ?_
 ·simp -dsimp only[simprocAttr,↓aa,zp];refine ck (ah ?_);refine cY rfl ?_;refine az (ah ?_);refine aq ?_;simp -dsimp only[simprocAttr,↓aa,zp,zr,Tryz.results36];exact⟨trivial,by show ae.aB 1 [] nH.sh=.aB 1 (l.map aI) .sh;rw[hn]⟩
 simp -dsimp only[simprocAttr,↓aa,zp];refine ck (ah ?_);refine cm rfl ?_;refine ct ?_;refine aU ?_;simp -dsimp only[simprocAttr,↓aa,zp,hs]
 repeat(refine⟨by omega,?_⟩)
 refine ah ?_;refine aq ?_;simp -dsimp only[simprocAttr,↓aa,zp,zr,Tryz.results36]
structure Cx where
 k:Nat
 dF:Nat
 ids:List Nat
 O:List ai
structure Ci where
 j:Nat
 O:List ai
structure Ce where
 z:Nat
 tid:Nat
 O:List ai
theorem Jy{l:List Ins}{j:Nat}{i:Ins}(h:l[j]?=some i):(l.take (j+1)).map Ins.enc=(l.take j).map Ins.enc++[i.enc]:=by
 rw[List.take_add_one,h,List.map_append];rfl
theorem JX(O:List ai)(C0:List ae):(O++[ai.cells C0]++[ai.spare 0]).set O.length (.cells (C0.set 1 (.aB 4 [] (.tok (O++[ai.cells C0]).length))))=O++[.cells (C0.set 1 (.aB 4 [] (.tok (O.length+1)))),.spare 0]:=by simp
abbrev ui(id:Nat)(b:Block)(l:List ae)(t:ae):List ae:=[a7 b.params,.aB 4 l (.tok id),aI b.term.kind,aI b.term.arg,aI b.term.n,a7 b.term.cases,t]
abbrev lZ(id:Nat)(b:Block)(l:List Ins)(t:ae):List ae:=[a7 b.params,.aB 4 (l.map Ins.enc) (.tok id),aI b.term.kind,aI b.term.arg,aI b.term.n,a7 b.term.cases,t]
theorem l4{n id:Nat}(b:Block)(l:List Ins){t:ae}(h:id<n)(ht:t.upto n):av n (lZ id b l t):=⟨⟨ax _ _,trivial⟩,⟨Ins.ak _ _,h⟩,trivial,trivial,trivial,⟨ax _ _,trivial⟩,ht,trivial⟩
theorem FX(f:Func)(hs:Xx f)(bD:f.blocks≠[]):bh Tryz.prog 33 [.gone,.cells [aI 0,.aB 7 [] .ex]] [f.enc] (Vg f):=by
 have hZ:=fun(l:List Int) (h:l.length<=4096)=>uG l (by omega);have OG:=CK f;have hn:=hs.few;obtain⟨N,hN⟩:∃N,N=f.blocks.length:=⟨_,rfl⟩
 rw[<-hN]at hn;refine oN hT Tryz.func33 rfl (by kernel_rfl) (by simp[Tryz.ntmps33]) ?_;show cn Tryz.prog _ _ _ ⟨83,_,_⟩;dsimp only[Tmp,TypeId,slotsOf];refine az (ah ?_);refine aC 1 2 (.ip none [aI f.name,aw f.blocks]) rfl (by simp[ai.aD]) trivial rfl ?_ ?_;rotate_left;simp -dsimp only[simprocAttr,↓aa,zp]
 ·refine az (ah ?_);refine cK ?_;simp -dsimp only[simprocAttr,↓aa,zp,<-hN];refine ah ?_;show cn Tryz.prog _ _ _ ⟨_,_,[.gone,.cells [aI 0,.aB 7 [] .ex],.gone,.cells [aI 0,.aB 7 [] .ex],.cells [aI f.name,.aB 7 [] .ex]]⟩;generalize [ai.gone,.cells [aI 0,.aB 7 [] .ex],.gone,.cells [aI 0,.aB 7 [] .ex],.cells [aI f.name,.aB 7 [] .ex]]=O0 at *;refine ag (aM (ι:={X:Cx // X.k<=N∧Lz f (f.blocks.take X.k) X.dF X.ids X.O}) (fun X=>⟨83,[(1,.ip none [aI f.name,aw f.blocks]),(2,.mp 3 0),(3,.mp 4 0),(15,aw f.blocks),(16,aI N),(17,aI X.1.k)],X.1.O⟩) (fun X=>N-X.1.k) ⟨⟨0,0,[],O0⟩,by simp,OG⟩ ?_ ?_)
  ·refine zq rfl ?_ ?_;simp -dsimp only[simprocAttr,↓aa,zp,zc]
   all_goals rfl
  rintro⟨⟨k,dF,ids,O⟩,hk,hS⟩;simp only at hk hS;refine az (ah ?_);apply ic rfl<;>intro h
  ·refine ct ?_;have a8:k<N:=by simpa using h
   obtain⟨b,hb⟩:∃b,f.blocks[k]?=some b:=⟨f.blocks[k]'(by omega),List.getElem?_eq_getElem _⟩
   have AX:=List.mem_of_getElem? hb;have jf:f.blocks.take (k+1)=f.blocks.take k++[b]:=by rw[List.take_add_one,hb];rfl
   have S3:=hs.params b AX;have hbi:=hs.ins b AX;have ZD:=hs.Pn b AX;have ZE:=hs.cases b AX;have ZF:=hs.to b AX;have P4:=hs.OA b AX;have RS:=hZ b.params (by omega);have P6:=hZ b.term.cases (by omega);have Vr:=I hS.r3;have YX:=I hS.out;refine aG (ag ?_);refine aU ?_;simp -dsimp only[simprocAttr,↓aa,zp,hb];refine ah ?_;refine aK 5 ([a7 b.params,bW b.ins,aI b.term.kind,aI b.term.arg,aI b.term.n,a7 b.term.cases,aH b.term.to]) [(1,.ip none [aI f.name,aw f.blocks]),(2,.mp 3 0),(3,.mp 4 0),(15,aw f.blocks),(16,aI N),(17,aI k),(5,.ip none [a7 b.params,bW b.ins,aI b.term.kind,aI b.term.arg,aI b.term.n,a7 b.term.cases,aH b.term.to])] (by simp[bt,bc,Go.Av.look]) (by rfl) (by omega) (by simp[bt,bc,Go.Av.look]) ?_ ?_ ?_
   ·exact hS.up
   ·simp[ae.upto,av,ax,Edge.ak,Ins.ak,Block.ak,Vr,YX]
   refine az ?_;refine zi RS ?_;refine⟨ob (by kernel_rfl),?_⟩;refine ah ?_;refine jH O.length 1 (sz:=4) (xs:=[]) (dI _ _) rfl ?_;show cn Tryz.prog _ _ _ ⟨_,_,(O++[ai.cells [a7 b.params,.aB 4 [] .ex,aI b.term.kind,aI b.term.arg,aI b.term.n,a7 b.term.cases,aH b.term.to]]++[ai.spare 0]).set O.length (.cells ([a7 b.params,.aB 4 [] .ex,aI b.term.kind,aI b.term.arg,aI b.term.n,a7 b.term.cases,aH b.term.to].set 1 (.aB 4 [] (.tok (O++[ai.cells [a7 b.params,.aB 4 [] .ex,aI b.term.kind,aI b.term.arg,aI b.term.n,a7 b.term.cases,aH b.term.to]]).length))))⟩;rw[JX];have hI:=Hw.start hS.up (cs:=lZ (O.length+1) b [] (aH b.term.to)) (l4 b [] (by omega) ⟨Edge.ak _ _,trivial⟩);show cn Tryz.prog _ _ _ ⟨_,_,O++[ai.cells (lZ (O.length+1) b [] (aH b.term.to)),.spare 0]⟩;generalize O++[ai.cells (lZ (O.length+1) b [] (aH b.term.to)),.spare 0]=O2 at *;refine ck (ah ?_);refine ag (aM (ι:={X:Ci // X.j<=b.ins.length∧Hw O (lZ (O.length+1) b (b.ins.take X.j) (aH b.term.to)) X.j X.O}) (fun X=>⟨83,[(1,.ip none [aI f.name,aw f.blocks]),(2,.mp 3 0),(3,.mp 4 0),(15,aw f.blocks),(16,aI N),(17,aI k),(5,.ip none [a7 b.params,bW b.ins,aI b.term.kind,aI b.term.arg,aI b.term.n,a7 b.term.cases,aH b.term.to]),(6,.mp O.length 0),(28,bW b.ins),(29,aI b.ins.length),(30,aI X.1.j)],X.1.O⟩) (fun X=>b.ins.length-X.1.j) ⟨⟨0,O2⟩,by simp,hI⟩ ?_ ?_)
   ·refine zq rfl ?_ ?_;simp -dsimp only[simprocAttr,↓aa,zp,zc]
    all_goals rfl
   rintro⟨⟨j,O2⟩,hj,hI⟩;simp only at hj hI;have hI2:=hI.len;refine az (ah ?_);apply ic rfl<;>intro h
   ·refine ct ?_;have Jd:j<b.ins.length:=by simpa using h
    obtain⟨i,hi⟩:∃i,b.ins[j]?=some i:=⟨b.ins[j],by simp[Jd]⟩
    have P7:=hZ i.args (by have:=ZD i (List.mem_of_getElem? hi);omega);have dp:=hI.cell;have nv:=hI.sp;have lx:(b.ins.take j).length=j:=by rw[List.length_take];omega
    refine aG (ag ?_);refine aU ?_;simp -dsimp only[simprocAttr,↓aa,zp,hi];refine ah ?_;refine az ?_;refine zi P7 ?_;refine ah ?_;refine aK 8 ([aI i.to,aI i.op,aI i.n,a7 i.args]) [(1,.ip none [aI f.name,aw f.blocks]),(2,.mp 3 0),(3,.mp 4 0),(15,aw f.blocks),(16,aI N),(17,aI k),(5,.ip none [a7 b.params,bW b.ins,aI b.term.kind,aI b.term.arg,aI b.term.n,a7 b.term.cases,aH b.term.to]),(6,.mp O.length 0),(28,bW b.ins),(29,aI b.ins.length),(30,aI j),(8,.ip none [aI i.to,aI i.op,aI i.n,a7 i.args])] (by simp[bt,bc,Go.Av.look]) (by rfl) (by omega) (by simp[bt,bc,Go.Av.look]) ?_ ?_ ?_
    ·exact hI.up
    ·have UN:=I dp;simp[ae.upto,av,ax,Edge.ak,Ins.ak,Block.ak,UN,show 3<O2.length by omega,show 4<O2.length by omega]
    have pX:∀y,(O2.set (O.length+1) y)[O.length]?=some (.cells (lZ (O.length+1) b (b.ins.take j) (aH b.term.to))):=fun y=>by rw[List.getElem?_set_ne (by omega)];exact dp
    refine jD ?_;simp -dsimp only[simprocAttr,↓aa,zp,dp,pX,nv,lZ,List.length_map,lx]
    repeat(refine⟨by omega,?_⟩)
    refine ah ?_;have hIn:=(hI.room (j+1)).one (cs':=lZ (O.length+1) b (b.ins.take (j+1)) (aH b.term.to)) (l4 b _ (by omega) ⟨Edge.ak _ _,trivial⟩);show cn Tryz.prog _ _ _ ⟨_,_,(O2.set (O.length+1) (ai.spare (j+1))).set O.length (.cells (ui (O.length+1) b ((b.ins.take j).map Ins.enc++[i.enc]) (aH b.term.to)))⟩;rw[<-Jy hi];have hIn:Hw O _ _ ((O2.set (O.length+1) (ai.spare (j+1))).set O.length (.cells (ui (O.length+1) b ((b.ins.take (j+1)).map Ins.enc) (aH b.term.to)))):=hIn;generalize (O2.set (O.length+1) (ai.spare (j+1))).set O.length (.cells (ui (O.length+1) b ((b.ins.take (j+1)).map Ins.enc) (aH b.term.to)))=O5 at *;refine cC ?_
    repeat(refine⟨by omega,?_⟩)
    refine eX ?_;refine⟨⟨⟨j+1,O5⟩,Jd,hIn⟩,by simp;omega,?_⟩;refine zq rfl ?_ ?_;simp -dsimp only[simprocAttr,↓aa,zp,zc]
    ·exact Sub.int (by simp)
    rfl
   refine aF ?_;simp -dsimp only[bF,ne_eq,Nat.reduceEqDiff,reduceCtorEq];have OO:b.ins.length<=j:=by
    have:=of_decide_eq_false h;omega
   rw[List.take_of_length_le OO]at hI;have dp:=hI.cell;refine aU ?_;simp -dsimp only[simprocAttr,↓aa,zp,dp];refine .inl ⟨_,P6,by simp only[av,ae.upto,zt,zu,ax],ao ?_⟩;simp -dsimp only[simprocAttr,↓aa,zp,dp];refine ah ?_;have hIn:=hI.one (cs':=lZ (O.length+1) b b.ins (aH b.term.to)) (l4 b _ (by omega) ⟨Edge.ak _ _,trivial⟩);show cn Tryz.prog _ _ _ ⟨_,_,O2.set O.length (.cells (lZ (O.length+1) b b.ins (aH b.term.to)))⟩;generalize O2.set O.length (.cells (lZ (O.length+1) b b.ins (aH b.term.to)))=O5 at *;have dp:=hIn.cell;refine aU ?_;simp -dsimp only[simprocAttr,↓aa,zp,dp];refine ah ?_;have YV:=hIn.len;have MF:lZ (O.length+1) b b.ins (.aB 2 [] .ex)=[a7 b.params,.aB 4 (b.ins.map Ins.enc) (.tok (O.length+1)),aI b.term.kind,aI b.term.arg,aI b.term.n,a7 b.term.cases,.aB 2 [] .ex]:=rfl;refine sD O.length (lZ (O.length+1) b b.ins (.aB 2 [] .ex)) (List.getElem?_set_self (by omega)) rfl (fun d hd=>?_) (fun j c d hc hd=>?_) ?_
   ·simp only[lZ,ui,List.mem_cons,List.not_mem_nil,or_false]at hd;rcases hd with rfl|rfl|rfl|rfl|rfl|rfl|rfl<;>trivial
   ·match j,hc,hd with
    | 0,hc,hd=>exact Sub.of_eq (by simpa[lZ,ui]using hc.symm.trans hd)
    | 1,hc,hd=>exact Sub.of_eq (by simpa[lZ,ui]using hc.symm.trans hd)
    | 2,hc,hd=>exact Sub.of_eq (by simpa[lZ,ui]using hc.symm.trans hd)
    | 3,hc,hd=>exact Sub.of_eq (by simpa[lZ,ui]using hc.symm.trans hd)
    | 4,hc,hd=>exact Sub.of_eq (by simpa[lZ,ui]using hc.symm.trans hd)
    | 5,hc,hd=>exact Sub.of_eq (by simpa[lZ,ui]using hc.symm.trans hd)
    | 6,hc,hd =>
     simp only[lZ,ui,List.getElem?_cons_succ,List.getElem?_cons_zero,Option.some.injEq]at hc hd;subst hc;subst hd;exact Sub.MS 2
    | j+7,hc,hd=>simp at hc
   rw[List.set_set];have hE:=Ly.start (cs:=lZ (O.length+1) b b.ins) (hIn.one (cs':=lZ (O.length+1) b b.ins (.aB 2 [] .ex)) (l4 b _ (by omega) ⟨trivial,trivial⟩));generalize O5.set O.length (.cells (lZ (O.length+1) b b.ins (.aB 2 [] .ex)))=O6 at *;refine ck (ah ?_);refine ag (aM (ι:={X:Ce // X.z<=b.term.to.length∧Ly O (lZ (O.length+1) b b.ins) X.tid (b.term.to.take X.z) X.O}) (fun X=>⟨83,[(1,.ip none [aI f.name,aw f.blocks]),(2,.mp 3 0),(3,.mp 4 0),(15,aw f.blocks),(16,aI N),(17,aI k),(5,.ip none [a7 b.params,bW b.ins,aI b.term.kind,aI b.term.arg,aI b.term.n,a7 b.term.cases,aH b.term.to]),(6,.mp O.length 0),(55,aH b.term.to),(56,aI b.term.to.length),(57,aI X.1.z)],X.1.O⟩) (fun X=>b.term.to.length-X.1.z) ⟨⟨0,0,O6⟩,by simp,hE⟩ ?_ ?_)
   ·refine zq rfl ?_ ?_;simp -dsimp only[simprocAttr,↓aa,zp,zc]
    all_goals rfl
   rintro⟨⟨z,tid,O3⟩,hz,hE⟩;simp only at hz hE;have hE2:=hE.len;refine az (ah ?_);apply ic rfl<;>intro h
   ·refine ct ?_;have mf:z<b.term.to.length:=by simpa using h
    obtain⟨e,he⟩:∃e,b.term.to[z]?=some e:=⟨b.term.to[z],by simp[mf]⟩
    have IZ:=hZ e.args (P4 e (List.mem_of_getElem? he));have dp:=hE.cell;have Pd:b.term.to.take (z+1)=b.term.to.take z++[e]:=by rw[List.take_add_one,he];rfl
    have lx:(b.term.to.take z).length=z:=by rw[List.length_take];omega
    have UN:=I dp;refine aG (ag ?_);refine aU ?_;simp -dsimp only[simprocAttr,↓aa,zp,he];refine ah ?_;refine aK 10 ([aI e.block,a7 e.args]) [(1,.ip none [aI f.name,aw f.blocks]),(2,.mp 3 0),(3,.mp 4 0),(15,aw f.blocks),(16,aI N),(17,aI k),(5,.ip none [a7 b.params,bW b.ins,aI b.term.kind,aI b.term.arg,aI b.term.n,a7 b.term.cases,aH b.term.to]),(6,.mp O.length 0),(55,aH b.term.to),(56,aI b.term.to.length),(57,aI z),(10,.ip none [aI e.block,a7 e.args])] (by simp[bt,bc,Go.Av.look]) (by rfl) (by omega) (by simp[bt,bc,Go.Av.look]) ?_ ?_ ?_
    ·exact hE.up
    ·simp[ae.upto,av,ax,Edge.ak,Ins.ak,Block.ak,UN,show 3<O3.length by omega,show 4<O3.length by omega]
    by_cases Se:b.term.to.take z=[]
    ·have R3:Bv tid (b.term.to.take z)=.aB 2 [] .ex:=if_pos Se;rw[R3]at dp;have pX:∀X,(O3++X)[O.length]?=some (.cells (lZ (O.length+1) b b.ins (.aB 2 [] .ex))):=fun X=>bS dp;refine Lt ?_;simp -dsimp only[simprocAttr,↓aa,zp,dp,pX,lZ,c4,c8]
     repeat(refine⟨by omega,?_⟩)
     refine .inl ⟨_,IZ,by simp only[av,ae.upto,zt,zu,ax],ao ?_⟩;simp -dsimp only[simprocAttr,↓aa,zp,dp,pX,lZ,c4,c8]
     repeat(refine⟨by omega,?_⟩)
     refine⟨trivial,?_⟩;refine⟨ob (by kernel_rfl),?_⟩;refine ah ?_;have lP:Ly O (lZ (O.length+1) b b.ins) O3.length (b.term.to.take z++[e]) ((O3++[ai.cells [aI e.block,a7 e.args]]).set O.length (.cells (lZ (O.length+1) b b.ins (.os O3.length 1 2)))):=hE.push e (fun v n hv hn=>l4 b _ (by omega) hv) rfl hE.up (fun _ _=>rfl) (by rw[Se];rfl) (by rw[Se];rfl);show cn Tryz.prog _ _ _ ⟨_,_,(O3++[ai.cells [aI e.block,a7 e.args]]).set O.length (.cells (lZ (O.length+1) b b.ins (.os O3.length 1 2)))⟩;generalize (O3++[ai.cells [aI e.block,a7 e.args]]).set O.length (.cells (lZ (O.length+1) b b.ins (.os O3.length 1 2)))=O7 at *;refine cC ?_
     repeat(refine⟨by omega,?_⟩)
     refine eX ?_;refine⟨⟨⟨z+1,O3.length,O7⟩,mf,by rw[Pd];exact lP⟩,by simp;omega,?_⟩;refine zq rfl ?_ ?_;simp -dsimp only[simprocAttr,↓aa,zp,zc]
     ·exact Sub.int (by simp)
     rfl
    obtain⟨o1,o2⟩:=hE.own Se;have R3:Bv tid (b.term.to.take z)=.os tid z 2:=by
     unfold Bv;rw[if_neg Se,lx]
    rw[R3]at dp;have pX:∀X,(O3.set tid .gone++X)[O.length]?=some (.cells (lZ (O.length+1) b b.ins (.os tid z 2))):=fun X=>bS (aW dp (by omega));have zV:(j7 (b.term.to.take z)).take (z*2)=j7 (b.term.to.take z):=List.take_of_length_le (by rw[lq];omega);have EO:=lq (b.term.to.take z);rw[lx]at EO;refine jD ?_;simp -dsimp only[simprocAttr,↓aa,zp,dp,pX,lZ,o2,zV,EO,c4,c8]
    repeat(refine⟨by omega,?_⟩)
    refine .inl ⟨_,IZ,by simp only[av,ae.upto,zt,zu,ax],ao ?_⟩;simp -dsimp only[simprocAttr,↓aa,zp,dp,pX,lZ,o2,zV,EO,c4,c8]
    repeat(refine⟨by omega,?_⟩)
    refine⟨trivial,?_⟩;refine⟨ob (by kernel_rfl),?_⟩;refine ah ?_;have lP:Ly O (lZ (O.length+1) b b.ins) O3.length (b.term.to.take z++[e]) ((O3.set tid .gone++[ai.cells (j7 (b.term.to.take z)++[aI e.block,a7 e.args])]).set O.length (.cells (lZ (O.length+1) b b.ins (.os O3.length (z+1) 2)))):=hE.push (O4:=O3.set tid .gone) e (fun v n hv hn=>l4 b _ (by omega) hv) (List.length_set) (bg hE.up trivial) (fun k hk=>by rw[List.getElem?_set_ne (Ne.symm (hk Se))]) (by rw[IA]) (by rw[lx]);show cn Tryz.prog _ _ _ ⟨_,_,(O3.set tid .gone++[ai.cells (j7 (b.term.to.take z)++[aI e.block,a7 e.args])]).set O.length (.cells (lZ (O.length+1) b b.ins (.os O3.length (z+1) 2)))⟩;generalize (O3.set tid .gone++[ai.cells (j7 (b.term.to.take z)++[aI e.block,a7 e.args])]).set O.length (.cells (lZ (O.length+1) b b.ins (.os O3.length (z+1) 2)))=O7 at *;refine cC ?_
    repeat(refine⟨by omega,?_⟩)
    refine eX ?_;refine⟨⟨⟨z+1,O3.length,O7⟩,mf,by rw[Pd];exact lP⟩,by simp;omega,?_⟩;refine zq rfl ?_ ?_;simp -dsimp only[simprocAttr,↓aa,zp,zc]
    ·exact Sub.int (by simp)
    rfl
   refine aF ?_;simp -dsimp only[bF,ne_eq,Nat.reduceEqDiff,reduceCtorEq];have rM:b.term.to.length<=z:=by
    have:=of_decide_eq_false h;omega
   rw[List.take_of_length_le rM]at hE;have dp:=hE.cell;have jO:=hS.out;have Qn:=hE.lQ 4 (by omega);rw[jO]at Qn;have QI:(f.blocks.take k).length=k:=by rw[List.length_take];omega
   have nS:=hE.own;have UN:=I dp;by_cases vU:f.blocks.take k=[]
   ·have tD:vj dF (f.blocks.take k)=.aB 7 [] .ex:=if_pos vU;rw[tD]at Qn;have Qo:∀X,(O3++X)[4]?=some (.cells [aI f.name,.aB 7 [] .ex]):=fun X=>bS Qn;refine Lt ?_;simp -dsimp only[simprocAttr,↓aa,zp,dp,lZ,Qn,Qo,c4,c8,vm,vl]
    repeat(refine⟨by omega,?_⟩)
    refine⟨trivial,?_⟩;refine ah ?_;have lP:Lz f (f.blocks.take k++[b]) O3.length (ids++[tid]) ((O3++[ai.cells (we tid b)]).set 4 (.cells [aI f.name,.os O3.length 1 7])):=hS.snoc (by omega) hE.up (fun k hk _=>hE.lQ k hk) (fun q=>⟨by have:=(nS q).1;omega,(nS q).2⟩) (by rw[xe hS.cp.li,vU];simp[eF]) (by rw[vU];rfl);show cn Tryz.prog _ _ _ ⟨_,_,(O3++[ai.cells (we tid b)]).set 4 (.cells [aI f.name,.os O3.length 1 7])⟩;generalize (O3++[ai.cells (we tid b)]).set 4 (.cells [aI f.name,.os O3.length 1 7])=O7 at *;refine cC ?_
    repeat(refine⟨by omega,?_⟩)
    refine eX ?_;refine⟨⟨⟨k+1,O3.length,ids++[tid],O7⟩,a8,by rw[jf];exact lP⟩,by simp;omega,?_⟩;refine zq rfl ?_ ?_;simp -dsimp only[simprocAttr,↓aa,zp,zc]
    ·exact Sub.int (by simp)
    rfl
   obtain⟨b1,b2⟩:=hS.blk vU;have q8:=I b2;have b3:=hE.lQ dF q8;rw[b2]at b3;have tD:vj dF (f.blocks.take k)=.os dF k 7:=by
    unfold vj;rw[if_neg vU,QI]
   rw[tD]at Qn;have Qo:∀X,(O3.set dF .gone++X)[4]?=some (.cells [aI f.name,.os dF k 7]):=fun X=>bS (aW Qn (by omega));have S0:=nJ hS.cp.li;rw[QI]at S0;have zV:(eF ids (f.blocks.take k)).take (k*7)=eF ids (f.blocks.take k):=List.take_of_length_le (by omega);refine jD ?_;simp -dsimp only[simprocAttr,↓aa,zp,dp,lZ,Qn,Qo,b3,zV,S0,c4,c8,vm,vl]
   repeat(refine⟨by omega,?_⟩)
   refine⟨trivial,?_⟩;refine ah ?_;have lP:Lz f (f.blocks.take k++[b]) O3.length (ids++[tid]) ((O3.set dF .gone++[ai.cells (eF ids (f.blocks.take k)++we tid b)]).set 4 (.cells [aI f.name,.os O3.length (k+1) 7])):=by
    have:=hS.snoc (O1:=O3.set dF .gone) (b:=b) (tid:=tid) (by rw[List.length_set];omega) (by rw[List.length_set];exact bg hE.up trivial) (fun k hk Gm=>by rw[List.getElem?_set_ne (Ne.symm (Gm vU))];exact hE.lQ k hk) (fun q=>⟨by have:=(nS q).1;omega,by rw[List.getElem?_set_ne (by have:=(nS q).1;omega)];exact(nS q).2⟩) (xe hS.cp.li tid b).symm rfl;rw[List.length_set,QI]at this;exact this
   show cn Tryz.prog _ _ _ ⟨_,_,(O3.set dF .gone++[ai.cells (eF ids (f.blocks.take k)++we tid b)]).set 4 (.cells [aI f.name,.os O3.length (k+1) 7])⟩;generalize (O3.set dF .gone++[ai.cells (eF ids (f.blocks.take k)++we tid b)]).set 4 (.cells [aI f.name,.os O3.length (k+1) 7])=O7 at *;refine cC ?_
   repeat(refine⟨by omega,?_⟩)
   refine eX ?_;refine⟨⟨⟨k+1,O3.length,ids++[tid],O7⟩,a8,by rw[jf];exact lP⟩,by simp;omega,?_⟩;refine zq rfl ?_ ?_;simp -dsimp only[simprocAttr,↓aa,zp,zc]
   ·exact Sub.int (by simp)
   rfl
  refine aF ?_;simp -dsimp only[bF,ne_eq,Nat.reduceEqDiff,reduceCtorEq];have Tx:k=N:=by
   have:=of_decide_eq_false h;omega
  subst Tx;rw[List.take_of_length_le (by omega)]at hS;have jO:=hS.out;have R4:=hS.r3;have tD:vj dF f.blocks=.os dF f.blocks.length 7:=if_neg bD;rw[tD]at jO;have q8:=I (hS.blk bD).2;have hR:=hS.done bD (cs:=[aI f.name,.os dF f.blocks.length 7]) ⟨trivial,q8,trivial⟩;have Vr:=I R4;have WL:(O.set 3 (.cells [aI f.name,.os dF f.blocks.length 7]))[3]?=some (.cells [aI f.name,.os dF f.blocks.length 7]):=List.getElem?_set_self Vr;refine aU ?_;simp -dsimp only[simprocAttr,↓aa,zp,jO,R4];refine ah ?_;refine aq ?_;simp -dsimp only[simprocAttr,↓aa,zp,rN,Tryz.results33,en,kS,gE,gq,eY,fH,WL];exact hR
 exact bY.mp rfl rfl
theorem Xn{f:Func}(bJ:f.fit)(hc:aN f=0):Xx f:=by
 have hw:=cA bJ hc;have hg:=hw.gr;have nu:∀b∈f.blocks,b.params.length<=4096:=fun b hb=>by
  have:=(hw.blk b hb).few;omega
 exact {
  few:=hw.few
  params:=nu
  ins:=hw.ins
  Pn:=fun b hb i hi=>(yK ((hw.blk b hb).EI i hi)).len
  cases:=fun b hb=>(pT (hw.blk b hb).fin).cases
  to:=fun b hb=>hg.to b hb
  OA:=fun b hb e he=>by
   have h1:=(pT (hw.blk b hb).fin).ee e he;rw[h1.2];have hr:=hg.ee b hb e he;have hx:f.blocks[e.block.toNat]?=some (f.blocks[e.block.toNat]'(by omega)):=List.getElem?_eq_getElem _;have:aY f e.block=f.blocks[e.block.toNat]'(by omega):=by simp[aY,hx]
   rw[this];exact nu _ (List.getElem_mem _) }

end Go.Proofs.YtjdnhamngpafmaaGreat
namespace Go.Proofs.YtjdnhamngpafmaaGreat
open Go.Av
section
variable {f g:Func} {s:Int->Int} {β:Nat->Nat} {pre:Nat->List Ins}
end
end Go.Proofs.YtjdnhamngpafmaaGreat
namespace Go.Proofs.YtjdnhamngpafmaaGreat
open Go.Av
section
variable {u:cu} (bJ:u.fit) (hc:gF u=0)
include bJ hc
end
section
variable {u:cu} (bJ:u.fit) (hc:gF u=0)
include bJ hc
end
theorem F'(f:Func):0<=c5 f:=(sK (iu f) 0).1
section
variable {u:cu} (bJ:u.fit) (hc:gF u=0)
include bJ hc
end
end Go.Proofs.YtjdnhamngpafmaaGreat
namespace Go.Proofs.YtjdnhamngpafmaaGreat
open Go.Av
def MV(f:Func):ae:=if aN f=0 then(if 128<f.blocks.length+(xT f).1.news.length∨4096<(xT f).2 then .cx [.agg [aI 0,.aB 7 [] .sh],aI 2]else .cx [(cN f).enc,aI 0])else .cx [.agg [aI 0,.aB 7 [] .sh],aI (aN f)]
structure YQ where
 m:Nat
 S:Sp
 nx:Int
 dF:Nat
 O:List ai
theorem EE(n:Nat)(e:Edge):e.enc.upto n:=⟨trivial,⟨ax _ _,trivial⟩,trivial⟩
structure YR where
 k:Nat
 fj:List (List Edge)
 O:List ai
theorem lp(n:Nat)(l:List bd):av n (l.map iE):=by
 rw[aQ];intro c hc;obtain⟨x,_,rfl⟩:=List.mem_map.1 hc;exact⟨trivial,⟨ax _ _,trivial⟩,trivial,trivial⟩
theorem LY{es:List Edge}{n:Nat}{e:Edge}(h:es[n]?=some e)(N:Int):bp (j7 es) (n*2) [aI N]=j7 (es.set n ⟨N,e.args⟩):=by
 have hl:=I h;have h2:=LZ (es:=es) (n:=n) hl ⟨N,e.args⟩;rw[<-h2];obtain⟨q1,q2⟩:=PS h;have EO:=lq es;apply List.ext_getElem?;intro i;rw[jo (by rw[EO];simp;omega),jo (by rw[EO];simp;omega)];simp only[List.length_cons,List.length_nil];by_cases h3:n*2<=i∧i<n*2+(0+1)
 ·rw[if_pos h3,if_pos (by omega)];obtain rfl:i=n*2:=by omega
  simp
 rw[if_neg h3];by_cases h4:n*2<=i∧i<n*2+(0+1+1)
 ·rw[if_pos h4];obtain rfl:i=n*2+1:=by omega
  rw[q2];simp
 rw[if_neg h4]
theorem AT(n:Int)(k:Nat):cy n (k+1)=cy n k++[n+(k:Int)]:=by
 unfold cy;rw[List.range_succ,List.map_append];rfl
theorem uS(n:Int)(k:Nat):(cy n k).length=k:=by unfold cy;rw[List.length_map,List.length_range]
theorem G0(O:List ai)(C0:List ae):(O++[ai.cells C0]++[ai.spare ([]:List ae).length]).set O.length (.cells (C0.set 0 (.aB 1 [] (.tok (O++[ai.cells C0]).length))))=O++[.cells (C0.set 0 (.aB 1 [] (.tok (O.length+1)))),.spare 0]:=by simp
theorem J6(f:Func)(bJ:f.fit):bq Tryz.prog 12 [f.enc] (MV f):=by
 have HC:=find_spec f bJ;unfold EH at HC;unfold MV;by_cases hc:aN f=0
 ·rw[if_pos hc]at HC ⊢;have hv:=ig bJ hc;have hg:=hv.fn.gr;have Ub:=Xn bJ hc;have hn:f.blocks.length<=128:=hg.few;have RS:=FX f Ub hg.ne;have dK:=C5 f hv.vals bJ.2.1 fun b hb=>⟨(bJ.2.2 b hb).2.1,(bJ.2.2 b hb).2.2.1⟩
  have UY:=F' f;have ZS:c5 f<=4096:=sL (iu f) 0 (by omega) fun v Pg=>(hv.vals v Pg).2;have yS:=xL f;have TJ:∀(i:Nat) x,(gk f)[i]?=some x->vS f x:=fun i x h=>y0 (List.mem_of_getElem? h);have Gv:∀x,vS f x->sm f x<=4096:=fun x h=>by
   have hr:=h.rC;have:=(hv.fn.blk _ (dY (f:=f) (k:=x.head) hr.1 hr.2)).few;unfold sm;omega
  obtain⟨RR,Mh⟩:∃RR,RR=xT f:=⟨_,rfl⟩
  have nv:cN f=⟨f.name,List.zipWith fS f.blocks RR.1.fj++RR.1.news⟩:=by rw[Mh];rfl
  rw[nv,<-Mh];unfold xT at Mh;obtain⟨L,hL⟩:∃L,L=gk f:=⟨_,rfl⟩
  obtain⟨YK,EU⟩:∃n,n=c5 f:=⟨_,rfl⟩
  rw[<-hL]at HC Mh yS TJ;rw[<-EU]at dK Mh UY ZS;refine zf true 0 Tryz.func12 Tryz.ntmps12 ?_;dsimp only[Tmp,TypeId,slotsOf];refine az (ah ?_);refine aC 1 0 (.ip none [aI f.name,aw f.blocks]) rfl (by simp[ai.aD]) trivial rfl ?_ ?_;rotate_left;simp -dsimp only[simprocAttr,↓aa,zp];rotate_left
  ·exact bY.mp rfl rfl
  refine az ?_;refine zi HC ?_;refine ah ?_;refine ck (ah ?_);apply aP rfl<;>intro h
  ·cases h
  refine ct ?_;refine aG (lg ⟨false,false⟩ hT 1 rfl rfl rfl (by simp) ?_);simp -dsimp only[simprocAttr,↓aa,zp];refine⟨Vg f,ll rfl (by simp) rfl rfl RS,fun r O' hR=>?_⟩;obtain⟨ids,dF,hr,br,RX,mc,⟨P2,ZC⟩,OJ,bD⟩:=hR;subst hr;simp -dsimp only[simprocAttr,↓aa,zp];refine ah ?_;have OG:=Hy.start br mc ⟨P2,ZC⟩ OJ bD;generalize O'++[ai.cells [aI f.name,.os dF f.blocks.length 7]]=O0 at *;generalize O'.length=X0 at *;refine az ?_;refine zi dK ?_;refine ah ?_;refine ck (ah ?_);refine ag (aM (ι:={X:YQ // X.m<=L.length∧Hy f ids X0 X.S X.dF X.O∧RR=(L.drop X.m).foldl (qf f) (X.S,X.nx)∧X.S.news.length<=X.m∧(0<=X.nx∧X.nx<=4096+4096*(X.m:Int))}) (fun X=>⟨120,[(1,.ip none [aI f.name,aw f.blocks]),(2,.mp 1 0),(6,.mp X0 0),(7,aI X.1.nx),(27,.aB 3 (L.map iE) .sh),(28,aI L.length),(29,aI X.1.m)],X.1.O⟩) (fun X=>L.length-X.1.m) ⟨⟨0,Hl f,YK,dF,O0⟩,Nat.zero_le _,OG,Mh,Nat.le_refl _,⟨UY,by show YK<=4096+4096*((0:Nat):Int);omega⟩⟩ ?_ ?_)
  ·refine zq rfl ?_ ?_;simp -dsimp only[simprocAttr,↓aa,zp,zc]
   all_goals rfl
  rintro⟨⟨m,S,nx,dF,O⟩,hm,hS,de,TS,Wy⟩;simp only at hm hS de TS Wy;refine az (ah ?_);apply ic rfl<;>intro h
  ·refine ct ?_;have a8:m<L.length:=by simpa using h
   obtain⟨x,hx⟩:∃x,L[m]?=some x:=⟨L[m],List.getElem?_eq_getElem a8⟩
   have QN:=TJ m x hx;have Ju:=QN.rC;have W7:=Gv x QN;rw[bA hx,List.foldl_cons]at de;have Wz:=DS f x hg (Nat.le_trans (QN.few hg) hn);have iw:=fun p=>sj (f:=f) (x:=x) (p:=p);have VK:=I hS.out;have Lh:=I hS.bl.2;have RL:=I hS.r1;obtain⟨jh,Wh⟩:∃j:Nat,x.head=(j:Int):=⟨x.head.toNat,by omega⟩
   obtain⟨B,hB⟩:∃B,f.blocks[jh]?=some B:=⟨f.blocks[jh]'(by omega),List.getElem?_eq_getElem _⟩
   have XG:aY f x.head=B:=by rw[Wh];simp[aY,hB]
   have dG:qf f (S,nx) x=if iQ f x=true then(S,nx)else(⟨(gI f x).foldl (DZ ((f.blocks.length+S.news.length:Nat):Int)) S.fj,S.news++[sl x.head (cy nx B.params.length)]⟩,nx+B.params.length):=by
    unfold qf sm;rw[XG]
   have R6:iQ f x=match gI f x with
     | [p]=>decide ((aY f p.1).term.to.length=1)
     | _=>false:=rfl
   have hBp:B.params.length<=4096:=by
    unfold sm at W7;rw[XG]at W7;exact W7
   unfold iE at Wz;obtain⟨M,hM⟩:∃M,M=gI f x:=⟨_,rfl⟩
   rw[<-hM]at Wz dG R6 iw;refine aG (ag ?_);refine aU ?_;simp -dsimp only[simprocAttr,↓aa,zp,hx,iE]
   repeat(refine⟨by omega,?_⟩)
   refine ah ?_;refine aK 9 ([aI x.head,a7 x.blocks,aI x.parent]) [(1,.ip none [aI f.name,aw f.blocks]),(2,.mp 1 0),(6,.mp X0 0),(7,aI nx),(27,.aB 3 (L.map iE) .sh),(28,aI L.length),(29,aI m),(9,.ip none [aI x.head,a7 x.blocks,aI x.parent])] (by simp[bt,bc,Go.Av.look]) (by rfl) (by omega) (by simp[bt,bc,Go.Av.look]) ?_ ?_ ?_
   ·exact hS.up
   ·simp[ae.upto,av,ax,Edge.ak,Ins.ak,Block.ak,lp,VK,Lh,RL]
   refine az ?_;refine zi Wz ?_;refine ah ?_;have VB:∀p,p∈M->∃(k j:Nat) (b:Block) (e:Edge),f.blocks[k]?=some b∧b.term.to[j]?=some e∧p=((k:Int),(j:Int)):=fun p hp=>by
    obtain⟨k,j,b,e,q1,q2,q3,_⟩:=(iw p).1 hp;exact⟨k,j,b,e,q1,q2,q3⟩
   have Zn:M.length<=128*257:=by
    have:=y6 (x:=x) (k:=0) (l:=f.blocks) hg.to;rw[hM];unfold gI;omega
   by_cases hs:iQ f x=true
   ·rw[if_pos hs]at dG;rw[dG]at de;obtain⟨p,hp⟩:∃p,M=[p]:=by
     rw[R6]at hs
     match M,hs with
     | [p],_=>exact⟨p,rfl⟩
    rw[hp]at R6;rw[R6]at hs;obtain⟨k,j,b,e,q1,q2,rfl⟩:=VB p (by rw[hp];exact List.mem_cons_self);have RQ:aY f (k:Int)=b:=by simp[aY,q1]
    simp only[RQ]at hs;have g1:decide ((b.term.to.length:Int)=1)=true:=decide_eq_true (by have:=of_decide_eq_true hs;omega);rw[hp];refine cK ?_;simp -dsimp only[simprocAttr,↓aa,zp,eM,q1,g1,Int.toNat_natCast]
    repeat(refine⟨by omega,?_⟩)
    refine⟨ob (by kernel_rfl),?_⟩;refine ah ?_;refine cY rfl ?_;refine aF ?_;simp -dsimp only[bF,ne_eq,Nat.reduceEqDiff,reduceCtorEq];refine cC ?_
    repeat(refine⟨by omega,?_⟩)
    refine eX ?_;refine⟨⟨⟨m+1,S,nx,dF,O⟩,a8,hS,de,by simp only;omega,by simp only;omega⟩,by simp;omega,?_⟩;refine zq rfl ?_ ?_;simp -dsimp only[simprocAttr,↓aa,zp,zc]
    ·exact Sub.int (by simp)
    rfl
   rw[if_neg hs]at dG;rw[dG]at de;refine km (⟨120,[(1,.ip none [aI f.name,aw f.blocks]),(2,.mp 1 0),(6,.mp X0 0),(7,aI nx),(27,.aB 3 (L.map iE) .sh),(28,aI L.length),(29,aI m),(9,.ip none [aI x.head,a7 x.blocks,aI x.parent]),(10,.aB 2 (M.map eM) .sh)],O⟩) ?_ ?_
   ·by_cases h1:M.length=1
    ·obtain⟨p,hp⟩:=List.length_eq_one_iff.1 h1;obtain⟨k,j,b,e,q1,q2,rfl⟩:=VB p (by rw[hp];exact List.mem_cons_self);have RQ:aY f (k:Int)=b:=by simp[aY,q1]
     rw[hp]at R6;rw[R6]at hs;simp only[RQ]at hs;have g1:decide ((b.term.to.length:Int)=1)=false:=decide_eq_false (fun q=>hs (decide_eq_true (by omega)));rw[hp];refine aU ?_;simp -dsimp only[simprocAttr,↓aa,zp,eM,q1,g1,Int.toNat_natCast]
     repeat(refine⟨by omega,?_⟩)
     refine⟨ob (by kernel_rfl),?_⟩;refine ah ?_;refine cm rfl ?_;refine ba ?_;show bj _ _;refine zq rfl ?_ ?_;simp -dsimp only[simprocAttr,↓aa,zp,zc]
     all_goals rfl
    have g1:decide ((M.length:Int)=1)=false:=decide_eq_false (by omega);refine aU ?_;simp -dsimp only[simprocAttr,↓aa,zp,g1,List.length_map];refine⟨ob (by kernel_rfl),?_⟩;refine ah ?_;refine cm rfl ?_;refine ba ?_;show bj _ _;refine zq rfl ?_ ?_;simp -dsimp only[simprocAttr,↓aa,zp,zc]
    all_goals rfl
   refine az (ah ?_);refine cK ?_;simp -dsimp only[simprocAttr,↓aa,zp,Wh,hB,Int.toNat_natCast]
   repeat(refine⟨by omega,?_⟩)
   refine ah ?_;refine jH O.length 0 (by rw[tI];rfl) rfl ?_;rw[G0];refine ag (aM (ι:={z:Nat // z<=B.params.length}) (fun z=>⟨120,[(1,.ip none [aI f.name,aw f.blocks]),(2,.mp 1 0),(6,.mp X0 0),(7,aI (nx+(z.1:Int))),(27,.aB 3 (L.map iE) .sh),(28,aI L.length),(29,aI m),(9,.ip none [aI (jh:Int),a7 x.blocks,aI x.parent]),(10,.aB 2 (M.map eM) .sh),(11,.mp O.length 0),(60,aI B.params.length),(61,aI z.1)],O++[.cells [.aB 1 ((cy nx z.1).map aI) (.tok (O.length+1)),.aB 4 [] .ex,aI 0,aI 0,aI 0,.aB 1 [] .ex,.aB 2 [] .ex],.spare z.1]⟩) (fun z=>B.params.length-z.1) ⟨0,Nat.zero_le _⟩ ?_ ?_)
   ·refine zq rfl ?_ ?_;simp -dsimp only[simprocAttr,↓aa,zp,zc]
    all_goals rfl
   rintro⟨z,hz⟩;have gG:=uS nx z;refine az (ah ?_);apply ic rfl<;>intro h
   ·refine ct ?_;have mf:z<B.params.length:=by simpa using h
    refine aG (ag ?_);refine aU ?_;simp -dsimp only[simprocAttr,↓aa,zp,gG,List.length_map]
    repeat(refine⟨by omega,?_⟩)
    refine ah ?_;refine cC ?_
    repeat(refine⟨by omega,?_⟩)
    refine ah ?_;refine cC ?_
    repeat(refine⟨by omega,?_⟩)
    refine eX ?_;refine⟨⟨z+1,mf⟩,by simp;omega,?_⟩;have MK:(cy nx (z+1)).map aI=(cy nx z).map aI++[aI (nx+(z:Int))]:=by rw[AT,List.map_append];rfl
    simp only[MK];refine zq rfl ?_ ?_;simp -dsimp only[simprocAttr,↓aa,zp,zc]
    all_goals first|rfl|exact⟨Sub.int (by omega),Sub.int (by omega)⟩
   refine aF ?_;simp -dsimp only[bF,ne_eq,Nat.reduceEqDiff,reduceCtorEq];have rM:B.params.length=z:=by
    have:=of_decide_eq_false h;omega
   obtain⟨P,hP⟩:∃P,P=cy nx z:=⟨_,rfl⟩
   have VH:P.length=z:=by rw[hP,uS]
   rw[rM,<-hP]at de;rw[<-hP];refine sD (cs:=[.aB 1 (P.map aI) (.tok (O.length+1)),.aB 4 [] .ex,aI 0,aI 0,aI 0,.aB 1 [] .ex,.aB 2 [] .ex]) O.length [a7 P,.aB 4 [] .sh,aI 0,aI 0,aI 0,.aB 1 [] .sh,.aB 2 [] .sh] (by rw[tI];rfl) rfl (fun d hd=>?_) (fun j c d hc hd=>?_) ?_
   ·simp only[List.mem_cons,List.not_mem_nil,or_false]at hd;rcases hd with rfl|rfl|rfl|rfl|rfl|rfl|rfl<;>trivial
   ·match j,hc,hd with
    | 0,hc,hd | 1,hc,hd | 5,hc,hd | 6,hc,hd =>
     simp only[List.getElem?_cons_succ,List.getElem?_cons_zero,Option.some.injEq]at hc hd;subst hc;subst hd;exact fun _ _ _ k=>k.sd
    | 2,hc,hd | 3,hc,hd | 4,hc,hd=>exact Sub.of_eq (Option.some.inj (hc.symm.trans hd))
    | j+7,hc,hd=>simp at hc
   rw[BL];refine Eu 1 ([.cells [a7 P,.aB 4 [] .sh,aI 0,aI 0,aI 0,.aB 1 [] .sh,.aB 2 [] .sh]]) [(1,.ip none [aI f.name,aw f.blocks]),(2,.mp 1 0),(6,.mp X0 0),(7,aI (nx+(z:Int))),(27,.aB 3 (L.map iE) .sh),(28,aI L.length),(29,aI m),(9,.ip none [aI (jh:Int),a7 x.blocks,aI x.parent]),(10,.aB 2 (M.map eM) .sh),(11,.mp O.length 0)] rfl (by simp) (by omega) (by simp[bt,bc,Go.Av.look]) ?_ ?_ ?_ ?_
   ·exact fun o ho=>ai.bK (by omega) (hS.up o ho)
   ·intro o ho;rw[List.mem_singleton]at ho;subst ho;exact⟨⟨ax _ _,trivial⟩,⟨trivial,trivial⟩,trivial,trivial,trivial,⟨trivial,trivial⟩,⟨trivial,trivial⟩,trivial⟩
   ·simp[ae.upto,av,ax,oM,Edge.ak,Ins.ak,Block.ak,lp];omega
   refine az ?_;refine .inl ⟨_,(uG P (by omega)),by simp only[av,ae.upto,zt,zu,ax],ao ?_⟩;simp -dsimp only[simprocAttr,↓aa,zp];refine⟨ob (by kernel_rfl),?_⟩;refine ah ?_;refine aK 11 ([a7 P,.aB 4 [] .sh,aI 1,aI 0,aI 0,.aB 1 [] .sh,.aB 2 [(⟨(jh:Int),P⟩:Edge).enc] .sh]) [(1,.ip none [aI f.name,aw f.blocks]),(2,.mp 1 0),(6,.mp X0 0),(7,aI (nx+(z:Int))),(27,.aB 3 (L.map iE) .sh),(28,aI L.length),(29,aI m),(10,.aB 2 (M.map eM) .sh),(11,.ip none [a7 P,.aB 4 [] .sh,aI 1,aI 0,aI 0,.aB 1 [] .sh,.aB 2 [(⟨(jh:Int),P⟩:Edge).enc] .sh])] (by simp[bt,bc,Go.Av.look]) (by rfl) (by omega) (by simp[bt,bc,Go.Av.look]) ?_ ?_ ?_
   ·exact hS.up
   ·simp[ae.upto,av,ax,oM,Edge.ak,Ins.ak,Block.ak,lp,EE,VK,Lh,RL]
   refine ck (ah ?_);obtain⟨N,hN⟩:∃N,N=((f.blocks.length+S.news.length:Nat):Int):=⟨_,rfl⟩
   rw[<-hN]at de;have Di:∀(k:Nat) b,f.blocks[k]?=some b->∃l,S.fj[k]?=some l∧l.length=b.term.to.length:=fun k b hb=>by
    have A4:k<S.fj.length:=by rw[hS.w.len];exact I hb
    exact⟨_,List.getElem?_eq_getElem A4,hS.w.each k b _ hb (List.getElem?_eq_getElem A4)⟩
   refine ag (aM (ι:={X:YR // X.k<=M.length∧Hy f ids X0 ⟨X.fj,S.news⟩ dF X.O∧(M.drop X.k).foldl (DZ N) X.fj=M.foldl (DZ N) S.fj∧∀(k:Nat) b,f.blocks[k]?=some b->∃l,X.fj[k]?=some l∧l.length=b.term.to.length}) (fun X=>⟨120,[(1,.ip none [aI f.name,aw f.blocks]),(2,.mp 1 0),(6,.mp X0 0),(7,aI (nx+(z:Int))),(27,.aB 3 (L.map iE) .sh),(28,aI L.length),(29,aI m),(11,.ip none [a7 P,.aB 4 [] .sh,aI 1,aI 0,aI 0,.aB 1 [] .sh,.aB 2 [(⟨(jh:Int),P⟩:Edge).enc] .sh]),(81,.aB 2 (M.map eM) .sh),(82,aI M.length),(83,aI X.1.k)],X.1.O⟩) (fun X=>M.length-X.1.k) ⟨⟨0,S.fj,O⟩,Nat.zero_le _,hS,rfl,Di⟩ ?_ ?_)
   ·refine zq rfl ?_ ?_;simp -dsimp only[simprocAttr,↓aa,zp,zc]
    all_goals rfl
   rintro⟨⟨k4,fj,O4⟩,Wi,AU,Gi,Wk⟩;simp only at Wi AU Gi Wk;refine az (ah ?_);apply ic rfl<;>intro h
   ·refine ct ?_;have TG:k4<M.length:=by simpa using h
    obtain⟨p,hp⟩:∃p,M[k4]?=some p:=⟨M[k4],List.getElem?_eq_getElem TG⟩
    obtain⟨k,j,b,e,q1,q2,rfl⟩:=VB p (List.mem_of_getElem? hp);obtain⟨l,hl,yS⟩:=Wk k b q1;have A4:=I q1;have OO:=I q2;have Lq:b.term.to≠[]:=fun q=>by rw[q]at OO;simp at OO
    obtain⟨id,gC⟩:∃id,ids[k]?=some id:=⟨ids[k]'(by rw[AU.li];exact A4),List.getElem?_eq_getElem _⟩
    obtain⟨e',Gf⟩:∃e',l[j]?=some e':=⟨l[j]'(by omega),List.getElem?_eq_getElem _⟩
    rw[bA hp,List.foldl_cons]at Gi;have R5:DZ N fj ((k:Int),(j:Int))=fj.set k (l.set j ⟨N,e'.args⟩):=by
     unfold DZ;simp only[Int.toNat_natCast,hl,Option.getD_some,Gf]
    rw[R5]at Gi;obtain⟨o1,o2,o3,o4⟩:=AU.own k id b l gC q1 hl Lq;have Gl:=I o4;have EO:=lq l;have Zw:=I AU.out;have Y3:=I AU.bl.2;have HB:=I AU.r1;have jO:=AU.out;have q8:=AU.bl.2;have dp:=LI (T:=al (S.news.map Block.enc)) gC q1;have Lm:rj id b.term.to=.os id b.term.to.length 2:=if_neg Lq;rw[Lm]at dp;have hZ:(eF ids f.blocks++al (S.news.map Block.enc)).length=(f.blocks.length+S.news.length)*7:=by
     rw[List.length_append,nJ AU.li,mH];omega
    have xx:=LY Gf N;refine aG (ag ?_);refine aU ?_;simp -dsimp only[simprocAttr,↓aa,zp,hp,eM]
    repeat(refine⟨by omega,?_⟩)
    refine ah ?_;refine aK 13 ([aI (k:Int),aI (j:Int)]) [(1,.ip none [aI f.name,aw f.blocks]),(2,.mp 1 0),(6,.mp X0 0),(7,aI (nx+(z:Int))),(27,.aB 3 (L.map iE) .sh),(28,aI L.length),(29,aI m),(11,.ip none [a7 P,.aB 4 [] .sh,aI 1,aI 0,aI 0,.aB 1 [] .sh,.aB 2 [(⟨(jh:Int),P⟩:Edge).enc] .sh]),(81,.aB 2 (M.map eM) .sh),(82,aI M.length),(83,aI k4),(13,.ip none [aI (k:Int),aI (j:Int)])] (by simp[bt,bc,Go.Av.look]) (by rfl) (by omega) (by simp[bt,bc,Go.Av.look]) ?_ ?_ ?_
    ·exact AU.up
    ·simp[ae.upto,av,ax,oM,Edge.ak,Ins.ak,Block.ak,lp,EE,Zw,Y3,HB]
    refine jD ?_;simp -dsimp only[simprocAttr,↓aa,zp,jO,q8,dp,hZ,o4,EO,Int.toNat_natCast]
    repeat(refine⟨by omega,?_⟩)
    refine⟨bP [dF,X0,id] O4.length [.pure,.rd 1,.pure,.pure,.pure,.pure,.pure,.rd 0,.pure,.pure,.pure,.rd 1,.pure,.pure,.pure,.wr 3 [2]] (by have:=AU.xb;simp;omega) (by simp;omega) rfl rfl (by kernel_rfl),aV ?_⟩;simp only[<-hN,xx];have Zt:=AU.Vm gC q1 hl Lq (m:=l.set j ⟨N,e'.args⟩) (List.length_set);generalize O4.set id (.cells (j7 (l.set j ⟨N,e'.args⟩)))=O5 at *;refine cC ?_
    repeat(refine⟨by omega,?_⟩)
    refine eX ?_;refine⟨⟨⟨k4+1,fj.set k (l.set j ⟨N,e'.args⟩),O5⟩,TG,Zt,Gi,fun i c hc=>?_⟩,by simp;omega,?_⟩
    ·simp only;by_cases Ya:k=i
     ·subst Ya;rw[q1]at hc;obtain rfl:=Option.some.inj hc;exact⟨_,List.getElem?_set_self (I hl),by rw[List.length_set];exact yS⟩
     rw[List.getElem?_set_ne Ya];exact Wk i c hc
    refine zq rfl ?_ ?_;simp -dsimp only[simprocAttr,↓aa,zp,zc]
    ·exact Sub.int (by simp)
    rfl
   refine aF ?_;simp -dsimp only[bF,ne_eq,Nat.reduceEqDiff,reduceCtorEq];have Z2:k4=M.length:=by
    have:=of_decide_eq_false h;omega
   subst Z2;rw[List.drop_length,List.foldl_nil]at Gi;rw[<-Gi]at de;have jO:=AU.out;have q8:=AU.bl.2;have Ca:=AU.xb;have Qq:∀Y,(O4.set dF .gone++Y)[X0]?=some (.cells [aI f.name,.os dF (f.blocks.length+S.news.length) 7]):=fun Y=>bS (aW jO Ca);have hZ:(eF ids f.blocks++al (S.news.map Block.enc)).length=(f.blocks.length+S.news.length)*7:=by
    rw[List.length_append,nJ AU.li,mH];omega
   have zV:(eF ids f.blocks++al (S.news.map Block.enc)).take ((f.blocks.length+S.news.length)*7)=eF ids f.blocks++al (S.news.map Block.enc):=List.take_of_length_le (by omega);refine jD ?_;simp -dsimp only[simprocAttr,↓aa,zp,jO,Qq,q8,hZ,zV,c4,c8]
   repeat(refine⟨by omega,?_⟩)
   refine⟨trivial,?_⟩;refine ah ?_;rw[Wh]at de;have Zu:Hy f ids X0 ⟨fj,S.news++[sl (jh:Int) P]⟩ O4.length ((O4.set dF .gone++[ai.cells (eF ids f.blocks++(al (S.news.map Block.enc)++[a7 P,.aB 4 [] .sh,aI 1,aI 0,aI 0,.aB 1 [] .sh,.aB 2 [(⟨(jh:Int),P⟩:Edge).enc] .sh]))]).set X0 (.cells [aI f.name,.os O4.length (f.blocks.length+S.news.length+1) 7])):=by
    have:=AU.block (sl (jh:Int) P) rfl rfl;rw[List.append_assoc]at this;exact this
   show cn Tryz.prog _ _ _ ⟨_,_,(O4.set dF .gone++[ai.cells (eF ids f.blocks++(al (S.news.map Block.enc)++[a7 P,.aB 4 [] .sh,aI 1,aI 0,aI 0,.aB 1 [] .sh,.aB 2 [(⟨(jh:Int),P⟩:Edge).enc] .sh]))]).set X0 (.cells [aI f.name,.os O4.length (f.blocks.length+S.news.length+1) 7])⟩;generalize (O4.set dF .gone++[ai.cells (eF ids f.blocks++(al (S.news.map Block.enc)++[a7 P,.aB 4 [] .sh,aI 1,aI 0,aI 0,.aB 1 [] .sh,.aB 2 [(⟨(jh:Int),P⟩:Edge).enc] .sh]))]).set X0 (.cells [aI f.name,.os O4.length (f.blocks.length+S.news.length+1) 7])=O7 at *;refine cC ?_
   repeat(refine⟨by omega,?_⟩)
   refine eX ?_;refine⟨⟨⟨m+1,_,nx+(z:Int),O4.length,O7⟩,a8,Zu,de,by simp only[List.length_append,List.length_singleton];omega,by simp only;omega⟩,by simp;omega,?_⟩;refine zq rfl ?_ ?_;simp -dsimp only[simprocAttr,↓aa,zp,zc]
   ·exact Sub.int (by simp)
   rfl
  refine aF ?_;simp -dsimp only[bF,ne_eq,Nat.reduceEqDiff,reduceCtorEq];have Tx:L.length<=m:=by
   have:=of_decide_eq_false h;omega
  rw[List.drop_of_length_le Tx,List.foldl_nil]at de;subst de;have jO:=hS.out;have sQ:=hS.r1;have RL:=I sQ;have HF:=hS.x5;by_cases rh:128<f.blocks.length+S.news.length
  ·have g1:decide ((128:Int)<((f.blocks.length+S.news.length:Nat):Int))=true:=decide_eq_true (by omega);rw[if_pos (.inl rh)];refine cK ?_;simp -dsimp only[simprocAttr,↓aa,zp,jO,g1];refine ah ?_;refine cY rfl ?_;have QA:(O.set 1 (.cells [aI 0,.aB 7 [] .ex]))[1]?=some (.cells [aI 0,.aB 7 [] .ex]):=List.getElem?_set_self RL;refine aU ?_;simp -dsimp only[simprocAttr,↓aa,zp,sQ];refine ah ?_;refine aq ?_;simp -dsimp only[simprocAttr,↓aa,zp,zr,Tryz.results12,QA];simp[av,ae.upto]
  have g1:decide ((128:Int)<((f.blocks.length+S.news.length:Nat):Int))=false:=decide_eq_false (by omega);by_cases OW:4096<nx
  ·have g2:decide ((4096:Int)<nx)=true:=decide_eq_true OW;rw[if_pos (.inr OW)];refine cK ?_;simp -dsimp only[simprocAttr,↓aa,zp,jO,g1,g2];refine ah ?_;refine cY rfl ?_;have QA:(O.set 1 (.cells [aI 0,.aB 7 [] .ex]))[1]?=some (.cells [aI 0,.aB 7 [] .ex]):=List.getElem?_set_self RL;refine aU ?_;simp -dsimp only[simprocAttr,↓aa,zp,sQ];refine ah ?_;refine aq ?_;simp -dsimp only[simprocAttr,↓aa,zp,zr,Tryz.results12,QA];simp[av,ae.upto]
  have g2:decide ((4096:Int)<nx)=false:=decide_eq_false OW;rw[if_neg (fun q=>q.elim rh OW)];have rM:(List.zipWith fS f.blocks S.fj).length=f.blocks.length:=by
   rw[List.length_zipWith,hS.w.len];omega
  have US:=Ao (ids:=ids) hS.w.len hS.w.each;have EO:∀(j id:Nat) (c:Block),ids[j]?=some id->(List.zipWith fS f.blocks S.fj)[j]?=some c->c.term.to≠[]->∃b l,f.blocks[j]?=some b∧S.fj[j]?=some l∧c=fS b l∧b.term.to≠[]:=fun j id c h1 h2 h3=>by
   rw[List.getElem?_zipWith]at h2;cases hb:f.blocks[j]? with
   | none=>rw[hb]at h2;cases h2
   | some b =>
    cases hl:S.fj[j]? with
    | none=>rw[hb,hl]at h2;cases h2
    | some l =>
     rw[hb,hl]at h2;simp only[Option.some.injEq]at h2;refine⟨b,l,rfl,rfl,h2.symm,fun q=>h3 ?_⟩;have:=hS.w.each j b l hb hl;rw[q]at this;rw[<-h2];exact List.length_eq_zero_iff.1 this
  refine cK ?_;simp -dsimp only[simprocAttr,↓aa,zp,jO,g1,g2];refine ah ?_;refine cm rfl ?_;refine ct ?_;refine aU ?_;simp -dsimp only[simprocAttr,↓aa,zp,jO,sQ];refine ah ?_;refine Ai (ids:=ids) (bs:=List.zipWith fS f.blocks S.fj) (T:=S.news) (X:=1) (oid:=dF) (name:=f.name) (by rw[rM,hS.li]) (by have:=hS.bl.1;omega) (by rw[rM];exact List.getElem?_set_self RL) (by rw[US,List.getElem?_set_ne (by have:=hS.bl.1;omega)];exact hS.bl.2) (fun j id c h1 h2 h3=>?_) (fun i j id c d h1 h2 h3 h4 h5 h6=>?_) fun O1 dM SM=>?_
  ·obtain⟨b,l,q1,q2,q3,q4⟩:=EO j id c h1 h2 h3;obtain⟨o1,o2,o3,o4⟩:=hS.own j id b l h1 q1 q2 q4;exact⟨o2,by omega,by rw[List.getElem?_set_ne (by omega),q3];exact o4⟩
  ·obtain⟨b,l,q1,q2,q3,q4⟩:=EO i id c h1 h3 h5;obtain⟨b',l',r1,r2,r3,r4⟩:=EO j id d h2 h4 h6;exact hS.inj i j id b b' h1 h2 q1 r1 q4 r4
  generalize List.zipWith fS f.blocks S.fj++S.news=GB at SM ⊢;refine aq ?_;simp -dsimp only[simprocAttr,↓aa,zp,zr,Tryz.results12,SM];refine⟨?_,rfl⟩;simp[av,ae.upto,ax,Block.ak]
 rw[if_neg hc]at HC ⊢;obtain⟨e,he⟩:∃e,e=aN f:=⟨_,rfl⟩
 rw[<-he]at hc HC ⊢;have oW:decide (e=0)=false:=decide_eq_false hc;refine zf true 0 Tryz.func12 Tryz.ntmps12 ?_;dsimp only[Tmp,TypeId,slotsOf];refine az (ah ?_);refine aC 1 0 (.ip none [aI f.name,aw f.blocks]) rfl (by simp[ai.aD]) trivial rfl ?_ ?_;rotate_left;simp -dsimp only[simprocAttr,↓aa,zp]
 ·refine az ?_;refine zi HC ?_;refine ah ?_;refine cK ?_;simp -dsimp only[simprocAttr,↓aa,zp,oW];refine ah ?_;refine cY rfl ?_;refine az (ah ?_);refine aq ?_;simp -dsimp only[simprocAttr,↓aa,zp,zr,Tryz.results12];simp[av,ae.upto]
 exact bY.mp rfl rfl
def RJ(f:Func):Int:=if 128<f.blocks.length+(xT f).1.news.length∨4096<(xT f).2 then 2 else 0
theorem II{f:Func}(h:RJ f=0):f.blocks.length+(bE f).length<=128∧c5 f+fW f (bE f)<=4096:=by
 unfold RJ at h;rw[om,oZ,(Bx f).next]at h;split at h
 ·simp at h
 omega
theorem J5{f:Func}(hc:aN f=0):MV f=PH cN RJ f:=by
 unfold MV PH RJ;rw[if_pos hc];by_cases h:128<f.blocks.length+(xT f).1.news.length∨4096<(xT f).2
 ·rw[if_pos h,if_pos h,if_neg (by decide)]
 rw[if_neg h,if_neg h,if_pos rfl]
end Go.Proofs.YtjdnhamngpafmaaGreat
namespace Go.Proofs.YtjdnhamngpafmaaGreat
open Go.Av
section
variable {f:Func}
theorem kF{g:Func}{k h:Int}:(k,h)∈dd g↔k∈kr g h:=by rw[kv,jB]
theorem QU{k:Int}(h:f.blocks.length<=k)(h1:k<(cN f).blocks.length):∃(i:Nat) (x:bd),k=((f.blocks.length+i:Nat):Int)∧(bE f)[i]?=some x:=by
 rw[gA]at h1;exact⟨k.toNat-f.blocks.length,(bE f)[k.toNat-f.blocks.length]'(by omega),by omega,List.getElem?_eq_getElem _⟩
theorem PB(hv:Ld f)(lY:fv (cN f)):Py f↔Py (cN f):=by
 have hg:=hv.fn.gr;have hw:=cE hg;have xF:=cE lY;constructor
 ·rintro⟨r,hr⟩;refine⟨fun k=>if k<f.blocks.length then 2*r k+1 else match (bE f)[k.toNat-f.blocks.length]? with
   | some x=>2*r x.head
   | none=>0,fun p hp t ht=>?_⟩
  have kc:=eU lY hp;have qw:=eU lY (lL lY hp ht);obtain⟨he,hb⟩:=kK.1 ht;rw[kF]at hb;by_cases Qy:p<f.blocks.length
  ·have WD:p∈dw f:=cD.2 ((qi hg lY Qy).2 (cD.1 hp));simp only[if_pos Qy];rcases yE kc.1 Qy he with⟨q,_⟩|⟨i,x,q1,q2,q3,q4⟩
   ·have h1:=l8 hg kc.1 Qy q;rw[zI hv lY (by omega) h1.2]at hb;have:=hr p WD t (kK.2 ⟨q,by rw[kF];exact hb⟩);rw[if_pos h1.2];omega
   have h2:=hr p WD x.head (kK.2 ⟨q3,fun q=>by
    rw[kF]at q;rw[zH hg (jl q2) q]at q4;cases q4⟩)
   rw[if_neg (by omega),show t.toNat-f.blocks.length=i by omega,q2];simp only;omega
  obtain⟨i,x,q1,q2⟩:=QU (by omega) kc.2;rw[q1]at he;have h1:=tL q2 he;have h2:=(jl q2).rC;simp only[if_neg Qy];rw[show p.toNat-f.blocks.length=i by omega,q2,h1,if_pos h2.2];simp only;omega
 rintro⟨r,hr⟩;refine⟨r,fun p hp t ht=>?_⟩;have kc:=eU hg hp;have qw:=eU hg (lL hg hp ht);obtain⟨he,hb⟩:=kK.1 ht;rw[kF]at hb;have MH:p∈dw (cN f):=cD.2 ((qi hg lY kc.2).1 (cD.1 hp));rcases zb kc.1 kc.2 he with q|⟨i,x,q1,q2,q3,q4,q5⟩
 ·exact hr p MH t (kK.2 ⟨q,by rw[kF,zI hv lY qw.1 qw.2];exact hb⟩)
 have h1:=hr p MH _ (kK.2 ⟨q4,by rw[kF,Nn hv lY q1];simp⟩);have h2:=hr _ (cD.2 (Ff hv lY q1)) t (kK.2 ⟨q5,fun q=>by
  rw[kF,zI hv lY qw.1 qw.2]at q;have:=(hw.range _ ((kP hg).1 q).1).2;omega⟩)
 omega
end
end Go.Proofs.YtjdnhamngpafmaaGreat
namespace Go.Proofs.YtjdnhamngpafmaaGreat
open Go.Av
theorem wU(f:Func)(bJ:f.fit)(hc:aN f≠0):bq Tryz.prog 18 [f.enc] (.cx [.v (.bool false),aI (aN f)]):=by
 have xx:=pJ f bJ;unfold Ak at xx;rw[if_neg hc]at xx;obtain⟨e,he⟩:∃e,e=aN f:=⟨_,rfl⟩
 rw[<-he]at hc xx ⊢;have oW:decide (e=0)=false:=decide_eq_false hc;refine zf true 0 Tryz.func18 Tryz.ntmps18 ?_;dsimp only[Tmp,TypeId,slotsOf];refine az (ah ?_);refine aC 1 0 (.ip none [aI f.name,aw f.blocks]) rfl (by simp[ai.aD]) trivial rfl ?_ ?_;rotate_left;simp -dsimp only[simprocAttr,↓aa,zp];rotate_left
 ·exact bY.mp rfl rfl
 refine az ?_;refine .inl ⟨_,xx,by simp only[av,ae.upto,zt,zu,ax,c9,dS],ao ?_⟩;simp -dsimp only[simprocAttr,↓aa,zp];refine ah ?_;refine cK ?_;simp -dsimp only[simprocAttr,↓aa,zp,oW];refine ah ?_;refine cY rfl ?_;refine az (ah ?_);refine aq ?_;simp -dsimp only[simprocAttr,↓aa,zp,zr,Tryz.results18];exact⟨trivial,trivial,trivial⟩
theorem JK{f:Func}(hg:fv f)(h:gk f=[]):dd f=[]:=by
 rw[List.eq_nil_iff_forall_not_mem];rintro⟨p,t⟩ hp;have hr:=(qa f).1;rw[h]at hr;have nT:vv f=[]:=by simpa using hr.symm
 obtain⟨q1,q2,_⟩:=kv.1 hp;have qw:=(cE hg).range t ((cE hg).next p t q1 q2);have hs:p∈kr f t:=jB.2 (kv.1 hp);have hm:(⟨t.toNat,gR (nz f t),-1⟩:bd)∈vv f:=by
  refine List.mem_flatMap.2 ⟨t.toNat,List.mem_range.2 (by omega),?_⟩;unfold zm;rw[Int.toNat_of_nonneg qw.1,if_neg (List.ne_nil_of_mem hs)];simp
 rw[nT]at hm;cases hm
def LQ(f:Func)(k:Nat):Bool:=(HJ f (k:Int)).any (CN f (k:Int))
theorem Ag{α:Type}{l:List α}{i:Nat}{x:α}(h:l[i]?=some x)(p:α->Bool):(l.drop i).any p=(p x ||(l.drop (i+1)).any p):=by
 rw[bA h,List.any_cons]
theorem p9(f:Func)(bJ:f.fit):bq Tryz.prog 4 [f.enc] (.v (.bool true)):=by
 have U':=En;by_cases hc:aN f=0
 ·have hv:=ig bJ hc;have hg:=hv.fn.gr;have hn:f.blocks.length<=128:=hg.few;obtain⟨b,hb⟩:∃b:Bool,b=true↔Py f:=by
   by_cases h:Py f
   ·exact⟨true,by simp[h]⟩
   exact⟨false,by simp[h]⟩
  have R5:=oq f bJ hc b hb;have HC:=find_spec f bJ;unfold EH at HC;rw[if_pos hc]at HC;have Yy:=D0 f bJ hc;have hrp:=fun k=>wV f hg k;have yS:=xL f;obtain⟨nm,bs,e2,A7,A8⟩:∃(nm:Int) (bs:List Block) (e2:Int),bq Tryz.prog 12 [f.enc] (.cx [.agg [aI nm,aw bs],aI e2])∧(e2=0->bq Tryz.prog 18 [.agg [aI nm,aw bs]] (.cx [.v (.bool b),aI 0])):=by
   have A7:=J6 f bJ;rw[J5 hc]at A7;unfold PH at A7;by_cases he:RJ f=0
   ·rw[if_pos he]at A7;obtain⟨m1,m2⟩:=II he;have f1:=MW bJ m1 m2;have f2:=G4 bJ hc m1 m2;exact⟨(cN f).name,(cN f).blocks,0,A7,fun _=>oq _ f1 f2 b (hb.trans (PB hv (cA f1 f2).gr))⟩
   rw[if_neg he]at A7;exact⟨0,[],RJ f,A7,fun h=>absurd h he⟩
  obtain⟨d,hd⟩:∃d,d=decide (e2=0):=⟨_,rfl⟩
  have P':gk f=[]->(b == LR f)=false:=fun h=>by
   have h1:=LS hv (JK hg h);cases B4:LR f with
   | true =>
    rw[B4]at h1;cases b with
    | true=>exact absurd (hb.1 rfl) (h1.1 rfl)
    | false=>rfl
   | false =>
    rw[B4]at h1;cases b with
    | true=>rfl
    | false=>exact absurd (h1.2 (fun q=>by have:=hb.2 q;cases this)) (by decide)
  have IW:=vy f;have Yh:=fun(a t:Nat) h1 h2=>Dy f bJ hc a t h1 h2;have RS:∀(k:Int) (j:Nat),CN f k (j:Int)=((lT f)[j]?.getD false&&Pq f k j):=fun k j=>by
   unfold CN;rw[Int.toNat_natCast]
  obtain⟨C,hC⟩:∃C,C=LR f:=⟨_,rfl⟩
  have XH:C=(List.range f.blocks.length).any (LQ f):=hC;rw[<-hC]at P';obtain⟨R,hR⟩:∃R,R=lT f:=⟨_,rfl⟩
  rw[<-hR]at Yy IW RS;obtain⟨N,hN⟩:∃N,N=f.blocks.length:=⟨_,rfl⟩
  rw[<-hN]at hn IW Yh XH;obtain⟨L,hL⟩:∃L,L=gk f:=⟨_,rfl⟩
  rw[<-hL]at HC yS P';refine zf true 0 Tryz.func4 Tryz.ntmps4 ?_;dsimp only[Tmp,TypeId,slotsOf];refine az (ah ?_);refine aC 1 0 (.ip none [aI f.name,aw f.blocks]) rfl (by simp[ai.aD]) trivial rfl ?_ ?_;rotate_left;simp -dsimp only[simprocAttr,↓aa,zp];rotate_left
  ·exact bY.mp rfl rfl
  refine ck ?_;refine .inl ⟨_,U',by simp only[av,ae.upto,zt,zu,ax,c9,dS],ao ?_⟩;simp -dsimp only[simprocAttr,↓aa,zp];refine ah ?_;apply aP rfl<;>intro h
  ·cases h
  refine ct ?_;refine az ?_;refine .inl ⟨_,R5,by simp only[av,ae.upto,zt,zu,ax,c9,dS],ao ?_⟩;simp -dsimp only[simprocAttr,↓aa,zp];refine ah ?_;refine ck (ah ?_);apply aP rfl<;>intro h
  ·cases h
  refine ct ?_;refine ck ?_;refine .inl ⟨_,A7,by simp only[av,ae.upto,zt,zu,ax,c9,dS],ao ?_⟩;simp -dsimp only[simprocAttr,↓aa,zp];refine ah ?_;refine aC 5 1 (.ip none [aI nm,aw bs]) rfl (by simp[ai.aD]) trivial rfl ?_ ?_;rotate_left;simp -dsimp only[simprocAttr,↓aa,zp];rotate_left
  ·exact bY.mp rfl rfl
  refine aU ?_;simp -dsimp only[simprocAttr,↓aa,zp,<-hd];refine ah ?_;refine iz (⟨94,[(1,.ip none [aI f.name,aw f.blocks]),(3,.v (.bool b))],[.gone,.gone]⟩) ?_ ?_
  ·apply aP rfl<;>intro h
   ·have R4:=A8 (of_decide_eq_true (hd.symm.trans h));refine az ?_;refine .inl ⟨_,R4,by simp only[av,ae.upto,zt,zu,ax,c9,dS],ao ?_⟩;simp -dsimp only[simprocAttr,↓aa,zp];refine ah ?_;refine aU ?_;simp -dsimp only[simprocAttr,↓aa,zp,beq_self_eq_true,Bool.not_true];refine⟨Tryz.underlying4,?_⟩;refine ah ?_;apply aP rfl<;>intro h
    ·cases h
    refine ba ?_;show bj _ _;refine zq rfl ?_ ?_;simp -dsimp only[simprocAttr,↓aa,zp,zc];rfl
   refine ba ?_;show bj _ _;refine zq rfl ?_ ?_;simp -dsimp only[simprocAttr,↓aa,zp,zc];rfl
  refine az ?_;refine .inl ⟨_,HC,by simp only[av,ae.upto,zt,zu,ax,c9,dS],ao ?_⟩;simp -dsimp only[simprocAttr,↓aa,zp];refine ah ?_;by_cases Vz:L=[]
  ·have ZB:=P' Vz;have Di:L.length=0:=by rw[Vz];rfl
   refine cK ?_;simp -dsimp only[simprocAttr,↓aa,zp,Di];refine ah ?_;apply aP rfl<;>intro h
   ·cases h
   refine ct ?_;refine az (ah ?_);refine az ?_;refine .inl ⟨_,Yy,by simp only[av,ae.upto,zt,zu,ax,c9,dS],ao ?_⟩;simp -dsimp only[simprocAttr,↓aa,zp];refine ah ?_;refine cK ?_;simp -dsimp only[simprocAttr,↓aa,zp,<-hN];refine ah ?_;refine ag (aM (ι:={X:Nat×Bool // X.1<=N∧C=(X.2 ||((List.range N).drop X.1).any (LQ f))}) (fun X=>⟨94,[(1,.ip none [aI f.name,aw f.blocks]),(3,.v (.bool b)),(11,.v (.bool X.1.2)),(12,.aB 1 (R.map eB) .sh),(64,aI N),(65,aI X.1.1)],[.gone,.gone]⟩) (fun X=>N-X.1.1) ⟨(0,false),Nat.zero_le _,by simpa using XH⟩ ?_ ?_)
   ·refine zq rfl ?_ ?_;simp -dsimp only[simprocAttr,↓aa,zp,zc]
    all_goals rfl
   rintro⟨⟨k,acc⟩,hk,de⟩;simp only at hk de;refine az (ah ?_);apply ic rfl<;>intro h
   ·refine ct ?_;have Gp:k<N:=by simpa using h
    have Lo:(List.range N)[k]?=some k:=by simp[Gp]
    rw[Ag Lo,<-Bool.or_assoc]at de;obtain⟨D,hD⟩:∃D,D=(acc ||LQ f k):=⟨_,rfl⟩
    rw[<-hD]at de;unfold LQ at hD;have U8:=hrp (k:Int);have XP:∀p∈HJ f (k:Int),∃j:Nat,p=(j:Int)∧j<N:=fun p hp=>by
     obtain⟨j,q1,q2,_⟩:=DG.1 hp;exact⟨j,q1,by omega⟩
    have VH:(HJ f (k:Int)).length<=33000:=by
     have:=zw (k:Int) f.blocks 0 hg.to;unfold HJ;omega
    obtain⟨P,hP⟩:∃P,P=HJ f (k:Int):=⟨_,rfl⟩
    rw[<-hP]at hD U8 XP VH;refine aG (ag ?_);refine az (ah ?_);refine az ?_;refine .inl ⟨_,U8,by simp only[av,ae.upto,zt,zu,ax,c9,dS],ao ?_⟩;simp -dsimp only[simprocAttr,↓aa,zp];refine ah ?_;refine ag (aM (ι:={Y:Nat×Bool // Y.1<=P.length∧D=(Y.2 ||(P.drop Y.1).any (CN f (k:Int)))}) (fun Y=>⟨94,[(1,.ip none [aI f.name,aw f.blocks]),(3,.v (.bool b)),(11,.v (.bool Y.1.2)),(12,.aB 1 (R.map eB) .sh),(64,aI N),(65,aI k),(13,aI k),(70,a7 P),(71,aI P.length),(72,aI Y.1.1)],[.gone,.gone]⟩) (fun Y=>P.length-Y.1.1) ⟨(0,acc),Nat.zero_le _,by simpa using hD⟩ ?_ ?_)
    ·refine zq rfl ?_ ?_;simp -dsimp only[simprocAttr,↓aa,zp,zc]
     all_goals rfl
    rintro⟨⟨z,a2⟩,hz,C'⟩;simp only at hz C';refine az (ah ?_);apply ic rfl<;>intro h
    ·refine ct ?_;have mf:z<P.length:=by simpa using h
     obtain⟨p,hp⟩:∃p,P[z]?=some p:=⟨P[z],by simp[mf]⟩
     rw[Ag hp,<-Bool.or_assoc]at C';obtain⟨j,hpj,Tv⟩:=XP p (List.mem_of_getElem? hp);rw[hpj]at C' hp;rw[RS]at C';have TA:=Yh k j Gp Tv;obtain⟨s,hs⟩:∃s,R[j]?=some s:=⟨R[j]'(by omega),List.getElem?_eq_getElem _⟩
     have R7:(R.map eB)[j]?=some (eB s):=by rw[List.getElem?_map,hs];rfl
     rw[hs,Option.getD_some]at C';obtain⟨l,hl⟩:∃l,l=Pq f (k:Int) (j:Int):=⟨_,rfl⟩
     rw[<-hl]at TA C';refine aG (ag ?_);refine aU ?_;simp -dsimp only[simprocAttr,↓aa,zp,hp];refine ah ?_;cases a2 with
     | true =>
      rw[Bool.true_or]at C';refine cC (ah ?_);refine cC ?_
      repeat(refine⟨by omega,?_⟩)
      refine eX ?_;refine⟨⟨(z+1,true),mf,C'⟩,by simp;omega,?_⟩;refine zq rfl ?_ ?_;simp -dsimp only[simprocAttr,↓aa,zp,zc]
      ·exact Sub.int (by simp)
      rfl
     | false =>
      rw[Bool.false_or]at C';cases s with
      | false =>
       rw[Bool.false_and]at C';refine jD ?_;simp -dsimp only[simprocAttr,↓aa,zp,R7,eB,Int.toNat_natCast,Nat.mul_one]
       repeat(refine⟨by omega,?_⟩)
       refine ah ?_;refine cC ?_
       repeat(refine⟨by omega,?_⟩)
       refine eX ?_;refine⟨⟨(z+1,false),mf,C'⟩,by simp;omega,?_⟩;refine zq rfl ?_ ?_;simp -dsimp only[simprocAttr,↓aa,zp,zc]
       ·exact Sub.int (by simp)
       rfl
      | true =>
       rw[Bool.true_and]at C';refine jD ?_;simp -dsimp only[simprocAttr,↓aa,zp,R7,eB,Int.toNat_natCast,Nat.mul_one]
       repeat(refine⟨by omega,?_⟩)
       refine .inl ⟨_,TA,by simp only[av,ae.upto,zt,zu,ax,c9,dS],ao ?_⟩;simp -dsimp only[simprocAttr,↓aa,zp];refine ah ?_;refine cC ?_
       repeat(refine⟨by omega,?_⟩)
       refine eX ?_;refine⟨⟨(z+1,l),mf,C'⟩,by simp;omega,?_⟩;refine zq rfl ?_ ?_;simp -dsimp only[simprocAttr,↓aa,zp,zc]
       ·exact Sub.int (by simp)
       rfl
    refine aF ?_;simp -dsimp only[bF,ne_eq,Nat.reduceEqDiff,reduceCtorEq];have rM:P.length<=z:=by simpa using h
    rw[List.drop_of_length_le rM,List.any_nil,Bool.or_false]at C';subst C';refine cC ?_
    repeat(refine⟨by omega,?_⟩)
    refine eX ?_;refine⟨⟨(k+1,D),Gp,de⟩,by simp;omega,?_⟩;refine zq rfl ?_ ?_;simp -dsimp only[simprocAttr,↓aa,zp,zc]
    ·exact Sub.int (by simp)
    rfl
   refine aF ?_;simp -dsimp only[bF,ne_eq,Nat.reduceEqDiff,reduceCtorEq];have Tx:N<=k:=by simpa using h
   rw[List.drop_of_length_le (by simpa using Tx),List.any_nil,Bool.or_false]at de;subst de;refine aU ?_;simp -dsimp only[simprocAttr,↓aa,zp,ZB,Bool.not_false];refine⟨Tryz.underlying4,?_⟩;refine ah ?_;refine aq ?_;simp -dsimp only[simprocAttr,↓aa,zp,zr,Tryz.results4]
  have OS:decide ((0:Int)<(L.length:Int))=true:=decide_eq_true (by have:=List.length_pos_iff.2 Vz;omega);refine cK ?_;simp -dsimp only[simprocAttr,↓aa,zp,OS];refine ah ?_;refine cY rfl ?_;refine az (ah ?_);refine aq ?_;simp -dsimp only[simprocAttr,↓aa,zp,zr,Tryz.results4]
 have R5:=wU f bJ hc;obtain⟨e,he⟩:∃e,e=aN f:=⟨_,rfl⟩
 rw[<-he]at hc R5;have oW:decide (e=0)=false:=decide_eq_false hc;refine zf true 0 Tryz.func4 Tryz.ntmps4 ?_;dsimp only[Tmp,TypeId,slotsOf];refine az (ah ?_);refine aC 1 0 (.ip none [aI f.name,aw f.blocks]) rfl (by simp[ai.aD]) trivial rfl ?_ ?_;rotate_left;simp -dsimp only[simprocAttr,↓aa,zp];rotate_left
 ·exact bY.mp rfl rfl
 refine ck ?_;refine .inl ⟨_,U',by simp only[av,ae.upto,zt,zu,ax,c9,dS],ao ?_⟩;simp -dsimp only[simprocAttr,↓aa,zp];refine ah ?_;apply aP rfl<;>intro h
 ·cases h
 refine ct ?_;refine az ?_;refine .inl ⟨_,R5,by simp only[av,ae.upto,zt,zu,ax,c9,dS],ao ?_⟩;simp -dsimp only[simprocAttr,↓aa,zp];refine ah ?_;refine cK ?_;simp -dsimp only[simprocAttr,↓aa,zp,oW];refine ah ?_;refine cY rfl ?_;refine az (ah ?_);refine aq ?_;simp -dsimp only[simprocAttr,↓aa,zp,zr,Tryz.results4]
end Go.Proofs.YtjdnhamngpafmaaGreat
