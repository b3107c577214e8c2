/-
  Texts bound together by a program of mine: YtjdnhamngpafmaaGreatPzza, YtjdnhamngpafmaaGreatPzzb, YtjdnhamngpafmaaGreatPzze, YtjdnhamngpafmaaGreatPzzf, YtjdnhamngpafmaaGreatT188, YtjdnhamngpafmaaGreatT182, YtjdnhamngpafmaaGreatT122, YtjdnhamngpafmaaGreatPud, YtjdnhamngpafmaaGreatT38, YtjdnhamngpafmaaGreatT53, YtjdnhamngpafmaaGreatPdh, YtjdnhamngpafmaaGreatT101, YtjdnhamngpafmaaGreatT102, YtjdnhamngpafmaaGreatT103, YtjdnhamngpafmaaGreatT107, YtjdnhamngpafmaaGreatT55, YtjdnhamngpafmaaGreatT56, YtjdnhamngpafmaaGreatT123, YtjdnhamngpafmaaGreatT129, YtjdnhamngpafmaaGreatT189, YtjdnhamngpafmaaGreatT132, YtjdnhamngpafmaaGreatT190, YtjdnhamngpafmaaGreatPzzg, YtjdnhamngpafmaaGreatPzzh, YtjdnhamngpafmaaGreatPzzi, YtjdnhamngpafmaaGreatT162, YtjdnhamngpafmaaGreatT192.
-/
import Derived.Test.YtjdnhamngpafmaaGreatF5
import Derived.Test.YtjdnhamngpafmaaGreatChecked
import Derived.KernelRfl
import Derived.Shelf.Slices.In.SortNone
import Derived.Shelf.Sort.Plain
set_option linter.all false
set_option maxRecDepth 100000
set_option maxHeartbeats 4000000

namespace Go.Proofs.YtjdnhamngpafmaaGreat
open Go.Av
theorem Lo{m v:Int}:m<=nE m v∧v+1<=nE m v:=by unfold nE;omega
theorem uS:∀(l:List Int) (m:Int),m<=l.foldl nE m∧∀v∈l,v+1<=l.foldl nE m
 | [],m=>⟨Int.le_refl _,fun v hv=>by cases hv⟩
 | a::r,m=>by
  obtain⟨h1,h2⟩:=uS r (nE m a);obtain⟨h3,h4⟩:=Lo (m:=m) (v:=a);rw[List.foldl_cons];refine⟨by omega,fun v hv=>?_⟩;rcases List.mem_cons.1 hv with q|q
  ·subst q;omega
  exact h2 v q
theorem Lh(m:Int)(i:Ins):m<=lq m i∧i.to+1<=lq m i∧∀a∈i.args,a+1<=lq m i:=by
 unfold lq;obtain⟨h1,h2⟩:=uS i.args (nE m i.to);obtain⟨h3,h4⟩:=Lo (m:=m) (v:=i.to);exact⟨by omega,by omega,h2⟩
theorem yU:∀(l:List Ins) (m:Int),m<=l.foldl lq m∧∀i∈l,i.to+1<=l.foldl lq m∧∀a∈i.args,a+1<=l.foldl lq m
 | [],m=>⟨Int.le_refl _,fun v hv=>by cases hv⟩
 | i::r,m=>by
  obtain⟨h1,h2⟩:=yU r (lq m i);obtain⟨h3,h4,h5⟩:=Lh m i;rw[List.foldl_cons];refine⟨by omega,fun j hj=>?_⟩;rcases List.mem_cons.1 hj with q|q
  ·subst q;exact⟨by omega,fun a ha=>by have:=h5 a ha;omega⟩
  exact h2 j q
theorem Lf(m:Int)(b:Block):m<=jE m b∧b.term.arg+1<=jE m b∧(∀v∈b.params,v+1<=jE m b)∧∀i∈b.ins,i.to+1<=jE m b∧∀a∈i.args,a+1<=jE m b:=by
 unfold jE;obtain⟨h1,h2⟩:=uS b.params (nE m b.term.arg);obtain⟨h3,h4⟩:=Lo (m:=m) (v:=b.term.arg);obtain⟨h5,h6⟩:=yU b.ins (b.params.foldl nE (nE m b.term.arg));exact⟨by omega,by omega,fun v hv=>by have:=h2 v hv;omega,h6⟩
theorem mK:∀(l:List Block) (m:Int),m<=l.foldl jE m∧∀b∈l,b.term.arg+1<=l.foldl jE m∧(∀v∈b.params,v+1<=l.foldl jE m)∧∀i∈b.ins,i.to+1<=l.foldl jE m∧∀a∈i.args,a+1<=l.foldl jE m
 | [],m=>⟨Int.le_refl _,fun v hv=>by cases hv⟩
 | b::r,m=>by
  obtain⟨h1,h2⟩:=mK r (jE m b);obtain⟨h3,h4,h5,h6⟩:=Lf m b;rw[List.foldl_cons];refine⟨by omega,fun j hj=>?_⟩;rcases List.mem_cons.1 hj with q|q
  ·subst q;exact⟨by omega,fun v hv=>by have:=h5 v hv;omega,fun i hi=>⟨by have:=(h6 i hi).1;omega,fun a ha=>by have:=(h6 i hi).2 a ha;omega⟩⟩
  exact h2 j q
theorem GU{c:Int}:∀(l:List Int) {m:Int},m<=c->(∀v∈l,v<c)->l.foldl nE m<=c
 | [],_,h,_=>h
 | a::r,m,h,hl=>by
  rw[List.foldl_cons];refine GU r ?_ fun v hv=>hl v (List.mem_cons_of_mem _ hv);have:=hl a List.mem_cons_self;unfold nE;omega
theorem Li{c m:Int}{i:Ins}(h:m<=c)(h1:i.to<c)(h2:∀a∈i.args,a<c):lq m i<=c:=by
 unfold lq;exact GU _ (by unfold nE;omega) h2
theorem yV{c:Int}:∀(l:List Ins) {m:Int},m<=c->(∀i∈l,i.to<c∧∀a∈i.args,a<c)->l.foldl lq m<=c
 | [],_,h,_=>h
 | a::r,m,h,hl=>by
  rw[List.foldl_cons];have:=hl a List.mem_cons_self;exact yV r (Li h this.1 this.2) fun v hv=>hl v (List.mem_cons_of_mem _ hv)
theorem Lg{c m:Int}{b:Block}(h:m<=c)(h1:b.term.arg<c)(h2:∀v∈b.params,v<c)(h3:∀i∈b.ins,i.to<c∧∀a∈i.args,a<c):jE m b<=c:=by
 unfold jE;exact yV _ (GU _ (by unfold nE;omega) h2) h3
theorem yT{c:Int}:∀(l:List Block) {m:Int},m<=c->(∀b∈l,b.term.arg<c∧(∀v∈b.params,v<c)∧∀i∈b.ins,i.to<c∧∀a∈i.args,a<c)->l.foldl jE m<=c
 | [],_,h,_=>h
 | a::r,m,h,hl=>by
  rw[List.foldl_cons];have:=hl a List.mem_cons_self;exact yT r (Lg h this.1 this.2.1 this.2.2) fun v hv=>hl v (List.mem_cons_of_mem _ hv)
theorem uR{f:Func}(h:ou f){b:Block}(hb:b∈f.blocks){i:Ins}(hi:i∈b.ins):(0<=i.to∧i.to<=4095)∧(∀a∈i.args,0<=a∧a<=4095)∧i.args.length<=16∧(i.op=100->i.args.length=1):=by
 have h0:=h.cC b hb i hi;by_cases e:i.op=100
 ·unfold oT at h0;split at h0
  ·simp at h0
  rename_i h1;simp only[Bool.or_eq_true,not_or,Bool.not_eq_true',Bool.not_eq_false,List.any_eq_true,not_exists,not_and]at h1;rw[if_neg (by simp[e])]at h0;split at h0
  ·simp at h0
  rename_i h2;exact⟨hZ.1 (by simpa using h1.1),fun a ha=>hZ.1 (by simpa using h1.2 a ha),by omega,fun _=>by omega⟩
 have hf:=h.form b hb i hi e;unfold oT at h0;split at h0
 ·simp at h0
 rename_i h1;simp only[Bool.or_eq_true,not_or,Bool.not_eq_true',Bool.not_eq_false,List.any_eq_true,not_exists,not_and]at h1;exact⟨hZ.1 (by simpa using h1.1),fun a ha=>hZ.1 (by simpa using h1.2 a ha),hf.len,fun q=>absurd q e⟩
theorem yW{f:Func}(h:ou f):0<lr f∧lr f<=4096:=by
 have hc:lr f<=4096:=yT f.blocks (by decide) fun b hb=>⟨by have:=hZ.1 (h.arg b hb);omega,fun v hv=>by have:=hZ.1 (h.Fu b hb v hv);omega,fun i hi=>by
  obtain⟨q1,q2,_⟩:=uR h hb hi;exact⟨by omega,fun a ha=>by have:=q2 a ha;omega⟩⟩
 obtain⟨b,hb⟩:=List.exists_mem_of_ne_nil _ h.ne;have:=((mK f.blocks 0).2 b hb).1;have:=hZ.1 (h.arg b hb);unfold lr at *;omega
theorem AX{f:Func}(a8:f.fit):(eC f).fit:=by
 refine⟨by unfold eC cm;simp,by rw[jv];exact a8.2.1,fun c hc=>?_⟩;obtain⟨k,hk⟩:=List.mem_iff_getElem?.1 hc;have hl:=I hk;rw[jv]at hl;have hb:f.blocks[k]?=some f.blocks[k]:=List.getElem?_eq_getElem hl;rw[wY hb,Option.some.injEq]at hk;obtain⟨b1,b2,b3,b4,t1,t2,t3,t4,t5,t6,t7⟩:=a8.2.2 _ (List.mem_of_getElem? hb);have Gz:=a8.2.1;have Z9:cm (k:Int):=by unfold cm;omega
 have hz:cm 0:=by unfold cm;omega
 generalize f.blocks[k]=b at *;subst hk;have hT:cm (mP b).kind∧cm (mP b).n∧iX (mP b).cases∧(mP b).cases.length<=2 ^ 47∧(mP b).to.length<=2 ^ 47∧∀e∈(mP b).to,e.fit:=by
  unfold mP;split
  ·exact⟨by unfold cm;simp,by unfold cm;simp,by simp[iX],by simp,by simp,fun e he=>by cases he⟩
  exact⟨t1,t3,t4,t5,t6,t7⟩
 obtain⟨u1,u2,u3,u4,u5,u6⟩:=hT;refine⟨by simp[iX,kL],by simp[kL],?_,fun i hi=>?_,u1,?_,u2,u3,u4,u5,u6⟩
 ·unfold kL;simp only;split<;>simp
 ·unfold kL at hi;simp only at hi;split at hi
  ·rw[List.mem_singleton]at hi;subst hi;exact⟨Z9,hz,hz,by simp[iX],by simp⟩
  cases hi
 unfold kL;simp only;split
 ·exact Z9
 exact hz
theorem Is{c:Nat}(k:Nat){ls:List (List Int)}(e:Edge)(h:∀l∈ls,l.length<=c):∀l∈lv k ls e,l.length<=c+1:=fun l hl=>by
 unfold lv at hl;rcases List.mem_or_eq_of_mem_set hl with q|q
 ·have:=h l q;omega
 rw[q,List.length_append,List.length_singleton];cases hq:ls[e.block.toNat]? with
 | none=>simp
 | some m =>
  have:=h m (List.mem_of_getElem? hq);simpa using this
theorem y5{c:Nat}(k:Nat):∀(es:List Edge) {ls:List (List Int)},(∀l∈ls,l.length<=c)->∀l∈lY k ls es,l.length<=c+es.length
 | [],_,h=>h
 | e::r,ls,h=>by
  intro l hl;have:=y5 (c:=c+1) k r (Is k e h) l hl;rw[List.length_cons];omega
theorem y9:∀(bs:List Block) {k c:Nat} {ls:List (List Int)},(∀b∈bs,b.term.to.length<=257)->(∀l∈ls,l.length<=c)->∀l∈mM k ls bs,l.length<=c+bs.length*257
 | [],_,c,_,_,h=>by simpa[mM]using h
 | b::r,k,c,ls,hb,h=>by
  intro l hl;have h1:=hb b List.mem_cons_self;have:=y9 r (k:=k+1) (c:=c+b.term.to.length) (fun x hx=>hb x (List.mem_cons_of_mem _ hx)) (y5 k b.term.to h) l hl;rw[List.length_cons];omega
section
variable {f:Func} (a8:f.fit) (hm:ou f) (hc:aZ (eC f)=0)
include a8 hm hc
theorem sf:uC (eC f):=(c6 (AX a8) hc).gr
theorem Fv:(bj (eC f)).fit:=Iy (AX a8) (sf a8 hm hc)
theorem CT:aZ (bj (eC f))=0:=CW (AX a8) hc
theorem y4:uC (bj (eC f)):=(c6 (Fv a8 hm hc) (CT a8 hm hc)).gr
theorem oG:(fR f).blocks.length=(bj (eC f)).blocks.length:=by
 unfold fR;rw[List.length_map,dW]
theorem yz{j:Nat}{b:Block}(h:(fR f).blocks[j]?=some b):∃(k:Nat) (c:Block),(ec (eC f))[j]?=some (k:Int)∧f.blocks[k]?=some c∧b=n4 c (ax (bj (eC f)) (j:Int)).term.to:=by
 have hw:=jF (sf a8 hm hc);unfold fR at h;rw[List.getElem?_map,Option.map_eq_some_iff]at h;obtain⟨k,hk,rfl⟩:=h;have hr:=hw.range k (dT.1 (List.mem_of_getElem? hk));rw[jv]at hr;refine⟨k.toNat,ax f k,by rw[hk];congr 1;omega,gS hr.1 hr.2,?_⟩;rw[qQ hw hk]
theorem CU{j:Nat}(hj:j<(bj (eC f)).blocks.length):(ax (bj (eC f)) (j:Int)).term.to.length<=257∧∀e∈(ax (bj (eC f)) (j:Int)).term.to,1<=e.block∧e.block<(fR f).blocks.length∧e.args=[]:=by
 have hg:=y4 a8 hm hc;have hb:=gS (f:=bj (eC f)) (k:=(j:Int)) (by omega) (by omega);rw[Int.toNat_natCast]at hb;have mg:=List.mem_of_getElem? hb;refine⟨hg.to _ mg,fun e he=>?_⟩;have:=hg.fZ _ mg e he;rw[oG a8 hm hc];refine⟨this.1,this.2,?_⟩;obtain⟨k,q1,q2⟩:=jV.1 hb;rw[q2,iM]at he;obtain⟨x,hx,rfl⟩:=List.mem_map.1 he;show x.args=[]
 have hw:=jF (sf a8 hm hc);have hr:=hw.range k (dT.1 (List.mem_of_getElem? q1));rw[jv]at hr;have hk:=gS hr.1 hr.2;have sT:=wY hk;have Nc:ax (eC f) k=kL k.toNat (ax f k):=by
  unfold ax at sT ⊢;rw[sT];rfl
 rw[Nc]at hx;have Ak:x∈(mP (ax f k)).to:=hx;unfold mP at Ak;split at Ak
 ·cases Ak
 have hE:=jm (hm.fin _ (List.mem_of_getElem? hk));obtain⟨⟨p1,p2⟩,p3⟩:=hE.fZ x Ak;have pW:=gS (f:=f) (k:=x.block) (by omega) (by omega);rw[hm.bare _ _ pW (by omega)]at p3;exact List.length_eq_zero_iff.1 p3
theorem Uw:T' (fR f) (lr f).toNat:=by
 have hw:=jF (sf a8 hm hc);have hg:=y4 a8 hm hc;have hl:=oG a8 hm hc;have Nb:=yW hm;have qh:∀b∈(fR f).blocks,∃c∈f.blocks,b.params=c.params∧b.ins=c.ins∧b.term.arg=c.term.arg:=fun b hb=>by
  obtain⟨j,hj⟩:=List.mem_iff_getElem?.1 hb;obtain⟨k,c,_,h2,rfl⟩:=yz a8 hm hc hj;exact⟨c,List.mem_of_getElem? h2,rfl,rfl,rfl⟩
 have tD:∀v:Int,0<=v->v+1<=lr f->G9 (lr f).toNat v:=fun v h0 h1=>by
  unfold G9;omega
 refine⟨?_,by omega,fun j b hj h0=>?_,fun b hb=>?_,fun b hb=>?_,fun b hb=>?_,fun b hb=>?_⟩
 ·rw[hl];exact⟨by have:=List.length_pos_iff.2 hg.ne;omega,hg.few⟩
 ·obtain⟨k,c,h1,h2,rfl⟩:=yz a8 hm hc hj;have hk:k≠0:=fun e=>by
   subst e;have:=uW hw h1 (r6 hw);omega
  exact hm.bare k c h2 (by omega)
 ·obtain⟨c,uq,h1,_⟩:=qh b hb;rw[h1];refine⟨?_,fun v hv=>?_⟩
  ·obtain⟨k,hk⟩:=List.mem_iff_getElem?.1 uq;by_cases e:k=0
   ·subst e;have:=hm.args;unfold ax at this;rw[show((0:Int).toNat)=0 from rfl,hk]at this;simp only[Option.getD_some]at this;omega
   rw[hm.bare k c hk (by omega)];simp
  exact tD v (hZ.1 (hm.Fu c uq v hv)).1 (((mK f.blocks 0).2 c uq).2.1 v hv)
 ·obtain⟨c,uq,_,h2,_⟩:=qh b hb;rw[h2];refine⟨by have:=hm.ins c uq;omega,fun i hi=>?_⟩;obtain⟨q1,q2,q3,_⟩:=uR hm uq hi;have hM:=((mK f.blocks 0).2 c uq).2.2 i hi;exact⟨tD _ q1.1 hM.1,fun a ha=>tD a (q2 a ha).1 (hM.2 a ha),by omega⟩
 ·obtain⟨c,uq,_,_,h3⟩:=qh b hb;rw[h3];exact tD _ (hZ.1 (hm.arg c uq)).1 ((mK f.blocks 0).2 c uq).1
 obtain⟨j,hj⟩:=List.mem_iff_getElem?.1 hb;have EO:=I hj;rw[hl]at EO;obtain⟨k,c,_,_,rfl⟩:=yz a8 hm hc hj;exact CU a8 hm hc EO
theorem J9:G8 (fR f) (bH (bj (eC f))) (cI (bj (eC f))) (c4 f) (lr f).toNat (fR f).blocks.length:=by
 have hg:=y4 a8 hm hc;have hw:=jF hg;have hl:=oG a8 hm hc;have fX:∀k∈bH (bj (eC f)),0<=k∧k<(fR f).blocks.length:=fun k hk=>by
  obtain⟨i,hi⟩:=List.mem_iff_getElem?.1 hk;have:=hw.range k (by rw[hw.at_ i k hi];omega);rw[hl];exact this
 have hN:=CI (g:=fR f) (many:=(lr f).toNat) fX;have qh:∀b∈(fR f).blocks,∃c∈f.blocks,b.ins=c.ins∧b.term.cases=c.term.cases:=fun b hb=>by
  obtain⟨j,hj⟩:=List.mem_iff_getElem?.1 hb;obtain⟨k,c,_,h2,rfl⟩:=yz a8 hm hc hj;exact⟨c,List.mem_of_getElem? h2,rfl,rfl⟩
 refine⟨Uw a8 hm hc,rfl,fX,fun i j k hi hj=>?_,fun i k p hi hk hp=>?_,hw.few,by rw[Iv,hl],fun l W0=>?_,hN.1,hN.2,fun b hb=>?_,fun b hb i hi=>?_⟩
 ·have h1:=hw.at_ i k hi;have h2:=hw.at_ j k hj;omega
 ·have:=CP hg hi;rw[hp]at this;simp only[Bool.or_eq_true,Bool.and_eq_true,decide_eq_true_eq,Option.getD_some,List.any_cons,List.any_nil,Bool.or_false]at this;rcases this with q|q
  ·exact absurd q.2 hk
  exact B5.1 q
 ·have:=y9 (bj (eC f)).blocks (k:=0) (c:=0) (ls:=List.replicate (bj (eC f)).blocks.length []) hg.to (fun l hl=>by rw[(List.mem_replicate.1 hl).2];simp) l W0;have hf:=hg.few;omega
 ·obtain⟨c,uq,_,h2⟩:=qh b hb;rw[h2];have:=(jm (hm.fin c uq)).cases;omega
 obtain⟨c,uq,h1,_⟩:=qh b hb;rw[h1]at hi;exact(uR hm uq hi).2.2.2
theorem Ek{j:Nat}(hj:j<(fR f).blocks.length):(j:Int)∈bH (bj (eC f)):=by
 have hw:=jF (y4 a8 hm hc);have cz:=Iw (sf a8 hm hc) hw;rw[oG a8 hm hc]at hj;rw[wN hw]at cz;have:=List.length_filter_eq_length_iff.1 (cz.trans (by rw[List.length_map,List.length_range])) (j:Int) (List.mem_map.2 ⟨j,List.mem_range.2 hj,rfl⟩);exact List.mem_of_getElem? (hw.get _ (of_decide_eq_true this))
end
end Go.Proofs.YtjdnhamngpafmaaGreat
namespace Go.Proofs.YtjdnhamngpafmaaGreat
open Go.Av
def EF(E:Env):Prop:=∀v x,E v=some x->cm x
theorem EF.get{E:Env}(h:EF E)(v:Int):cm (gE E v):=by
 unfold gE;cases hE:E v with
 | none=>unfold cm;simp
 | some x=>exact h v x hE
theorem EF.none:EF ot:=fun v x h=>by cases h
theorem EF.up{E:Env}(h:EF E)(v:Int){x:Int}(hx:cm x):EF (n5 E v x):=fun w y hy=>by
 unfold n5 at hy;split at hy
 ·rw[Option.some.injEq]at hy;rw[<-hy];exact hx
 exact h w y hy
theorem EF.M0:∀(l:List Int) {E:Env} {nx:Int},EF E->0<=nx->nx+l.length<=2 ^ 40->EF (dG E nx l)
 | [],_,_,h,_,_=>h
 | a::r,E,nx,h,h0,h1=>by
  rw[List.length_cons]at h1;rw[dG];exact EF.M0 r (h.up a (by unfold cm;omega)) (by omega) (by omega)
theorem HL{l:List Int}(h:iX l):cm (l.headD 0):=by
 cases l with
 | nil=>unfold cm;simp
 | cons a r=>exact h a List.mem_cons_self
theorem wv:∀(l:List Ins) {E:Env} {nx:Int},EF E->0<=nx->nx+l.length<=2 ^ 40->(∀i∈l,i.fit)->EF (cC E nx l).1∧(cC E nx l).2.2.length<=l.length∧∀i∈(cC E nx l).2.2,i.fit∧i.op≠100
 | [],_,_,h,_,_,_=>⟨h,Nat.le_refl _,fun i hi=>by cases hi⟩
 | i::r,E,nx,h,h0,h1,hl=>by
  rw[List.length_cons]at h1;have hi:=hl i List.mem_cons_self;have hr:=fun x hx=>hl x (List.mem_cons_of_mem i hx);have Ct:iX (i.args.map (gE E)):=fun x hx=>by
   obtain⟨a,_,rfl⟩:=List.mem_map.1 hx;exact h.get a
  rw[cC];split
  ·obtain⟨q1,q2,q3⟩:=wv r (h.up i.to (HL Ct)) h0 (by omega) hr;exact⟨q1,by rw[List.length_cons];omega,q3⟩
  rename_i ct;have hx:cm nx:=by unfold cm;omega
  obtain⟨q1,q2,q3⟩:=wv r (h.up i.to hx) (by omega:0<=nx+1) (by omega) hr;refine⟨q1,by simp only[List.length_cons];omega,fun j hj=>?_⟩;rcases List.mem_cons.1 hj with e|e
  ·subst e;exact⟨⟨hx,hi.2.1,hi.2.2.1,Ct,by rw[List.length_map];exact hi.2.2.2.2⟩,ct⟩
  exact q3 j e
structure BkF(b:Block):Prop where
 par:iX b.params
 Y8:b.params.length<=8192
 Y2:b.ins.length<=16384
 ins:∀i∈b.ins,i.fit∧i.op≠100
 kind:cm b.term.kind
 arg:cm b.term.arg
 n:cm b.term.n
 cases:iX b.term.cases
 Xl:b.term.cases.length<=2 ^ 47
structure Ue(S:Ws)(i:Nat):Prop where
 nx:0<=S.nx∧S.nx<=i*20000
 ee:∀j,EF (S.EE j)
 b:∀j b,S.B j=some b->BkF b
theorem vG{n:Int}{k:Nat}(h0:0<=n)(h1:n+k<=2 ^ 40):iX (dj n k):=fun x hx=>by
 unfold dj at hx;obtain⟨i,hi,rfl⟩:=List.mem_map.1 hx;have:=List.mem_range.1 hi;unfold cm;omega
section
variable {g:Func} {ord:List Int} {inn:List (List Int)} {N:List (List Bool)} {many n:Nat}
theorem MV(h:G8 g ord inn N many n){k:Nat}(hk:k<n){S:Ws}{i:Nat}(hS:Ue S i)(hi:i<=128) :
  EF (dn g inn N k S).E∧iX (dn g inn N k S).ps∧(dn g inn N k S).ps.length<=8192∧∀j∈(dn g inn N k S).is,j.fit∧j.op≠100:=by
 obtain⟨h1,h2,h3,h4,h5⟩:=h.row hk;have hm:=h.gw.M3;have KV:=hS.nx;have e1:=gU (N.getD k []) 0;have e2:=List.countP_le_length (p:=id) (l:=N.getD k []);unfold dn;split
 ·rename_i e;subst e;have hz:=Be (dG ot S.nx (ax g 0).params) (N.getD 0 []) (N.getD 0 []).length;have hp:=(h.gw.Fu _ (List.mem_of_getElem? h5)).1;have Q7:(ax g 0).params.length<=4096:=hp;refine⟨EF.M0 _ (EF.M0 _ EF.none (by omega) (by omega)) (by omega) (by omega),vG (by omega) (by omega),by rw[gn];omega,fun j hj=>?_⟩;obtain⟨x,hx,rfl⟩:=List.mem_map.1 hj;have:=vG (n:=S.nx+(ax g 0).params.length) (k:=(sr (dG ot S.nx (ax g 0).params) (N.getD 0 []) (N.getD 0 []).length).length) (by omega) (by omega) x hx;exact⟨⟨this,by unfold cm sI;simp,by unfold cm sI;simp,fun y hy=>(by simp[sI]at hy),by simp[sI]⟩,by simp[sI]⟩
 split
 ·exact⟨hS.ee _,fun x hx=>(by simp at hx),by simp,fun j hj=>(by simp at hj)⟩
 exact⟨EF.M0 _ EF.none (by omega) (by omega),vG (by omega) (by omega),by rw[gn];omega,fun j hj=>(by simp at hj)⟩
theorem I2(h:G8 g ord inn N many n)(hg:∀b∈g.blocks,b.fit){k:Nat}(hk:k<n){S:Ws}{i:Nat}(hS:Ue S i)(hi:i<128):Ue (ia g inn N k S) (i+1):=by
 obtain⟨h1,h2,h3,h4,h5⟩:=h.row hk;obtain⟨w1,w2,w3,w4⟩:=MV h hk hS (by omega);obtain⟨c1,c2,c3⟩:=lG h hk S;have mg:=List.mem_of_getElem? h5;have Z6:=(h.gw.ins _ mg).1;obtain⟨b1,b2,b3,b4,t1,t2,t3,t4,t5,t6,t7⟩:=hg _ mg;have KV:=hS.nx;have tD:=rQ (ax g k).ins (dn g inn N k S).E (dn g inn N k S).nx;obtain⟨q1,q2,q3⟩:=wv (ax g k).ins w1 (nx:=(dn g inn N k S).nx) (by omega) (by omega) b4;refine⟨?_,fun j=>?_,fun j b hb=>?_⟩
 ·show 0<=(cC _ _ _).2.1∧(cC _ _ _).2.1<=_;omega
 ·unfold ia;simp only;split
  ·exact q1
  exact hS.ee j
 unfold ia at hb;simp only at hb;split at hb
 ·rw[Option.some.injEq]at hb;subst hb;refine⟨w2,w3,by simp only[List.length_append];omega,fun j hj=>?_,t1,?_,t3,t4,t5⟩
  ·rcases List.mem_append.1 hj with e|e
   ·exact w4 j e
   exact q3 j e
  show cm (ua _ _);unfold ua;split
  ·exact q1.get _
  unfold cm;simp
 exact hS.b j b hb
theorem Dp(h:G8 g ord inn N many n)(hg:∀b∈g.blocks,b.fit):∀(i:Nat),i<=ord.length->Ue (fg g inn N (ord.take i)) i
 | 0,_=>⟨by show(0:Int)<=0∧(0:Int)<=_;omega,fun j=>EF.none,fun j b hb=>by cases hb⟩
 | i+1,hi=>by
  have ih:=Dp h hg i (by omega);have hk:ord[i]?=some (ord[i]'(by omega)):=List.getElem?_eq_getElem _;have hr:=h.zh _ (List.mem_of_getElem? hk);have bJ:fg g inn N (ord.take (i+1))=ia g inn N (ord[i]'(by omega)).toNat (fg g inn N (ord.take i)):=by
   rw[List.take_add_one,hk];unfold fg;rw[List.foldl_append];rfl
  rw[bJ];have:=h.few;exact I2 h hg (by omega) ih (by omega)
end
section
variable {f:Func} (a8:f.fit) (hm:ou f) (hc:aZ (eC f)=0)
include a8 hm hc
theorem N':∀b∈(fR f).blocks,b.fit:=fun b hb=>by
 obtain⟨j,hj⟩:=List.mem_iff_getElem?.1 hb;have EO:=I hj;obtain⟨k,c,_,h2,rfl⟩:=yz a8 hm hc hj;rw[oG a8 hm hc]at EO;obtain⟨b1,b2,b3,b4,t1,t2,t3,t4,t5,t6,t7⟩:=a8.2.2 _ (List.mem_of_getElem? h2);obtain⟨e1,e2⟩:=CU a8 hm hc EO;have hf:=(Uw a8 hm hc).few;refine⟨b1,b2,b3,b4,t1,t2,t3,t4,t5,Nat.le_trans e1 (by decide),fun e he=>?_⟩;obtain⟨p1,p2,p3⟩:=e2 e he;exact⟨by unfold cm;omega,by rw[p3];simp[iX],by rw[p3];simp⟩
theorem Xp:Ue (me f) 128:=by
 have hW:=J9 a8 hm hc;have:=Dp hW (N' a8 hm hc) _ (Nat.le_refl _);rw[List.take_length]at this;refine⟨⟨this.nx.1,?_⟩,this.ee,this.b⟩;have h1:=this.nx.2;have h2:=hW.few;unfold me;omega
theorem RR{b:Block}(hb:b∈(dR f).blocks):∃j:Nat,j<(fR f).blocks.length∧b=rU (fR f) (cI (bj (eC f))) (c4 f) (me f) j:=by
 unfold dR at hb;obtain⟨j,hj,rfl⟩:=List.mem_map.1 hb;exact⟨j,List.mem_range.1 hj,rfl⟩
theorem RS:(dR f).fit:=by
 have hW:=J9 a8 hm hc;have hS:=Xp a8 hm hc;have TL:=hW.gw.few;refine⟨a8.1,?_,fun b hb=>?_⟩
 ·unfold dR;rw[List.length_map,List.length_range];omega
 obtain⟨j,hj,rfl⟩:=RR a8 hm hc hb;obtain⟨h1,h2,h3,h4,h5⟩:=hW.row hj;obtain⟨p1,p2⟩:=hW.gw.to _ (List.mem_of_getElem? h5);have hz:cm 0:=by unfold cm;simp
 have rO:((ax (fR f) j).term.to.map (Gk (cI (bj (eC f))) (c4 f) ((me f).EE j))).length<=2 ^ 47∧∀e∈(ax (fR f) j).term.to.map (Gk (cI (bj (eC f))) (c4 f) ((me f).EE j)),e.fit:=by
  refine⟨by rw[List.length_map];exact Nat.le_trans p1 (by decide),fun e he=>?_⟩;obtain⟨x,hx,rfl⟩:=List.mem_map.1 he;obtain⟨x1,x2,x3⟩:=p2 x hx;obtain⟨_,r2,_⟩:=hW.row (k:=x.block.toNat) (by omega);have Nb:=hW.gw.M3;refine⟨by show cm x.block;unfold cm;omega,?_,?_⟩
  ·unfold Gk;simp only;split
   ·intro y hy;obtain⟨v,_,rfl⟩:=List.mem_map.1 hy;exact(hS.ee j).get v
   simp[iX]
  unfold Gk;simp only;split
  ·rw[List.length_map];have e1:=gU ((c4 f).getD x.block.toNat []) 0;have e2:=List.countP_le_length (p:=id) (l:=(c4 f).getD x.block.toNat []);omega
  simp
 unfold rU;cases hB:(me f).B j with
 | none=>exact⟨by simp[iX,n4],by simp[n4],by simp[n4],fun i hi=>(by simp[n4]at hi),hz,hz,hz,by simp[iX,n4],by simp[n4],rO.1,rO.2⟩
 | some c =>
  have q:=hS.b j c hB;exact⟨q.par,Nat.le_trans q.Y8 (by decide),Nat.le_trans q.Y2 (by decide),fun i hi=>(q.ins i hi).1,q.kind,q.arg,q.n,q.cases,q.Xl,rO.1,rO.2⟩
end
end Go.Proofs.YtjdnhamngpafmaaGreat
namespace Go.Proofs.YtjdnhamngpafmaaGreat
open Go.Av
theorem rP:∀(l r:List Ins) (E:Env) (nx:Int),cC E nx (l++r)=((cC (cC E nx l).1 (cC E nx l).2.1 r).1,(cC (cC E nx l).1 (cC E nx l).2.1 r).2.1,(cC E nx l).2.2++(cC (cC E nx l).1 (cC E nx l).2.1 r).2.2)
 | [],r,E,nx=>rfl
 | i::l,r,E,nx=>by
  rw[List.cons_append,cC,cC];split
  ·exact rP l r _ _
  simp only[rP l r,List.cons_append]
def EB(E:Env)(b:Int):Prop:=∀w y,E w=some y->y<b
theorem EB.mono{E:Env}{a b:Int}(h:EB E a)(Ky:a<=b):EB E b:=fun w y hw=>by have:=h w y hw;omega
theorem EB.none(b:Int):EB ot b:=fun w y hw=>by cases hw
theorem EB.up{E:Env}{b:Int}(h:EB E b)(v:Int){x:Int}(hx:x<b):EB (n5 E v x) b:=fun w y hw=>by
 unfold n5 at hw;split at hw
 ·rw[Option.some.injEq]at hw;omega
 exact h w y hw
theorem EB.M0:∀(l:List Int) {E:Env} {nx:Int},EB E nx->EB (dG E nx l) (nx+l.length)
 | [],E,nx,h=>h.mono (by simp)
 | a::r,E,nx,h=>by
  rw[dG,List.length_cons];exact(EB.M0 r ((h.mono (by omega:nx<=nx+1)).up a (by omega))).mono (by omega)
theorem EB.ins:∀(l:List Ins) {E:Env} {nx:Int},EB E nx->(∀(A B:List Ins) i,l=A++i::B->i.op=100->∃a y,i.args=[a]∧(cC E nx A).1 a=some y)->EB (cC E nx l).1 (cC E nx l).2.1
 | [],E,nx,h,_=>h
 | i::r,E,nx,h,hc=>by
  rw[cC];split
  ·rename_i dH;obtain⟨a,y,h1,h2⟩:=hc [] r i rfl dH;have h2:E a=some y:=h2;have he:(i.args.map (gE E)).headD 0=y:=by
    rw[h1];show gE E a=y;unfold gE;rw[h2];rfl
   rw[he];refine EB.ins r (h.up i.to (h a y h2)) fun A B j hj q=>?_;obtain⟨a',y',q1,q2⟩:=hc (i::A) B j (by rw[hj];rfl) q;refine⟨a',y',q1,?_⟩;rw[cC,if_pos dH,he]at q2;exact q2
  rename_i dH;refine EB.ins r ((h.mono (by omega:nx<=nx+1)).up i.to (by omega)) fun A B j hj q=>?_;obtain⟨a',y',q1,q2⟩:=hc (i::A) B j (by rw[hj];rfl) q;refine⟨a',y',q1,?_⟩;rw[cC,if_neg dH]at q2;exact q2
theorem VE.bind:∀(P:List Int) (args:List SV) {E:Env} {nx:Int} {es es':List (Int×SV)},P.length=args.length->VE E es es'->EB E nx->VE (dG E nx P) (cN es P args) (cN es' (dj nx P.length) args)
 | [],[],E,nx,es,es',_,h,_=>h
 | [],_::_,_,_,_,_,hl,_,_=>by simp at hl
 | _::_,[],_,_,_,_,hl,_,_=>by simp at hl
 | p::P,a::args,E,nx,es,es',hl,h,hb=>by
  have sP:dj nx (P.length+1)=nx::dj (nx+1) P.length:=by
   unfold dj;rw[List.range_succ_eq_map,List.map_cons,List.map_map];simp only[Int.natCast_zero,Int.add_zero,List.cons.injEq,true_and];exact List.map_congr_left fun k _=>by
    show nx+((k+1:Nat):Int)=nx+1+(k:Int)
    omega
  rw[List.length_cons,sP,dG,cN,cN];exact VE.bind P args (by simpa using hl) (h.put (fun w y hw=>by have:=hb w y hw;omega) a) ((hb.mono (by omega:nx<=nx+1)).up p (by omega))
theorem VE.Rs:∀(z:List Int) {E:Env} {nx:Int} {es es':List (Int×SV)},VE E es es'->EB E nx->(∀w∈z,fk es w=.word 0)->VE (dG E nx z) es (xi (dj nx z.length) es')
 | [],E,nx,es,es',h,_,_=>h
 | w::z,E,nx,es,es',h,hb,hz=>by
  have sP:dj nx (z.length+1)=nx::dj (nx+1) z.length:=by
   unfold dj;rw[List.range_succ_eq_map,List.map_cons,List.map_map];simp only[Int.natCast_zero,Int.add_zero,List.cons.injEq,true_and];exact List.map_congr_left fun k _=>by
    show nx+((k+1:Nat):Int)=nx+1+(k:Int)
    omega
  rw[List.length_cons,sP,dG];unfold xi;rw[List.foldl_cons];refine VE.Rs z (E:=n5 E w nx) ?_ ((hb.mono (by omega:nx<=nx+1)).up w (by omega)) fun v hv=>hz v (List.mem_cons_of_mem _ hv);intro v x hx;rw[mF];unfold n5 at hx;split at hx
  ·rename_i e;rw[Option.some.injEq]at hx;rw[if_pos hx,e,hz w List.mem_cons_self]
  have:=hb v x hx;rw[if_neg (by omega)];exact h v x hx
theorem VE.pass{E1:Env}{es es1:List (Int×SV)}:∀(l:List Int) {E:Env} {nx:Int} {es':List (Int×SV)},VE E es es'->EB E nx->VE (dG E nx l) es (cN es' (dj nx l.length) (cB es l))
 | [],E,nx,es',h,_=>by
  have:cN es' (dj nx ([]:List Int).length) (cB es [])=es':=rfl;rw[this];exact h
 | w::l,E,nx,es',h,hb=>by
  have sP:dj nx (l.length+1)=nx::dj (nx+1) l.length:=by
   unfold dj;rw[List.range_succ_eq_map,List.map_cons,List.map_map];simp only[Int.natCast_zero,Int.add_zero,List.cons.injEq,true_and];exact List.map_congr_left fun k _=>by
    show nx+((k+1:Nat):Int)=nx+1+(k:Int)
    omega
  rw[List.length_cons,sP,dG];show VE _ es (cN (cJ es' nx (fk es w)) (dj (nx+1) l.length) (cB es l));refine VE.pass (E1:=E1) (es1:=es1) l ?_ ((hb.mono (by omega:nx<=nx+1)).up w (by omega));intro v x hx;rw[mF];unfold n5 at hx;split at hx
  ·rename_i e;rw[Option.some.injEq]at hx;rw[if_pos hx,e]
  have:=hb v x hx;rw[if_neg (by omega)];exact h v x hx
theorem Ax{g:Func}{many:Nat}{k:Int}{S:Ng}(h:(jr g many k S).again=false):jr g many k S=S∧mz g many S.N k=cq S.N k:=by
 unfold jr at h ⊢;split
 ·rename_i e;exact⟨rfl,e⟩
 rename_i e;rw[if_neg e]at h;cases h
theorem yY{g:Func}{many:Nat}:∀(l:List Int) {S:Ng},(CM g many l S).again=false->CM g many l S=S∧∀k∈l,mz g many S.N k=cq S.N k
 | [],S,h=>⟨rfl,fun k hk=>by cases hk⟩
 | k::r,S,h=>by
  have e:CM g many (k::r) S=jr g many k (CM g many r S):=rfl;rw[e]at h ⊢;obtain⟨q1,q2⟩:=Ax h;rw[q1]at h ⊢;obtain⟨q3,q4⟩:=yY r h;rw[q3]at q2 ⊢;refine⟨rfl,fun j hj=>?_⟩;rcases List.mem_cons.1 hj with p|p
  ·rw[p];exact q2
  exact q4 j p
theorem GV{g:Func}{many:Nat}{ord:List Int}(ho:∀k∈ord,0<=k∧k<g.blocks.length):∀(n:Nat) {S:Ng},uZ g many ord S->S.weight many<n->(∀k∈ord,S.again=false->mz g many S.N k=cq S.N k)->∀k∈ord,mz g many (Jk g many ord n S).N k=cq (Jk g many ord n S).N k
 | 0,S,_,h,_,_,_=>by omega
 | n+1,S,hS,hw,hf,k,hk=>by
  rw[Jk];split
  ·obtain⟨r1,r2,r3⟩:=Aw ord (S:=⟨S.N,false⟩) ⟨hS.len,hS.sz,hS.low⟩ fun x hx=>⟨hx,ho x hx⟩
   have GF:(⟨S.N,false⟩:Ng).weight many=S.weight many:=rfl;cases ha:(CM g many ord ⟨S.N,false⟩).again with
   | false =>
    obtain⟨p1,p2⟩:=yY ord ha;rw[p1,CL rfl];exact p2 k hk
   | true =>
    rcases r3 ha with q|q
    ·cases q
    exact GV ho n r1 (by omega) (fun j hj q2=>by rw[ha]at q2;cases q2) k hk
  rename_i h;exact hf k hk (by simpa using h)
theorem Im{g:Func}{many:Nat}{ord:List Int}(ho:∀k∈ord,0<=k∧k<g.blocks.length)(h1:g.blocks.length<=128)(h2:many<=4096):∀k∈ord,mz g many (rS g many ord) k=cq (rS g many ord) k:=by
 refine GV ho 700000 (Fg g many ord) ?_ fun k hk h=>by cases h
 have:=wB g.blocks.length many;have h3:g.blocks.length*many<=128*4096:=Nat.mul_le_mul h1 h2;omega
end Go.Proofs.YtjdnhamngpafmaaGreat
namespace Go.Proofs.YtjdnhamngpafmaaGreat
open Go.Av
def DE(E:Env)(s:List Bool):Prop:=∀v:Nat,Hs s v->∃y,E (v:Int)=some y
theorem vc:∀(l:List Int) {E:Env} {nx w:Int},(∃y,E w=some y)->∃y,dG E nx l w=some y
 | [],_,_,_,h=>h
 | a::r,E,nx,w,h=>by
  rw[dG];refine vc r ?_;unfold n5;by_cases e:w=a
  ·exact⟨nx,if_pos e⟩
  rw[if_neg e];exact h
theorem rf:∀(l:List Int) {E:Env} {nx w:Int},w∈l->∃y,dG E nx l w=some y
 | a::r,E,nx,w,h=>by
  rw[dG];rcases List.mem_cons.1 h with e|e
  ·refine vc r ⟨nx,?_⟩;unfold n5;rw[if_pos e]
  exact rf r e
theorem DE.up{E:Env}{s:List Bool}{i:Ins}(h:DE E (lh i s))(h0:0<=i.to)(x:Int):DE (n5 E i.to x) s:=fun v hv=>by
 unfold n5;by_cases e:(v:Int)=i.to
 ·exact⟨x,if_pos e⟩
 rw[if_neg e];exact h v ((rN i s v).2 (.inl ⟨by omega,hv⟩))
theorem DE.ins:∀(l:List Ins) {E:Env} {nx:Int} {s:List Bool},DE E (fM l s)->(∀i∈l,0<=i.to)->DE (cC E nx l).1 s
 | [],_,_,_,h,_=>h
 | i::r,E,nx,s,h,h0=>by
  have hr:=fun j hj=>h0 j (List.mem_cons_of_mem i hj);have hb:DE E (lh i (fM r s)):=h;rw[cC];split
  ·exact DE.ins r (hb.up (h0 i List.mem_cons_self) _) hr
  exact DE.ins r (hb.up (h0 i List.mem_cons_self) _) hr
theorem DE.arg{E:Env}{s:List Bool}{i:Ins}(h:DE E (lh i s)){a:Int}(ha:a∈i.args)(h0:0<=a)(h1:a<s.length):∃y,E a=some y:=by
 have:=h a.toNat ((rN i s a.toNat).2 (.inr ⟨by omega,a,ha,rfl⟩))
 rwa [show((a.toNat:Nat):Int)=a by omega]at this
theorem He(l r:List Ins)(s:List Bool):fM (l++r) s=fM l (fM r s):=by
 unfold fM;rw[List.foldr_append]
structure QA(g:Func)(ord:List Int)(inn:List (List Int))(N:List (List Bool))(many n:Nat):Prop where
 w:G8 g ord inn N many n
 fix:∀k∈ord,mz g many N k=cq N k
 pred:∀(k:Nat) p,k<n->p∈inn.getD k []->∃e∈(ax g p).term.to,e.block=k
 succ:∀(j:Nat) e,j<n->e∈(ax g j).term.to->(j:Int)∈inn.getD e.block.toNat []
 all:∀j<n,(j:Int)∈ord
section
variable {g:Func} {ord:List Int} {inn:List (List Int)} {N:List (List Bool)} {many n:Nat}
theorem j5{i k:Nat}(hk:ord[i]?=some (k:Int)):fg g inn N (ord.take (i+1))=ia g inn N k (fg g inn N (ord.take i)):=by
 rw[List.take_add_one,hk];unfold fg;rw[List.foldl_append];rfl
theorem sn(k:Nat)(S:Ws):(ia g inn N k S).EE k=(cC (dn g inn N k S).E (dn g inn N k S).nx (ax g k).ins).1 ∧
  (ia g inn N k S).B k=some ⟨(dn g inn N k S).ps,(dn g inn N k S).is++(cC (dn g inn N k S).E (dn g inn N k S).nx (ax g k).ins).2.2,⟨(ax g k).term.kind,ua (cC (dn g inn N k S).E (dn g inn N k S).nx (ax g k).ins).1 (ax g k).term,(ax g k).term.n,(ax g k).term.cases,[]⟩⟩:=by
 unfold ia;simp
theorem so{k j:Nat}(h:j≠k)(S:Ws):(ia g inn N k S).EE j=S.EE j∧(ia g inn N k S).B j=S.B j:=by
 unfold ia;simp[h]
theorem tn(h:G8 g ord inn N many n){i k:Nat}(hk:ord[i]?=some (k:Int)):∀d,i+1+d<=ord.length->(fg g inn N (ord.take (i+1+d))).EE k=(ia g inn N k (fg g inn N (ord.take i))).EE k∧(fg g inn N (ord.take (i+1+d))).B k=(ia g inn N k (fg g inn N (ord.take i))).B k
 | 0,_=>by rw[Nat.add_zero,j5 hk];exact⟨rfl,rfl⟩
 | d+1,hd=>by
  have ih:=tn h hk d (by omega);have hj:ord[i+1+d]?=some (ord[i+1+d]'(by omega)):=List.getElem?_eq_getElem _;have hr:=h.zh _ (List.mem_of_getElem? hj);obtain⟨j,rK⟩:∃j:Nat,ord[i+1+d]'(by omega)=(j:Int):=⟨(ord[i+1+d]'(by omega)).toNat,by omega⟩
  rw[rK]at hj;have ct:k≠j:=fun e=>by
   subst e;have:=h.nd _ _ _ hk hj;omega
  rw[<-Nat.add_assoc,j5 hj,(so ct _).1,(so ct _).2];exact ih
theorem qn(h:QA g ord inn N many n){k j:Nat}(hk:k<n)(DB:0<k)(hj:j<n){e:Edge}(he:e∈(ax g j).term.to)(WR:e.block=k){v:Nat}(hv:Hs (N.getD k []) v):Hs (lW g many N (ax g j).term) v:=by
 have hl:=(h.w.row hk).2.1;refine(wj g many N _ v).2 ⟨by have:=hv.lt;omega,.inl ⟨e,he,?_,?_⟩⟩
 ·rw[WR];unfold cq;rw[Int.toNat_natCast,<-List.getD_eq_getElem?_getD];exact hv
 rw[WR];have:=h.w.gw.par k _ (h.w.row hk).2.2.2.2 DB;rw[this];rfl
structure XI(g:Func)(ord:List Int)(inn:List (List Int))(N:List (List Bool))(many i:Nat):Prop where
 ee:∀j,EB ((fg g inn N (ord.take i)).EE j) (fg g inn N (ord.take i)).nx
 QM:∀j∈ord.take i,DE ((fg g inn N (ord.take i)).EE j.toNat) (lW g many N (ax g j).term)
theorem Dn(h:QA g ord inn N many n){i k:Nat}(hI:XI g ord inn N many i)(hk:ord[i]?=some (k:Int)) :
  DE (dn g inn N k (fg g inn N (ord.take i))).E (N.getD k [])∧EB (dn g inn N k (fg g inn N (ord.take i))).E (dn g inn N k (fg g inn N (ord.take i))).nx:=by
 have lU:k<n:=by have:=h.w.zh _ (List.mem_of_getElem? hk);omega
 generalize hS:fg g inn N (ord.take i)=S at *;have he:=hI.ee;have hd:=hI.QM;rw[hS]at he hd;unfold dn;by_cases e:k=0
 ·subst e;rw[if_pos rfl];refine⟨fun v hv=>?_,?_⟩
  ·show ∃y,dG (dG ot S.nx (ax g 0).params) _ _ (v:Int)=some y;cases hq:dG ot S.nx (ax g 0).params (v:Int)with
   | some y=>exact vc _ ⟨y,hq⟩
   | none =>
    refine rf _ ?_;unfold sr;rw[List.take_length];refine List.mem_filter.2 ⟨?_,by rw[hq];rfl⟩;have:=sW (N.getD 0 []) 0 hv
    rwa [Nat.zero_add]at this
  exact(EB.M0 _ (EB.M0 _ (EB.none S.nx))).mono (by simp)
 rw[if_neg e];by_cases e1:(inn.getD k []).length=1
 ·rw[if_pos e1];obtain⟨p,hp⟩:=List.length_eq_one_iff.1 e1;have SE:=h.w.one i k p hk (by omega) (by rw[Int.toNat_natCast,(h.w.row lU).2.2.1,hp]);have xm:=h.w.zh p (List.mem_of_mem_take SE);obtain⟨x,hx,hxk⟩:=h.pred k p lU (by rw[hp];simp);rw[hp];refine⟨fun v hv=>?_,he _⟩;have Jg:((p.toNat:Nat):Int)=p:=by omega
  exact hd p SE v (by
   have:=qn h lU (by omega) (j:=p.toNat) (by omega) (e:=x) (by rw[Jg];exact hx) hxk hv
   rwa [Jg]at this)
 rw[if_neg e1];refine⟨fun v hv=>rf _ ?_,EB.M0 _ (EB.none _)⟩;have:=sW (N.getD k []) 0 hv
 rwa [Nat.zero_add]at this
theorem CJ(h:QA g ord inn N many n){k:Nat}(lU:k<n):N.getD k []=fM (ax g k).ins (lW g many N (ax g k).term):=by
 have:=h.fix (k:Int) (h.all k lU);unfold cq at this;rw[Int.toNat_natCast,<-List.getD_eq_getElem?_getD]at this;rw[<-this];rfl
theorem DQ(h:QA g ord inn N many n){i k:Nat}(hI:XI g ord inn N many i)(hk:ord[i]?=some (k:Int)){A B:List Ins}(Ob:(ax g k).ins=A++B) :
  DE (cC (dn g inn N k (fg g inn N (ord.take i))).E (dn g inn N k (fg g inn N (ord.take i))).nx A).1 (fM B (lW g many N (ax g k).term)):=by
 have lU:k<n:=by have:=h.w.zh _ (List.mem_of_getElem? hk);omega
 have hd:=(Dn h hI hk).1;rw[CJ h lU,Ob,He]at hd;refine DE.ins A hd fun i hi=>?_;have:=((h.w.gw.ins _ (List.mem_of_getElem? (h.w.row lU).2.2.2.2)).2 i (by rw[Ob];exact List.mem_append_left _ hi)).1;exact this.1
theorem Jx(h:QA g ord inn N many n){i k:Nat}(hI:XI g ord inn N many i)(hk:ord[i]?=some (k:Int)){A B:List Ins}{j:Ins}(Ob:(ax g k).ins=A++j::B){a:Int}(ha:a∈j.args) :
  ∃y,(cC (dn g inn N k (fg g inn N (ord.take i))).E (dn g inn N k (fg g inn N (ord.take i))).nx A).1 a=some y:=by
 have lU:k<n:=by have:=h.w.zh _ (List.mem_of_getElem? hk);omega
 have hd:=DQ h hI hk Ob;have:=((h.w.gw.ins _ (List.mem_of_getElem? (h.w.row lU).2.2.2.2)).2 j (by rw[Ob];simp)).2.1 a ha;refine DE.arg (i:=j) (s:=fM B (lW g many N (ax g k).term)) hd ha this.1 ?_;rw[mu,pK];exact this.2
theorem QG(h:QA g ord inn N many n){i k:Nat}(hI:XI g ord inn N many i)(hk:ord[i]?=some (k:Int)){A B:List Ins}(Ob:(ax g k).ins=A++B) :
  EB (cC (dn g inn N k (fg g inn N (ord.take i))).E (dn g inn N k (fg g inn N (ord.take i))).nx A).1 (cC (dn g inn N k (fg g inn N (ord.take i))).E (dn g inn N k (fg g inn N (ord.take i))).nx A).2.1:=by
 have lU:k<n:=by have:=h.w.zh _ (List.mem_of_getElem? hk);omega
 have mg:=List.mem_of_getElem? (h.w.row lU).2.2.2.2;refine EB.ins A (Dn h hI hk).2 fun A' B' j hj dH=>?_;have UB:(ax g k).ins=A'++j::(B'++B):=by rw[Ob,hj];simp
 have hl:=h.w.cp _ mg j (by rw[UB];simp) dH;obtain⟨a,ha⟩:=List.length_eq_one_iff.1 hl;obtain⟨y,hy⟩:=Jx h hI hk UB (a:=a) (by rw[ha];simp);exact⟨a,y,ha,hy⟩
theorem XI.all(h:QA g ord inn N many n):∀i,i<=ord.length->XI g ord inn N many i
 | 0,_=>⟨fun j=>EB.none _,fun j hj=>by simp at hj⟩
 | i+1,hi=>by
  have hI:=XI.all h i (by omega);have hj:ord[i]?=some (ord[i]'(by omega)):=List.getElem?_eq_getElem _;have hr:=h.w.zh _ (List.mem_of_getElem? hj);obtain⟨k,gl⟩:∃k:Nat,ord[i]'(by omega)=(k:Int):=⟨(ord[i]'(by omega)).toNat,by omega⟩
  rw[gl]at hj hr;have lU:k<n:=by omega
  have X5:=QG h hI hj (A:=(ax g k).ins) (B:=[]) (by simp);have jP:=DQ h hI hj (A:=(ax g k).ins) (B:=[]) (by simp);have hle:=rQ (ax g k).ins (dn g inn N k (fg g inn N (ord.take i))).E (dn g inn N k (fg g inn N (ord.take i))).nx;have UR:=lG h.w lU (fg g inn N (ord.take i));have KV:(fg g inn N (ord.take (i+1))).nx=(cC (dn g inn N k (fg g inn N (ord.take i))).E (dn g inn N k (fg g inn N (ord.take i))).nx (ax g k).ins).2.1:=by
   rw[j5 hj];rfl
  refine⟨fun j=>?_,fun j Yo=>?_⟩
  ·rw[KV];by_cases e:j=k
   ·subst e;rw[j5 hj,(sn j _).1];exact X5
   rw[j5 hj,(so e _).1];exact(hI.ee j).mono (by omega)
  rw[List.take_add_one,hj]at Yo;by_cases e:j.toNat=k
  ·have Yn:j=(k:Int):=by
    rcases List.mem_append.1 Yo with q|q
    ·have:=h.w.zh j (List.mem_of_mem_take q);omega
    simpa using q
   subst Yn;rw[e,j5 hj,(sn k _).1];exact jP
  rw[j5 hj,(so e _).1];rcases List.mem_append.1 Yo with q|q
  ·exact hI.QM j q
  have:j=(k:Int):=by simpa using q
  subst this;exact absurd (Int.toNat_natCast k) e
end
end Go.Proofs.YtjdnhamngpafmaaGreat
namespace Go.Proofs.YtjdnhamngpafmaaGreat
open Go.Av
section
variable {g:Func} {ord:List Int} {inn:List (List Int)} {N:List (List Bool)} {many n i k:Nat} {S:Ws} {C A:List ae}
theorem Hg(h:G8 g ord inn N many n)(hI:WI ord n i S C A)(hk:ord[i]?=some (k:Int)) :
  bd Tryz.prog 106 (nk g ord inn N S.nx n C A) [.mp 7 0,aI k] (fun r O'=>∃es,r=.mm 8∧eo es (dn g inn N k S).E ∧
   O'=nk g ord inn N (dn g inn N k S).nx n (CB C k (dn g inn N k S).ps (dn g inn N k S).is) A++[.map (.int .i64) es,.spare (dn g inn N k S).is.length]):=by
 have lU:k<n:=by have:=h.zh _ (List.mem_of_getElem? hk);omega
 obtain⟨h1,h2,h3,h4,h5⟩:=h.row lU;have hm:=h.gw.M3;have hn:=h.gw.few;rw[h.len]at hn;have xK:=I hk;have uv:=h.few;have KV:0<=S.nx∧S.nx<=2 ^ 30:=by have:=hI.nx;omega
 have W4:S.B k=none:=by
  refine hI.no k fun q=>?_;obtain⟨j,hj⟩:=List.mem_iff_getElem?.1 q;rw[List.getElem?_take]at hj;split at hj
  ·have:=h.nd _ _ _ hj hk;omega
  cases hj
 have Gr:C[k*7]?=some (.aC 1 [] .ex):=by
  have:=hI.ch k lU 0 (by omega);rw[W4]at this;exact this
 have lL:C[k*7+1]?=some (.aC 4 [] .ex):=by
  have:=hI.ch k lU 1 (by omega);rw[W4]at this;exact this
 unfold dn;by_cases e:k=0
 ·subst e;rw[if_pos rfl];have xO:=h.gw.Fu _ (List.mem_of_getElem? h5);have:=DW (ord:=ord) (inn:=inn) (nx:=S.nx) (n:=n) (many:=many) (C:=C) (A:=A) hI.Qv hI.Qu KV hI.uy hI.Pl lU Gr lL h1 h2 hm.2 h5 xO.1 (fun v hv=>by
   have:=xO.2 v hv;unfold G9 at this;unfold cm;omega) hn.2
  simp only[List.length_map,gn];exact this
 rw[if_neg e];by_cases e1:(inn.getD k []).length=1
 ·rw[if_pos e1];obtain⟨p,hp⟩:=List.length_eq_one_iff.1 e1;rw[hp]at h3 ⊢;have SE:=h.one i k p hk (by omega) (by rw[Int.toNat_natCast];exact h3);obtain⟨eP,q1,q2⟩:=hI.en p SE;exact Hh hI.Qv hI.Qu hI.uy hI.Pl Gr lL lU e h3 (h.zh p (List.mem_of_mem_take SE)) q1 hI.qJ q2 hn.2
 rw[if_neg e1];exact DV hI.Qv hI.Qu KV hI.uy hI.Pl lU e Gr lL h1 h2 hm.2 h3 e1 h4 hn.2
theorem F4(h:G8 g ord inn N many n)(hI:WI ord n i S C A)(hk:ord[i]?=some (k:Int)) :
  bd Tryz.prog 73 (nk g ord inn N S.nx n C A) [.mp 7 0,aI k] (fun r O'=>r=.cD []∧∃C' A',WI ord n (i+1) (ia g inn N k S) C' A'∧O'=nk g ord inn N (ia g inn N k S).nx n C' A'):=by
 have lU:k<n:=by have:=h.zh _ (List.mem_of_getElem? hk);omega
 obtain⟨h1,h2,h3,h4,h5⟩:=h.row lU;have hn:=h.gw.few;rw[h.len]at hn;have xK:=I hk;have uv:=h.few;have KV:=hI.nx;obtain⟨w1,w2,w3⟩:=lG h lU S;have mg:=List.mem_of_getElem? h5;refine(Dq hI.Qv hI.Qu h.gw hI.uy hI.qJ hI.Pl lU hn.2 h5 (h.cases _ mg) (h.cp _ mg) (by omega) w3 (Hg h hI hk)).mono ?_;rintro r O' ⟨q1,es,q2,q3⟩;exact⟨q1,_,_,hI.step h hk q2,q3⟩
theorem F5(h:G8 g ord inn N many n)(hI:WE g inn N n k S C A)(lU:k<n) :
  bd Tryz.prog 74 (nk g ord inn N S.nx n C A) [.mp 7 0,aI k] (fun r O'=>r=.cD []∧∃C',WE g inn N n (k+1) S C' A∧O'=nk g ord inn N S.nx n C' A):=by
 obtain⟨h1,h2,h3,h4,h5⟩:=h.row lU;have hn:=h.gw.few;rw[h.len]at hn;have hm:=h.gw.M3;obtain⟨es,q1,q2⟩:=hI.en k lU;have XX:C[k*7+6]?=some (.aC 2 [] .ex):=by
  have:=hI.ch k lU 6 (by omega);obtain⟨b,hb⟩:=hI.ok k lU;rw[if_neg (by omega),hb]at this;exact this
 refine(Dr hI.Qv hI.Qu h.gw hI.uy hI.qJ hI.Pl lU hn.2 h.len h5 h.O8 h.Nl (fun s hs=>by rw[h.Ns s hs];exact hm.2) h.Wh q1 q2 XX).mono ?_;rintro r O' ⟨p1,p2⟩;exact⟨p1,_,hI.step lU,p2⟩
end
end Go.Proofs.YtjdnhamngpafmaaGreat
namespace Go.Proofs.YtjdnhamngpafmaaGreat
open Go.Av

end Go.Proofs.YtjdnhamngpafmaaGreat
namespace Go.Av
def CF{ι:Type}(τ:ι->St)(Q:dE->St->Prop):dE->St->Prop
 | .norm,σ=>∃i,bc σ (τ i)
 | e,σ=>Q e σ
theorem Hd{P:Program}{kb:Nat}{x y:Code}{Q:dE->St->Prop}{σ:St}{ι:Type}(τ:ι->St)(h1:cc P kb x (CF τ Q) σ)(h2:∀i,cc P kb y Q (τ i)):cc P kb x (bK P kb y Q) σ :=
 h1.mono fun e fY h=>by
  cases e with
  | norm =>
   obtain⟨i,hi⟩:=h;exact(h2 i).cover hi
  | _=>exact h
theorem Jy{P:Program}{kb:Nat}{x y:Code}{Q:dE->St->Prop}{σ:St}{ι:Type}(τ:ι->St)(h1:cc P kb x (CF τ Q) σ)(h2:∀i,cc P kb y Q (τ i)):cc P kb (.seq x y) Q σ:=aJ (Hd τ h1 h2)
end Go.Av
namespace Go.Proofs.YtjdnhamngpafmaaGreat
open Go.Av
theorem x8(f:Func)(hn:f.blocks.length<=128):bD Tryz.prog 71 [f.enc] (eC f).enc:=by
 obtain⟨K,hK⟩:∃K,K=f.blocks.mapIdx kL:=⟨_,rfl⟩
 have hKl:K.length=f.blocks.length:=by rw[hK,List.length_mapIdx]
 have XB:∀(k:Nat) b,f.blocks[k]?=some b->K[k]?=some (kL k b):=fun k b h=>by
  rw[hK,List.getElem?_mapIdx,h];rfl
 have sT:eC f=⟨-1,K⟩:=by rw[hK];rfl
 rw[sT];clear hK sT;refine zf true 0 Tryz.func71 Tryz.ntmps71 ?_;dsimp only[Tmp,TypeId,slotsOf];refine aA (ah ?_);refine aD 1 0 (.ip none [aI f.name,ay f.blocks]) rfl (by simp[aj.aF]) trivial rfl ?_ ?_;rotate_left;simp -dsimp only[simprocAttr,↓aa,zp];rotate_left
 ·exact bQ.mp rfl rfl
 refine aA (ah ?_);refine db 2 1 rfl rfl ?_;simp -dsimp only[simprocAttr,↓aa,zp];refine bX (ah ?_);refine ai (aO (ι:={k:Nat // k<=f.blocks.length}) (fun k=>⟨60,[(2,.mp 1 0),(3,.mp 2 0),(10,ay f.blocks),(11,aI f.blocks.length),(12,aI k.1)],[.gone,.cells [aI 0,.aC 7 [] .ex],.cells [aI (-1),.aC 7 ((K.take k.1).map Block.enc) (.tok 3)],.spare k.1]⟩) (fun k=>f.blocks.length-k.1) ⟨0,Nat.zero_le _⟩ ?_ ?_)
 ·refine zq rfl ?_ ?_;simp -dsimp only[simprocAttr,↓aa,zp,zc]
  all_goals rfl
 rintro⟨k,hk⟩;refine aA (ah ?_);apply iz rfl<;>intro h
 ·refine cd ?_;have ER:k<f.blocks.length:=by simpa using h
  obtain⟨b,hb⟩:∃b,f.blocks[k]?=some b:=⟨f.blocks[k],by simp[ER]⟩
  have eH:(K.take (k+1)).map Block.enc=(K.take k).map Block.enc++[(kL k b).enc]:=by
   rw[List.take_add_one,XB k b hb];simp
  have jD:((K.take k).map Block.enc).length=k:=by
   rw[List.length_map,List.length_take];omega
  have TG:∀n,aw n ((K.take k).map Block.enc):=fun n=>Block.ag n _;have Oj:∀n,aw n ((K.take k).map Block.enc++[(kL k b).enc]):=fun n=>by
   rw[<-eH];exact Block.ag n _
  generalize (K.take k).map Block.enc=T at *;obtain⟨t,ht⟩:∃t,t=mP b:=⟨_,rfl⟩
  have Nc:kL k b=⟨[],if Np t=true then [⟨(k:Int),0,0,[]⟩]else [],⟨t.kind,if Np t=true then(k:Int)else 0,t.n,t.cases,t.to⟩⟩:=by rw[ht];rfl
  unfold mP at ht;have Sg:(kL k b).enc=.agg [.aC 1 [] .sh,.aC 4 ((kL k b).ins.map Ins.enc) .sh,aI t.kind,aI (kL k b).term.arg,aI t.n,aK t.cases,aH t.to]:=by
   rw[Nc];rfl
  rw[Sg]at eH Oj;refine aJ (ai ?_);refine aS ?_;simp -dsimp only[simprocAttr,↓aa,zp,hb];refine ah ?_;refine aD 5 4 (.ip none [aK b.params,bf b.ins,aI b.term.kind,aI b.term.arg,aI b.term.n,aK b.term.cases,aH b.term.to]) rfl (by simp[aj.aF]) trivial rfl ?_ ?_;rotate_left;simp -dsimp only[simprocAttr,↓aa,zp];rotate_left
  ·exact bQ.mp rfl rfl
  refine aA (ah ?_);refine Jy (ι:=nR×nR) (fun i=>⟨60,[(2,.mp 1 0),(3,.mp 2 0),(10,ay f.blocks),(11,aI f.blocks.length),(12,aI k),(4,aI k),(6,.mp 5 0)],[.gone,.cells [aI 0,.aC 7 [] .ex],.cells [aI (-1),.aC 7 T (.tok 3)],.spare k,.gone,.cells [aI t.kind,aI 0,aI t.n,.aC 1 (t.cases.map aI) i.1,.aC 2 (t.to.map Edge.enc) i.2]]⟩) ?_ ?_
  ·by_cases q:b.term.kind=0
   ·have d:decide (b.term.kind=0)=true:=decide_eq_true q;rw[if_pos q]at ht;subst ht;refine aS ?_;simp -dsimp only[simprocAttr,↓aa,zp,d];refine ah ?_;refine cH rfl ?_;refine fb hT hm ?_;simp -dsimp only[simprocAttr,↓aa,zp];refine ba ?_;refine⟨(.ex,.ex),?_⟩;refine zq rfl ?_ ?_;simp -dsimp only[simprocAttr,↓aa,zp,zc]
    all_goals rfl
   have d:decide (b.term.kind=0)=false:=decide_eq_false q;rw[if_neg q]at ht;subst ht;refine aS ?_;simp -dsimp only[simprocAttr,↓aa,zp,d];refine ah ?_;refine cr rfl ?_;refine a6 ?_;refine⟨(.sh,.sh),?_⟩;refine zq rfl ?_ ?_;simp -dsimp only[simprocAttr,↓aa,zp,zc]
   all_goals rfl
  rintro⟨o1,o2⟩;refine eN 5 [aI t.kind,aI 0,aI t.n,aK t.cases,aH t.to] rfl rfl (by intro d hd;simp at hd;rcases hd with rfl|rfl|rfl|rfl|rfl<;>trivial) (fun j c d hc hd=>?_) ?_
  ·match j,hc,hd with
   | 0,hc,hd | 1,hc,hd | 2,hc,hd=>simp at hc hd;rw[<-hc,<-hd];exact Sub.refl _
   | 3,hc,hd | 4,hc,hd=>simp at hc hd;rw[<-hc,<-hd];exact Sub.sh rfl
   | j+5,hc,hd=>simp at hc
  simp -dsimp only[simprocAttr,↓aa,zp];refine aA (ah ?_);refine gI (⟨60,[(2,.mp 1 0),(3,.mp 2 0),(10,ay f.blocks),(11,aI f.blocks.length),(12,aI k),(7,.mp 6 0)],[.gone,.cells [aI 0,.aC 7 [] .ex],.cells [aI (-1),.aC 7 T (.tok 3)],.spare k,.gone,.cells [aI t.kind,aI 0,aI t.n,aK t.cases,aH t.to],.cells [.aC 1 [] .ex,.aC 4 ((kL k b).ins.map Ins.enc) .ex,aI t.kind,aI (kL k b).term.arg,aI t.n,aK t.cases,aH t.to]]⟩) ?_ ?_
  ·rw[Nc];unfold Np;by_cases q2:t.kind=2
   ·have d2:decide (t.kind=2)=true:=decide_eq_true q2;refine aS ?_;simp -dsimp only[simprocAttr,↓aa,zp,d2];refine ah ?_;refine cH rfl ?_;refine aA (ah ?_);refine fb hT hm ?_;simp -dsimp only[simprocAttr,↓aa,zp];refine ba ?_;show bc _ _;refine zq rfl ?_ ?_;simp -dsimp only[simprocAttr,↓aa,zp,zc]
    all_goals (simp[d2];rfl)
   have d2:decide (t.kind=2)=false:=decide_eq_false q2;by_cases q3:t.kind=3
   ·have d3:decide (t.kind=3)=true:=decide_eq_true q3;refine aS ?_;simp -dsimp only[simprocAttr,↓aa,zp,d2,d3];refine ah ?_;refine cH rfl ?_;refine aA (ah ?_);refine fb hT hm ?_;simp -dsimp only[simprocAttr,↓aa,zp];refine ba ?_;show bc _ _;refine zq rfl ?_ ?_;simp -dsimp only[simprocAttr,↓aa,zp,zc]
    all_goals (simp[d2,d3];rfl)
   have d3:decide (t.kind=3)=false:=decide_eq_false q3;refine aS ?_;simp -dsimp only[simprocAttr,↓aa,zp,d2,d3];refine ah ?_;refine cr rfl ?_;refine a6 ?_;show bc _ _;refine zq rfl ?_ ?_;simp -dsimp only[simprocAttr,↓aa,zp,zc]
   all_goals (simp[d2,d3];done)
  refine kC ?_;simp -dsimp only[simprocAttr,↓aa,zp,jD]
  repeat(refine⟨by omega,?_⟩)
  refine ah ?_;refine bt 4 [(2,.mp 1 0),(3,.mp 2 0),(10,ay f.blocks),(11,aI f.blocks.length),(12,aI k)] (by simp) (by omega) [.gone,.cells [aI 0,.aC 7 [] .ex],.cells [aI (-1),.aC 7 (T++[.agg [.aC 1 [] .sh,.aC 4 ((kL k b).ins.map Ins.enc) .sh,aI t.kind,aI (kL k b).term.arg,aI t.n,aK t.cases,aH t.to]]) (.tok 3)],.spare (k+1)] ?_ ?_ ?_ ?_ ?_
  ·rfl
  ·simp[aj.upto,aw,ae.upto,az,Oj,Ins.ag,Edge.ag]
  ·simp[fj,St.get,bF,bh,Go.Av.look,Sub.refl]
  ·simp[aj.upto,aw,ae.upto,az,Func.ag,Block.ag]
  refine cT ?_
  repeat(refine⟨by omega,?_⟩)
  refine fK ?_;refine⟨⟨k+1,ER⟩,by simp;omega,?_⟩;dsimp only;rw[eH];refine zq rfl ?_ ?_;simp -dsimp only[simprocAttr,↓aa,zp,zc]
  ·exact Sub.int (by simp)
  rfl
 refine aM ?_;simp -dsimp only[bS,ne_eq,Nat.reduceEqDiff,reduceCtorEq];have Gz:f.blocks.length<=k:=by simpa using h
 rw[List.take_of_length_le (by omega)];refine aA (ah ?_);refine aq ?_;simp -dsimp only[simprocAttr,↓aa,zp,zr,Tryz.results71];exact⟨⟨trivial,⟨Block.ag _ _,trivial⟩,trivial⟩,rfl⟩
structure Cx where
 k:Nat
 eg:Nat
 ids:List Nat
 O:List aj
structure Ci where
 j:Nat
 O:List aj
structure Ce where
 z:Nat
 tid:Nat
 O:List aj
theorem K'{l:List Ins}{j:Nat}{i:Ins}(h:l[j]?=some i):(l.take (j+1)).map Ins.enc=(l.take j).map Ins.enc++[i.enc]:=by
 rw[List.take_add_one,h,List.map_append];rfl
theorem LF(O:List aj)(C0:List ae):(O++[aj.cells C0]++[aj.spare 0]).set O.length (.cells (C0.set 1 (.aC 4 [] (.tok (O++[aj.cells C0]).length))))=O++[.cells (C0.set 1 (.aC 4 [] (.tok (O.length+1)))),.spare 0]:=by simp
abbrev vk(id:Nat)(b:Block)(l:List ae)(t:ae):List ae:=[aK b.params,.aC 4 l (.tok id),aI b.term.kind,aI b.term.arg,aI b.term.n,aK b.term.cases,t]
abbrev mv(id:Nat)(b:Block)(l:List Ins)(t:ae):List ae:=[aK b.params,.aC 4 (l.map Ins.enc) (.tok id),aI b.term.kind,aI b.term.arg,aI b.term.n,aK b.term.cases,t]
theorem mw{n id:Nat}(b:Block)(l:List Ins){t:ae}(h:id<n)(ht:t.upto n):aw n (mv id b l t):=⟨⟨az _ _,trivial⟩,⟨Ins.ag _ _,h⟩,trivial,trivial,trivial,⟨az _ _,trivial⟩,ht,trivial⟩
theorem Hq(f:Func)(hs:Zl f)(ct:f.blocks≠[]):bd Tryz.prog 33 [.gone,.cells [aI 0,.aC 7 [] .ex]] [f.enc] (Xh f):=by
 have gK:=fun(l:List Int) (h:l.length<=4096)=>vD l (by omega);have Oh:=Ea f;have hn:=hs.few;obtain⟨N,hN⟩:∃N,N=f.blocks.length:=⟨_,rfl⟩
 rw[<-hN]at hn;refine yr hT Tryz.func33 rfl (by kernel_rfl) (by simp[Tryz.ntmps33]) ?_;show cc Tryz.prog _ _ _ ⟨83,_,_⟩;dsimp only[Tmp,TypeId,slotsOf];refine aA (ah ?_);refine aD 1 2 (.ip none [aI f.name,ay f.blocks]) rfl (by simp[aj.aF]) trivial rfl ?_ ?_;rotate_left;simp -dsimp only[simprocAttr,↓aa,zp]
 ·refine aA (ah ?_);refine c9 ?_;simp -dsimp only[simprocAttr,↓aa,zp,<-hN];refine ah ?_;show cc Tryz.prog _ _ _ ⟨_,_,[.gone,.cells [aI 0,.aC 7 [] .ex],.gone,.cells [aI 0,.aC 7 [] .ex],.cells [aI f.name,.aC 7 [] .ex]]⟩;generalize [aj.gone,.cells [aI 0,.aC 7 [] .ex],.gone,.cells [aI 0,.aC 7 [] .ex],.cells [aI f.name,.aC 7 [] .ex]]=O0 at *;refine ai (aO (ι:={X:Cx // X.k<=N∧Ny f (f.blocks.take X.k) X.eg X.ids X.O}) (fun X=>⟨83,[(1,.ip none [aI f.name,ay f.blocks]),(2,.mp 3 0),(3,.mp 4 0),(15,ay f.blocks),(16,aI N),(17,aI X.1.k)],X.1.O⟩) (fun X=>N-X.1.k) ⟨⟨0,0,[],O0⟩,by simp,Oh⟩ ?_ ?_)
  ·refine zq rfl ?_ ?_;simp -dsimp only[simprocAttr,↓aa,zp,zc]
   all_goals rfl
  rintro⟨⟨k,eg,ids,O⟩,hk,hS⟩;simp only at hk hS;refine aA (ah ?_);apply iz rfl<;>intro h
  ·refine cd ?_;have bg:k<N:=by simpa using h
   obtain⟨b,hb⟩:∃b,f.blocks[k]?=some b:=⟨f.blocks[k]'(by omega),List.getElem?_eq_getElem _⟩
   have mg:=List.mem_of_getElem? hb;have eH:f.blocks.take (k+1)=f.blocks.take k++[b]:=by rw[List.take_add_one,hb];rfl
   have hbp:=hs.params b mg;have hbi:=hs.ins b mg;have hba:=hs.Rj b mg;have XR:=hs.cases b mg;have hbt:=hs.to b mg;have Kz:=hs.QO b mg;have Sa:=gK b.params (by omega);have R8:=gK b.term.cases (by omega);have Xu:=I hS.r3;have h4l:=I hS.out;refine aJ (ai ?_);refine aS ?_;simp -dsimp only[simprocAttr,↓aa,zp,hb];refine ah ?_;refine aY 5 ([aK b.params,bf b.ins,aI b.term.kind,aI b.term.arg,aI b.term.n,aK b.term.cases,aH b.term.to]) [(1,.ip none [aI f.name,ay f.blocks]),(2,.mp 3 0),(3,.mp 4 0),(15,ay f.blocks),(16,aI N),(17,aI k),(5,.ip none [aK b.params,bf b.ins,aI b.term.kind,aI b.term.arg,aI b.term.n,aK b.term.cases,aH b.term.to])] (by simp[bF,bh,Go.Av.look]) (by rfl) (by omega) (by simp[bF,bh,Go.Av.look]) ?_ ?_ ?_
   ·exact hS.up
   ·simp[ae.upto,aw,az,Edge.ag,Ins.ag,Block.ag,Xu,h4l]
   refine aA ?_;refine zi Sa ?_;refine⟨ob (by kernel_rfl),?_⟩;refine ah ?_;refine db O.length 1 (sz:=4) (xs:=[]) (lA _ _) rfl ?_;show cc Tryz.prog _ _ _ ⟨_,_,(O++[aj.cells [aK b.params,.aC 4 [] .ex,aI b.term.kind,aI b.term.arg,aI b.term.n,aK b.term.cases,aH b.term.to]]++[aj.spare 0]).set O.length (.cells ([aK b.params,.aC 4 [] .ex,aI b.term.kind,aI b.term.arg,aI b.term.n,aK b.term.cases,aH b.term.to].set 1 (.aC 4 [] (.tok (O++[aj.cells [aK b.params,.aC 4 [] .ex,aI b.term.kind,aI b.term.arg,aI b.term.n,aK b.term.cases,aH b.term.to]]).length))))⟩;rw[LF];have hI:=I4.start hS.up (cs:=mv (O.length+1) b [] (aH b.term.to)) (mw b [] (by omega) ⟨Edge.ag _ _,trivial⟩);show cc Tryz.prog _ _ _ ⟨_,_,O++[aj.cells (mv (O.length+1) b [] (aH b.term.to)),.spare 0]⟩;generalize O++[aj.cells (mv (O.length+1) b [] (aH b.term.to)),.spare 0]=O2 at *;refine bX (ah ?_);refine ai (aO (ι:={X:Ci // X.j<=b.ins.length∧I4 O (mv (O.length+1) b (b.ins.take X.j) (aH b.term.to)) X.j X.O}) (fun X=>⟨83,[(1,.ip none [aI f.name,ay f.blocks]),(2,.mp 3 0),(3,.mp 4 0),(15,ay f.blocks),(16,aI N),(17,aI k),(5,.ip none [aK b.params,bf b.ins,aI b.term.kind,aI b.term.arg,aI b.term.n,aK b.term.cases,aH b.term.to]),(6,.mp O.length 0),(28,bf b.ins),(29,aI b.ins.length),(30,aI X.1.j)],X.1.O⟩) (fun X=>b.ins.length-X.1.j) ⟨⟨0,O2⟩,by simp,hI⟩ ?_ ?_)
   ·refine zq rfl ?_ ?_;simp -dsimp only[simprocAttr,↓aa,zp,zc]
    all_goals rfl
   rintro⟨⟨j,O2⟩,hj,hI⟩;simp only at hj hI;have ZA:=hI.len;refine aA (ah ?_);apply iz rfl<;>intro h
   ·refine cd ?_;have xk:j<b.ins.length:=by simpa using h
    obtain⟨i,hi⟩:∃i,b.ins[j]?=some i:=⟨b.ins[j],by simp[xk]⟩
    have hci:=gK i.args (by have:=hba i (List.mem_of_getElem? hi);omega);have fB:=hI.cell;have nW:=hI.sp;have jD:(b.ins.take j).length=j:=by rw[List.length_take];omega
    refine aJ (ai ?_);refine aS ?_;simp -dsimp only[simprocAttr,↓aa,zp,hi];refine ah ?_;refine aA ?_;refine zi hci ?_;refine ah ?_;refine aY 8 ([aI i.to,aI i.op,aI i.n,aK i.args]) [(1,.ip none [aI f.name,ay f.blocks]),(2,.mp 3 0),(3,.mp 4 0),(15,ay f.blocks),(16,aI N),(17,aI k),(5,.ip none [aK b.params,bf b.ins,aI b.term.kind,aI b.term.arg,aI b.term.n,aK b.term.cases,aH b.term.to]),(6,.mp O.length 0),(28,bf b.ins),(29,aI b.ins.length),(30,aI j),(8,.ip none [aI i.to,aI i.op,aI i.n,aK i.args])] (by simp[bF,bh,Go.Av.look]) (by rfl) (by omega) (by simp[bF,bh,Go.Av.look]) ?_ ?_ ?_
    ·exact hI.up
    ·have WG:=I fB;simp[ae.upto,aw,az,Edge.ag,Ins.ag,Block.ag,WG,show 3<O2.length by omega,show 4<O2.length by omega]
    have qG:∀y,(O2.set (O.length+1) y)[O.length]?=some (.cells (mv (O.length+1) b (b.ins.take j) (aH b.term.to))):=fun y=>by rw[List.getElem?_set_ne (by omega)];exact fB
    refine kC ?_;simp -dsimp only[simprocAttr,↓aa,zp,fB,qG,nW,mv,List.length_map,jD]
    repeat(refine⟨by omega,?_⟩)
    refine ah ?_;have hIn:=(hI.room (j+1)).one (cs':=mv (O.length+1) b (b.ins.take (j+1)) (aH b.term.to)) (mw b _ (by omega) ⟨Edge.ag _ _,trivial⟩);show cc Tryz.prog _ _ _ ⟨_,_,(O2.set (O.length+1) (aj.spare (j+1))).set O.length (.cells (vk (O.length+1) b ((b.ins.take j).map Ins.enc++[i.enc]) (aH b.term.to)))⟩;rw[<-K' hi];have hIn:I4 O _ _ ((O2.set (O.length+1) (aj.spare (j+1))).set O.length (.cells (vk (O.length+1) b ((b.ins.take (j+1)).map Ins.enc) (aH b.term.to)))):=hIn;generalize (O2.set (O.length+1) (aj.spare (j+1))).set O.length (.cells (vk (O.length+1) b ((b.ins.take (j+1)).map Ins.enc) (aH b.term.to)))=O5 at *;refine cT ?_
    repeat(refine⟨by omega,?_⟩)
    refine fK ?_;refine⟨⟨⟨j+1,O5⟩,xk,hIn⟩,by simp;omega,?_⟩;refine zq rfl ?_ ?_;simp -dsimp only[simprocAttr,↓aa,zp,zc]
    ·exact Sub.int (by simp)
    rfl
   refine aM ?_;simp -dsimp only[bS,ne_eq,Nat.reduceEqDiff,reduceCtorEq];have EO:b.ins.length<=j:=by
    have:=of_decide_eq_false h;omega
   rw[List.take_of_length_le EO]at hI;have fB:=hI.cell;refine aS ?_;simp -dsimp only[simprocAttr,↓aa,zp,fB];refine .inl ⟨_,R8,by simp only[aw,ae.upto,zt,zu,az],ao ?_⟩;simp -dsimp only[simprocAttr,↓aa,zp,fB];refine ah ?_;have hIn:=hI.one (cs':=mv (O.length+1) b b.ins (aH b.term.to)) (mw b _ (by omega) ⟨Edge.ag _ _,trivial⟩);show cc Tryz.prog _ _ _ ⟨_,_,O2.set O.length (.cells (mv (O.length+1) b b.ins (aH b.term.to)))⟩;generalize O2.set O.length (.cells (mv (O.length+1) b b.ins (aH b.term.to)))=O5 at *;have fB:=hIn.cell;refine aS ?_;simp -dsimp only[simprocAttr,↓aa,zp,fB];refine ah ?_;have h2l:=hIn.len;have ON:mv (O.length+1) b b.ins (.aC 2 [] .ex)=[aK b.params,.aC 4 (b.ins.map Ins.enc) (.tok (O.length+1)),aI b.term.kind,aI b.term.arg,aI b.term.n,aK b.term.cases,.aC 2 [] .ex]:=rfl;refine eN O.length (mv (O.length+1) b b.ins (.aC 2 [] .ex)) (List.getElem?_set_self (by omega)) rfl (fun d hd=>?_) (fun j c d hc hd=>?_) ?_
   ·simp only[mv,vk,List.mem_cons,List.not_mem_nil,or_false]at hd;rcases hd with rfl|rfl|rfl|rfl|rfl|rfl|rfl<;>trivial
   ·match j,hc,hd with
    | 0,hc,hd=>exact Sub.of_eq (by simpa[mv,vk]using hc.symm.trans hd)
    | 1,hc,hd=>exact Sub.of_eq (by simpa[mv,vk]using hc.symm.trans hd)
    | 2,hc,hd=>exact Sub.of_eq (by simpa[mv,vk]using hc.symm.trans hd)
    | 3,hc,hd=>exact Sub.of_eq (by simpa[mv,vk]using hc.symm.trans hd)
    | 4,hc,hd=>exact Sub.of_eq (by simpa[mv,vk]using hc.symm.trans hd)
    | 5,hc,hd=>exact Sub.of_eq (by simpa[mv,vk]using hc.symm.trans hd)
    | 6,hc,hd =>
     simp only[mv,vk,List.getElem?_cons_succ,List.getElem?_cons_zero,Option.some.injEq]at hc hd;subst hc;subst hd;exact Sub.Pb 2
    | j+7,hc,hd=>simp at hc
   rw[List.set_set];have hE:=Nw.start (cs:=mv (O.length+1) b b.ins) (hIn.one (cs':=mv (O.length+1) b b.ins (.aC 2 [] .ex)) (mw b _ (by omega) ⟨trivial,trivial⟩));generalize O5.set O.length (.cells (mv (O.length+1) b b.ins (.aC 2 [] .ex)))=O6 at *;refine bX (ah ?_);refine ai (aO (ι:={X:Ce // X.z<=b.term.to.length∧Nw O (mv (O.length+1) b b.ins) X.tid (b.term.to.take X.z) X.O}) (fun X=>⟨83,[(1,.ip none [aI f.name,ay f.blocks]),(2,.mp 3 0),(3,.mp 4 0),(15,ay f.blocks),(16,aI N),(17,aI k),(5,.ip none [aK b.params,bf b.ins,aI b.term.kind,aI b.term.arg,aI b.term.n,aK b.term.cases,aH b.term.to]),(6,.mp O.length 0),(55,aH b.term.to),(56,aI b.term.to.length),(57,aI X.1.z)],X.1.O⟩) (fun X=>b.term.to.length-X.1.z) ⟨⟨0,0,O6⟩,by simp,hE⟩ ?_ ?_)
   ·refine zq rfl ?_ ?_;simp -dsimp only[simprocAttr,↓aa,zp,zc]
    all_goals rfl
   rintro⟨⟨z,tid,O3⟩,hz,hE⟩;simp only at hz hE;have Dy:=hE.len;refine aA (ah ?_);apply iz rfl<;>intro h
   ·refine cd ?_;have xl:z<b.term.to.length:=by simpa using h
    obtain⟨e,he⟩:∃e,b.term.to[z]?=some e:=⟨b.term.to[z],by simp[xl]⟩
    have EG:=gK e.args (Kz e (List.mem_of_getElem? he));have fB:=hE.cell;have V8:b.term.to.take (z+1)=b.term.to.take z++[e]:=by rw[List.take_add_one,he];rfl
    have jD:(b.term.to.take z).length=z:=by rw[List.length_take];omega
    have WG:=I fB;refine aJ (ai ?_);refine aS ?_;simp -dsimp only[simprocAttr,↓aa,zp,he];refine ah ?_;refine aY 10 ([aI e.block,aK e.args]) [(1,.ip none [aI f.name,ay f.blocks]),(2,.mp 3 0),(3,.mp 4 0),(15,ay f.blocks),(16,aI N),(17,aI k),(5,.ip none [aK b.params,bf b.ins,aI b.term.kind,aI b.term.arg,aI b.term.n,aK b.term.cases,aH b.term.to]),(6,.mp O.length 0),(55,aH b.term.to),(56,aI b.term.to.length),(57,aI z),(10,.ip none [aI e.block,aK e.args])] (by simp[bF,bh,Go.Av.look]) (by rfl) (by omega) (by simp[bF,bh,Go.Av.look]) ?_ ?_ ?_
    ·exact hE.up
    ·simp[ae.upto,aw,az,Edge.ag,Ins.ag,Block.ag,WG,show 3<O3.length by omega,show 4<O3.length by omega]
    by_cases T3:b.term.to.take z=[]
    ·have YD:CR tid (b.term.to.take z)=.aC 2 [] .ex:=if_pos T3;rw[YD]at fB;have qG:∀X,(O3++X)[O.length]?=some (.cells (mv (O.length+1) b b.ins (.aC 2 [] .ex))):=fun X=>cw fB;refine Qw ?_;simp -dsimp only[simprocAttr,↓aa,zp,fB,qG,mv,dZ,fv]
     repeat(refine⟨by omega,?_⟩)
     refine .inl ⟨_,EG,by simp only[aw,ae.upto,zt,zu,az],ao ?_⟩;simp -dsimp only[simprocAttr,↓aa,zp,fB,qG,mv,dZ,fv]
     repeat(refine⟨by omega,?_⟩)
     refine⟨trivial,?_⟩;refine⟨ob (by kernel_rfl),?_⟩;refine ah ?_;have jB:Nw O (mv (O.length+1) b b.ins) O3.length (b.term.to.take z++[e]) ((O3++[aj.cells [aI e.block,aK e.args]]).set O.length (.cells (mv (O.length+1) b b.ins (.os O3.length 1 2)))):=hE.push e (fun v n hv hn=>mw b _ (by omega) hv) rfl hE.up (fun _ _=>rfl) (by rw[T3];rfl) (by rw[T3];rfl);show cc Tryz.prog _ _ _ ⟨_,_,(O3++[aj.cells [aI e.block,aK e.args]]).set O.length (.cells (mv (O.length+1) b b.ins (.os O3.length 1 2)))⟩;generalize (O3++[aj.cells [aI e.block,aK e.args]]).set O.length (.cells (mv (O.length+1) b b.ins (.os O3.length 1 2)))=O7 at *;refine cT ?_
     repeat(refine⟨by omega,?_⟩)
     refine fK ?_;refine⟨⟨⟨z+1,O3.length,O7⟩,xl,by rw[V8];exact jB⟩,by simp;omega,?_⟩;refine zq rfl ?_ ?_;simp -dsimp only[simprocAttr,↓aa,zp,zc]
     ·exact Sub.int (by simp)
     rfl
    obtain⟨o1,o2⟩:=hE.own T3;have YD:CR tid (b.term.to.take z)=.os tid z 2:=by
     unfold CR;rw[if_neg T3,jD]
    rw[YD]at fB;have qG:∀X,(O3.set tid .gone++X)[O.length]?=some (.cells (mv (O.length+1) b b.ins (.os tid z 2))):=fun X=>cw (bx fB (by omega));have Ac:(ib (b.term.to.take z)).take (z*2)=ib (b.term.to.take z):=List.take_of_length_le (by rw[nj];omega);have Oy:=nj (b.term.to.take z);rw[jD]at Oy;refine kC ?_;simp -dsimp only[simprocAttr,↓aa,zp,fB,qG,mv,o2,Ac,Oy,dZ,fv]
    repeat(refine⟨by omega,?_⟩)
    refine .inl ⟨_,EG,by simp only[aw,ae.upto,zt,zu,az],ao ?_⟩;simp -dsimp only[simprocAttr,↓aa,zp,fB,qG,mv,o2,Ac,Oy,dZ,fv]
    repeat(refine⟨by omega,?_⟩)
    refine⟨trivial,?_⟩;refine⟨ob (by kernel_rfl),?_⟩;refine ah ?_;have jB:Nw O (mv (O.length+1) b b.ins) O3.length (b.term.to.take z++[e]) ((O3.set tid .gone++[aj.cells (ib (b.term.to.take z)++[aI e.block,aK e.args])]).set O.length (.cells (mv (O.length+1) b b.ins (.os O3.length (z+1) 2)))):=hE.push (O4:=O3.set tid .gone) e (fun v n hv hn=>mw b _ (by omega) hv) (List.length_set) (bz hE.up trivial) (fun k hk=>by rw[List.getElem?_set_ne (Ne.symm (hk T3))]) (by rw[J7]) (by rw[jD]);show cc Tryz.prog _ _ _ ⟨_,_,(O3.set tid .gone++[aj.cells (ib (b.term.to.take z)++[aI e.block,aK e.args])]).set O.length (.cells (mv (O.length+1) b b.ins (.os O3.length (z+1) 2)))⟩;generalize (O3.set tid .gone++[aj.cells (ib (b.term.to.take z)++[aI e.block,aK e.args])]).set O.length (.cells (mv (O.length+1) b b.ins (.os O3.length (z+1) 2)))=O7 at *;refine cT ?_
    repeat(refine⟨by omega,?_⟩)
    refine fK ?_;refine⟨⟨⟨z+1,O3.length,O7⟩,xl,by rw[V8];exact jB⟩,by simp;omega,?_⟩;refine zq rfl ?_ ?_;simp -dsimp only[simprocAttr,↓aa,zp,zc]
    ·exact Sub.int (by simp)
    rfl
   refine aM ?_;simp -dsimp only[bS,ne_eq,Nat.reduceEqDiff,reduceCtorEq];have Al:b.term.to.length<=z:=by
    have:=of_decide_eq_false h;omega
   rw[List.take_of_length_le Al]at hE;have fB:=hE.cell;have iU:=hS.out;have Sy:=hE.mi 4 (by omega);rw[iU]at Sy;have xQ:(f.blocks.take k).length=k:=by rw[List.length_take];omega
   have oM:=hE.own;have WG:=I fB;by_cases qi:f.blocks.take k=[]
   ·have ns:jG eg (f.blocks.take k)=.aC 7 [] .ex:=if_pos qi;rw[ns]at Sy;have Sz:∀X,(O3++X)[4]?=some (.cells [aI f.name,.aC 7 [] .ex]):=fun X=>cw Sy;refine Qw ?_;simp -dsimp only[simprocAttr,↓aa,zp,fB,mv,Sy,Sz,dZ,fv,wH,wG]
    repeat(refine⟨by omega,?_⟩)
    refine⟨trivial,?_⟩;refine ah ?_;have jB:Ny f (f.blocks.take k++[b]) O3.length (ids++[tid]) ((O3++[aj.cells (uE tid b)]).set 4 (.cells [aI f.name,.os O3.length 1 7])):=hS.snoc (by omega) hE.up (fun k hk _=>hE.mi k hk) (fun q=>⟨by have:=(oM q).1;omega,(oM q).2⟩) (by rw[sA hS.cp.li,qi];simp[fN]) (by rw[qi];rfl);show cc Tryz.prog _ _ _ ⟨_,_,(O3++[aj.cells (uE tid b)]).set 4 (.cells [aI f.name,.os O3.length 1 7])⟩;generalize (O3++[aj.cells (uE tid b)]).set 4 (.cells [aI f.name,.os O3.length 1 7])=O7 at *;refine cT ?_
    repeat(refine⟨by omega,?_⟩)
    refine fK ?_;refine⟨⟨⟨k+1,O3.length,ids++[tid],O7⟩,bg,by rw[eH];exact jB⟩,by simp;omega,?_⟩;refine zq rfl ?_ ?_;simp -dsimp only[simprocAttr,↓aa,zp,zc]
    ·exact Sub.int (by simp)
    rfl
   obtain⟨b1,b2⟩:=hS.blk qi;have pW:=I b2;have b3:=hE.mi eg pW;rw[b2]at b3;have ns:jG eg (f.blocks.take k)=.os eg k 7:=by
    unfold jG;rw[if_neg qi,xQ]
   rw[ns]at Sy;have Sz:∀X,(O3.set eg .gone++X)[4]?=some (.cells [aI f.name,.os eg k 7]):=fun X=>cw (bx Sy (by omega));have B8:=mB hS.cp.li;rw[xQ]at B8;have Ac:(fN ids (f.blocks.take k)).take (k*7)=fN ids (f.blocks.take k):=List.take_of_length_le (by omega);refine kC ?_;simp -dsimp only[simprocAttr,↓aa,zp,fB,mv,Sy,Sz,b3,Ac,B8,dZ,fv,wH,wG]
   repeat(refine⟨by omega,?_⟩)
   refine⟨trivial,?_⟩;refine ah ?_;have jB:Ny f (f.blocks.take k++[b]) O3.length (ids++[tid]) ((O3.set eg .gone++[aj.cells (fN ids (f.blocks.take k)++uE tid b)]).set 4 (.cells [aI f.name,.os O3.length (k+1) 7])):=by
    have:=hS.snoc (O1:=O3.set eg .gone) (b:=b) (tid:=tid) (by rw[List.length_set];omega) (by rw[List.length_set];exact bz hE.up trivial) (fun k hk HQ=>by rw[List.getElem?_set_ne (Ne.symm (HQ qi))];exact hE.mi k hk) (fun q=>⟨by have:=(oM q).1;omega,by rw[List.getElem?_set_ne (by have:=(oM q).1;omega)];exact(oM q).2⟩) (sA hS.cp.li tid b).symm rfl;rw[List.length_set,xQ]at this;exact this
   show cc Tryz.prog _ _ _ ⟨_,_,(O3.set eg .gone++[aj.cells (fN ids (f.blocks.take k)++uE tid b)]).set 4 (.cells [aI f.name,.os O3.length (k+1) 7])⟩;generalize (O3.set eg .gone++[aj.cells (fN ids (f.blocks.take k)++uE tid b)]).set 4 (.cells [aI f.name,.os O3.length (k+1) 7])=O7 at *;refine cT ?_
   repeat(refine⟨by omega,?_⟩)
   refine fK ?_;refine⟨⟨⟨k+1,O3.length,ids++[tid],O7⟩,bg,by rw[eH];exact jB⟩,by simp;omega,?_⟩;refine zq rfl ?_ ?_;simp -dsimp only[simprocAttr,↓aa,zp,zc]
   ·exact Sub.int (by simp)
   rfl
  refine aM ?_;simp -dsimp only[bS,ne_eq,Nat.reduceEqDiff,reduceCtorEq];have Vo:k=N:=by
   have:=of_decide_eq_false h;omega
  subst Vo;rw[List.take_of_length_le (by omega)]at hS;have iU:=hS.out;have W8:=hS.r3;have ns:jG eg f.blocks=.os eg f.blocks.length 7:=if_neg ct;rw[ns]at iU;have pW:=I (hS.blk ct).2;have hR:=hS.done ct (cs:=[aI f.name,.os eg f.blocks.length 7]) ⟨trivial,pW,trivial⟩;have Xu:=I W8;have YG:(O.set 3 (.cells [aI f.name,.os eg f.blocks.length 7]))[3]?=some (.cells [aI f.name,.os eg f.blocks.length 7]):=List.getElem?_set_self Xu;refine aS ?_;simp -dsimp only[simprocAttr,↓aa,zp,iU,W8];refine ah ?_;refine aq ?_;simp -dsimp only[simprocAttr,↓aa,zp,DJ,Tryz.results33,gj,o9,jq,l6,j7,kV,YG];exact hR
 exact bQ.mp rfl rfl
end Go.Proofs.YtjdnhamngpafmaaGreat
namespace Go.Proofs.YtjdnhamngpafmaaGreat
open Go.Av Go.Sort
def Cv:Go.Shelf.Ren:=⟨fun|125=>68|128=>102|129=>103|189=>40|215=>93|216=>64|257=>67|294=>94|295=>95|296=>96|297=>97|298=>98|299=>99|300=>100|301=>101|328=>122|329=>123|330=>124|331=>125|332=>126|343=>147|n=>n,fun|0=>0|3=>3|4=>4|5=>5|9=>9|28=>41|46=>110|51=>158|53=>140|131=>88|182=>152|183=>153|218=>191|222=>195|228=>211|229=>212|n=>n,fun n=>n⟩
theorem GO:Go.Proofs.Lays.n189 Tryz.prog Cv:={
 mixed:=by kernel_rfl,
 f125:=Tryz.func68.trans (congrArg some (by kernel_rfl)),
 f128:=Tryz.func102.trans (congrArg some (by kernel_rfl)),
 f129:=Tryz.func103.trans (congrArg some (by kernel_rfl)),
 f189:=Tryz.func40.trans (congrArg some (by kernel_rfl)),
 f215:=Tryz.func93.trans (congrArg some (by kernel_rfl)),
 f216:=Tryz.func64.trans (congrArg some (by kernel_rfl)),
 f257:=Tryz.func67.trans (congrArg some (by kernel_rfl)),
 f294:=Tryz.func94.trans (congrArg some (by kernel_rfl)),
 f295:=Tryz.func95.trans (congrArg some (by kernel_rfl)),
 f296:=Tryz.func96.trans (congrArg some (by kernel_rfl)),
 f297:=Tryz.func97.trans (congrArg some (by kernel_rfl)),
 f298:=Tryz.func98.trans (congrArg some (by kernel_rfl)),
 f299:=Tryz.func99.trans (congrArg some (by kernel_rfl)),
 f300:=Tryz.func100.trans (congrArg some (by kernel_rfl)),
 f301:=Tryz.func101.trans (congrArg some (by kernel_rfl)),
 f328:=Tryz.func122.trans (congrArg some (by kernel_rfl)),
 f329:=Tryz.func123.trans (congrArg some (by kernel_rfl)),
 f330:=Tryz.func124.trans (congrArg some (by kernel_rfl)),
 f331:=Tryz.func125.trans (congrArg some (by kernel_rfl)),
 f332:=Tryz.func126.trans (congrArg some (by kernel_rfl)),
 f343:=Tryz.func147.trans (congrArg some (by kernel_rfl)),
 t0:=Tryz.underlying0,
 a0:=Tryz.isAgg0,
 z0:=Tryz.sizeOf0,
 v0:=Tryz.zeroValue0,
 t3:=Tryz.underlying3,
 a3:=Tryz.isAgg3,
 z3:=Tryz.sizeOf3,
 v3:=Tryz.zeroValue3,
 t4:=Tryz.underlying4,
 a4:=Tryz.isAgg4,
 z4:=Tryz.sizeOf4,
 v4:=Tryz.zeroValue4,
 t5:=Tryz.underlying5,
 a5:=Tryz.isAgg5,
 z5:=Tryz.sizeOf5,
 v5:=Tryz.zeroValue5,
 t9:=Tryz.underlying9,
 a9:=Tryz.isAgg9,
 z9:=Tryz.sizeOf9,
 v9:=Tryz.zeroValue9,
 t28:=Tryz.underlying41,
 a28:=Tryz.isAgg41,
 z28:=Tryz.sizeOf41,
 v28:=Tryz.zeroValue41,
 t46:=Tryz.underlying110,
 a46:=Tryz.isAgg110,
 z46:=Tryz.sizeOf110,
 v46:=Tryz.zeroValue110,
 t51:=Tryz.underlying158,
 a51:=Tryz.isAgg158,
 z51:=Tryz.sizeOf158,
 v51:=Tryz.zeroValue158,
 t53:=Tryz.underlying140,
 a53:=Tryz.isAgg140,
 z53:=Tryz.sizeOf140,
 v53:=Tryz.zeroValue140,
 t131:=Tryz.underlying88,
 a131:=Tryz.isAgg88,
 z131:=Tryz.sizeOf88,
 v131:=Tryz.zeroValue88,
 t182:=Tryz.underlying152,
 a182:=Tryz.isAgg152,
 z182:=Tryz.sizeOf152,
 v182:=Tryz.zeroValue152,
 t183:=Tryz.underlying153,
 a183:=Tryz.isAgg153,
 z183:=Tryz.sizeOf153,
 v183:=Tryz.zeroValue153,
 t218:=Tryz.underlying191,
 a218:=Tryz.isAgg191,
 z218:=Tryz.sizeOf191,
 v218:=Tryz.zeroValue191,
 t222:=Tryz.underlying195,
 a222:=Tryz.isAgg195,
 z222:=Tryz.sizeOf195,
 v222:=Tryz.zeroValue195,
 t228:=Tryz.underlying211,
 a228:=Tryz.isAgg211,
 z228:=Tryz.sizeOf211,
 v228:=Tryz.zeroValue211,
 t229:=Tryz.underlying212,
 a229:=Tryz.isAgg212,
 z229:=Tryz.sizeOf212,
 v229:=Tryz.zeroValue212 }
theorem FP:yc Tryz.prog 40:=fun blk off cap zs w h1 h2 h3=>Any.slices_Sort_int GO blk off cap zs w h1 h2 h3
theorem tW:Go.Av.Enters Tryz.prog 40:=⟨_,Tryz.func40,by kernel_rfl,by kernel_rfl⟩
theorem IN{O:List aj}{id:Nat}{zs:List Int}(ho:O[id]?=some (.cells (zs.map aI)))(hl:zs.length<=1000) :
  bd Tryz.prog 40 O [.os id zs.length 1] (fun r O'=>r=.cD []∧O'=O.set id (.cells ((pe zs).map aI))):=Df tW FP ho hl
theorem w6(p:Option Addr)(cap:Nat)(w:World):Calls Tryz.prog 40 #[.slice p 0 cap] w fun e w'=>e=.returned (.tuple #[])∧w'=w:=Any.slices_Sort_int_none GO p cap w
theorem L7(O:List aj):bd Tryz.prog 40 O [.aC 1 [] .sh] (fun r O'=>r=.cD []∧O'=O):=by
 refine⟨tW,fun g vs hg Gt Ni=>?_⟩;obtain⟨h1,h2⟩:=Ni;simp only[List.length_singleton]at h1;have GD:vs[0]?=some (vs[0]'(by omega)):=Array.getElem?_eq_getElem _;have hr:=h2 0 _ _ rfl GD;have hv:∃p cap,vs = #[.slice p 0 cap]:=by
  have:∃p cap,vs[0]'(by omega)=.slice p 0 cap:=by
   generalize vs[0]'(by omega)=u at hr;cases hr with
   | nil=>exact⟨_,_,rfl⟩
   | aC=>exact⟨_,_,rfl⟩
  obtain⟨p,cap,e⟩:=this;refine⟨p,cap,?_⟩;apply Array.ext
  ·simpa using h1
  intro i Gv QW;have:i=0:=by omega
  subst this;exact e
 obtain⟨p,cap,rfl⟩:=hv;refine(w6 p cap g.w).mono ?_;rintro e w' ⟨rfl,rfl⟩;exact⟨g,_,.cD [],rfl,rfl,Le.refl g,hg,.cD rfl (by simp),rfl,Gt⟩
end Go.Proofs.YtjdnhamngpafmaaGreat
namespace Go.Proofs.YtjdnhamngpafmaaGreat
open Go.Av
theorem nD(to op n:Int)(l:List Int):bD Tryz.prog 56 [aI to,aI op,aI n,aK l] (.agg [aI to,aI op,aI n,aK l]):=by
 refine zf true 0 Tryz.func56 Tryz.ntmps56 ?_;dsimp only[Tmp,TypeId,slotsOf];refine aA (ah ?_);refine aA (ah ?_);refine aq ?_;simp -dsimp only[simprocAttr,↓aa,zp,zr,Tryz.results56];simp[aw,ae.upto,az]
theorem tQ(k:Int)(l:List Int):bD Tryz.prog 57 [aI k,aK l] (.agg [aI 1,aI 0,aI 0,aK [],.aC 2 [.agg [aI k,aK l]] .sh]):=by
 refine zf true 0 Tryz.func57 Tryz.ntmps57 ?_;dsimp only[Tmp,TypeId,slotsOf];refine aA (ah ?_);refine aA (ah ?_);refine aq ?_;simp -dsimp only[simprocAttr,↓aa,zp,zr,Tryz.results57];simp[aw,ae.upto,az]
theorem sZ(to op n:Int):bD Tryz.prog 56 [aI to,aI op,aI n,.v (.slice none 0 0)] (.agg [aI to,aI op,aI n,aK []]):=by
 have h:=nD to op n [];exact⟨h.1,fun g vs hg ho ha=>h.2 g vs hg ho ⟨ha.1,fun i c u hc hu=>by
  match i,hc,hu with
  | 0,hc,hu=>exact ha.2 0 c u hc hu
  | 1,hc,hu=>exact ha.2 1 c u hc hu
  | 2,hc,hu=>exact ha.2 2 c u hc hu
  | 3,hc,hu =>
   simp only[List.getElem?_cons_succ,List.getElem?_cons_zero,Option.some.injEq]at hc;subst hc;have:=(ha.2 3 _ u rfl hu).cb.1;subst this;exact .nil (fun id e=>by cases e) (by simp)
  | i+4,hc,_=>simp at hc⟩⟩
def sH:bY:=⟨[⟨-1,[
 ⟨[],[⟨0,0,0,[]⟩],⟨1,0,0,[],[⟨1,[0]⟩]⟩⟩,
 ⟨[1],[⟨2,0,3,[]⟩,⟨3,6,0,[1,2]⟩],⟨2,3,0,[],[⟨2,[]⟩,⟨3,[]⟩]⟩⟩,
 ⟨[],[⟨4,15,0,[1]⟩,⟨5,0,1,[]⟩,⟨6,1,0,[1,5]⟩],⟨1,0,0,[],[⟨1,[6]⟩]⟩⟩,
 ⟨[],[],⟨0,1,0,[],[]⟩⟩]⟩],0⟩
theorem Hr:runM sH 27=⟨[0,1,2],0,3,27,0⟩:=by kernel_rfl
theorem Ec:bD Tryz.prog 29 [] sH.enc:=by
 refine zf true 0 Tryz.func29 Tryz.ntmps29 ?_;dsimp only[Tmp,TypeId,slotsOf];refine aA (ah ?_);refine aA (ah ?_);refine aA (ah ?_);refine aA ?_;refine zi ((sZ 0 0 0)) ?_;refine zi ((tQ 1 [0])) ?_;refine zi ((sZ 2 0 3)) ?_;refine zi ((nD 3 6 0 [1,2])) ?_;refine zi ((nD 4 15 0 [1])) ?_;refine zi ((sZ 5 0 1)) ?_;refine zi ((nD 6 1 0 [1,5])) ?_;refine zi ((tQ 1 [6])) ?_;refine ah ?_;refine aq ?_;simp -dsimp only[simprocAttr,↓aa,zp,zr,Tryz.results29];exact⟨by simp[aw,ae.upto,az],rfl⟩
theorem Eb:sH.fit:=by
 simp[sH,bY.fit,Func.fit,Block.fit,Ins.fit,Term.fit,Edge.fit,cm,iX]
theorem F6:bD Tryz.prog 8 [] (.v (.bool true)):=by
 have bJ:=C7 sH Eb 27;rw[Hr]at bJ;have uN:=nZ [0,1,2] [0,1,2] 0 0 3 3;have EJ:=Ec;unfold Nr.enc at bJ;unfold NY at uN;simp only[List.map_cons,List.map_nil,decide_true,Bool.and_self]at bJ uN;generalize sH=u at *;refine zf true 0 Tryz.func8 Tryz.ntmps8 ?_;dsimp only[Tmp,TypeId,slotsOf];refine aA (ah ?_);refine aA ?_;refine zi EJ ?_;refine zi bJ ?_;refine ah ?_;refine aA ?_;refine zi uN ?_;refine ah ?_;refine aq ?_;simp -dsimp only[simprocAttr,↓aa,zp,zr,Tryz.results8]

def MM(v w:Nat)(s:List Bool):Bool:=s[v]?.getD false&&s[w]?.getD false
def An(v w:Nat)(x:Bool)(_:Nat)(s:List Bool):Bool:=x ||MM v w s
theorem inBlock{f:Func}{S:List (List Bool)}{k v w:Nat}{s0:List Bool}(K2:S[k]?=some s0)(x0:Bool) :
  uD (An v w) (ax f k).ins (ax f k).ins.length x0 s0=true↔x0=true∨∃n,n<=(ax f k).ins.length∧MM v w (setAt f S k n)=true:=by
 obtain⟨x',s',⟨j1,j2,j3⟩,he⟩:=tu (step:=An v w) (l:=(ax f k).ins) (J:=fun n x s=>s=setAt f S k n∧n<=(ax f k).ins.length∧(x=true↔x0=true∨∃m,n<m∧m<=(ax f k).ins.length∧MM v w (setAt f S k m)=true)) (fun n x s i hi ⟨j1,j2,j3⟩=>by
   subst j1;refine⟨(FI hi).symm,by omega,?_⟩;rw[An,Bool.or_eq_true,j3];constructor
   ·rintro((q|⟨m,q1,q2,q3⟩)|q)
    ·exact .inl q
    ·exact .inr ⟨m,by omega,q2,q3⟩
    exact .inr ⟨n+1,by omega,j2,q⟩
   rintro(q|⟨m,q1,q2,q3⟩)
   ·exact .inl (.inl q)
   by_cases e:m=n+1
   ·subst e;exact .inr q3
   exact .inl (.inr ⟨m,by omega,q2,q3⟩))
  (ax f k).ins.length x0 s0 (Nat.le_refl _) ⟨by simp[setAt,K2,fM],Nat.le_refl _,⟨fun q=>.inl q,fun q=>by
   rcases q with q|⟨m,q1,q2,_⟩
   ·exact q
   omega⟩⟩
 subst j1;rw[he,An,Bool.or_eq_true,j3];constructor
 ·rintro((q|⟨m,q1,q2,q3⟩)|q)
  ·exact .inl q
  ·exact .inr ⟨m,q2,q3⟩
  exact .inr ⟨0,by omega,q⟩
 rintro(q|⟨m,q2,q3⟩)
 ·exact .inl (.inl q)
 by_cases e:m=0
 ·subst e;exact .inr q3
 exact .inl (.inr ⟨m,by omega,q2,q3⟩)



theorem Ir(f:Func)(a8:f.fit)(hc:aZ f=0):∃(O:List aj) (oid:Nat),O[oid]?=some (.cells ((bH f).map aI))∧(∀o∈O,o.upto O.length) ∧
  bd Tryz.prog 52 [] [f.enc] (fun r O'=>r=.cD [.os oid (bH f).length 1,aI 0]∧O'=O):=by
 have oI:=jk f a8;rw[hc]at oI;have hg:=(c6 a8 hc).gr;have uN:=tS f hg;obtain⟨f1,f2,_⟩:=lZ hg;have UK:(lB f 100000 (iO f)).S=jx f 100000 (cW f):=AY f 100000 (iO f);have hX:=w5 (f:=f) 100000 _ (nK f);obtain⟨X,XN⟩:∃X,X=lB f 100000 (iO f):=⟨_,rfl⟩
 rw[<-XN]at uN hX UK;have iU:X.S.out=iN f:=by rw[UK];rfl
 unfold bH;obtain⟨l,hl⟩:∃l,l=iN f:=⟨_,rfl⟩
 rw[<-hl]at f1 f2 iU ⊢;have h1:=hX.out;rw[iU,LD,if_neg f1]at h1;obtain⟨h2,h3,h4⟩:=hX.outs (by rw[iU];exact f1);rw[iU]at h2;have bG:=hX.up;obtain⟨S,sid,oid,O⟩:=X;simp only at h1 h2 h3 h4 bG uN;have HW:=I h2;have SG:=sa bG h2 (by omega);have HG:(O.set oid (.cells (l.reverse.map aI)))[1]?=some (.cells [.os oid l.length 1]):=bx h1 (by omega);have Kr:(O.set oid (.cells (l.reverse.map aI)))[oid]?=some (.cells (l.reverse.map aI)):=ox h2;have fJ:∀o∈O.set oid (.cells (l.reverse.map aI)),o.upto O.length:=bz bG (az _ _);have KO:(O.set oid (.cells (l.reverse.map aI))).length=O.length:=by simp
 have eH:(O.set oid (.cells (l.reverse.map aI))).take O.length=O.set oid (.cells (l.reverse.map aI)):=cA;refine⟨O.set oid (.cells (l.reverse.map aI)),oid,Kr,by rw[KO];exact fJ,?_⟩;rw[List.length_reverse];generalize O.set oid (.cells (l.reverse.map aI))=O2 at *;have gl:([]:List aj).length<=O.length:=Nat.zero_le _;refine dy hT true (O.length) Tryz.func52 rfl (by kernel_rfl) (by simp[Tryz.ntmps52]) (by assumption) ?_;show cc Tryz.prog _ _ _ ⟨17,_,_⟩;dsimp only[Tmp,TypeId,slotsOf];refine aA (ah ?_);refine aD 1 0 (.ip none [aI f.name,ay f.blocks]) rfl (by simp[aj.aF]) trivial rfl ?_ ?_;rotate_left;simp -dsimp only[simprocAttr,↓aa,zp]
 ·refine bX ?_;refine zi oI ?_;refine ah ?_;refine aA (ah ?_);refine cr rfl ?_;refine cd ?_;refine aA (ah ?_);refine aA ?_;refine .inr (.inl ⟨_,_,uN,.inl (ao (zj ?_))⟩);refine ah ?_;refine aS ?_;simp -dsimp only[simprocAttr,↓aa,zp,h1];refine .inr (.inl ⟨_,_,SG,.inl (ao (zj ?_))⟩);refine ah ?_;refine aS ?_;simp -dsimp only[simprocAttr,↓aa,zp,HG];refine ah ?_;refine aq ?_;simp -dsimp only[simprocAttr,↓aa,zp,zr,Tryz.results52,eH,KO];exact⟨fJ,⟨HW,trivial,trivial⟩,rfl⟩
 exact bQ.mp rfl rfl
def SZ(f:Func):ae:=if aZ f=0 then .cD [aK (ec f),aI 0]else .cD [aK [],aI (aZ f)]
theorem wO(f:Func)(a8:f.fit):bD Tryz.prog 23 [f.enc] (SZ f):=by
 unfold SZ;by_cases hc:aZ f=0
 ·rw[if_pos hc];obtain⟨O,oid,h1,h2,Jf⟩:=Ir f a8 hc;have uv:=(jF (c6 a8 hc).gr).few;have Rc:=IN (O:=O) (id:=oid) (zs:=bH f) h1 (by omega);have h3:(O.set oid (.cells ((pe (bH f)).map aI)))[oid]?=some (.cells ((pe (bH f)).map aI)):=ox h1;have mW:=(lC (bH f)).length_eq;unfold ec;generalize O.set oid (.cells ((pe (bH f)).map aI))=O2 at *;obtain⟨l,hl⟩:∃l,l=pe (bH f):=⟨_,rfl⟩
  rw[<-hl]at h3 mW ⊢;rw[<-mW]at Rc Jf;refine zf true 0 Tryz.func23 Tryz.ntmps23 ?_;dsimp only[Tmp,TypeId,slotsOf];refine aA (ah ?_);refine aD 1 0 (.ip none [aI f.name,ay f.blocks]) rfl (by simp[aj.aF]) trivial rfl ?_ ?_;rotate_left;simp -dsimp only[simprocAttr,↓aa,zp]
  ·refine bt 0 [(1,.ip none [aI f.name,ay f.blocks])] (by omega) (by omega) [] ?_ ?_ ?_ ?_ ?_
   ·rfl
   ·simp[aj.upto]
   ·simp[fj,St.get,bF,bh,Go.Av.look,Sub.refl]
   ·simp[aj.upto,aw,ae.upto,az,Func.ag,Block.ag,Edge.ag,Ins.ag]
   refine aA ?_;refine .inr (.inl ⟨_,_,Jf,.inl (ao (zj ?_))⟩);refine ah ?_;refine aA ?_;refine .inr (.inl ⟨_,_,Rc,.inl (ao (zj ?_))⟩);refine ah ?_;refine aA (ah ?_);refine aD 2 oid (o:=.cells (l.map aI)) (aK l) h3 (by simp[aj.aF]) trivial rfl (bQ.os (cs:=l.map aI) h3 ?_ ?_ ?_) ?_
   ·intro x hx;obtain⟨c,_,rfl⟩:=List.mem_map.1 hx;rfl
   ·simp
   ·rw[List.drop_zero,List.take_of_length_le (by simp)];exact ov _
   simp -dsimp only[simprocAttr,↓aa,zp];refine aq ?_;simp -dsimp only[simprocAttr,↓aa,zp,zr,Tryz.results23];exact⟨⟨az _ _,trivial⟩,trivial,trivial⟩
  exact bQ.mp rfl rfl
 rw[if_neg hc];have Jf:=wE f a8;unfold AA at Jf;rw[if_neg hc]at Jf;generalize aZ f=e at *;refine zf true 0 Tryz.func23 Tryz.ntmps23 ?_;dsimp only[Tmp,TypeId,slotsOf];refine aA (ah ?_);refine aD 1 0 (.ip none [aI f.name,ay f.blocks]) rfl (by simp[aj.aF]) trivial rfl ?_ ?_;rotate_left;simp -dsimp only[simprocAttr,↓aa,zp]
 ·refine aA ?_;refine zi Jf ?_;refine ah ?_;refine aA ?_;refine .inr (.inl ⟨_,_,(L7 _),.inl (ao (zj ?_))⟩);refine ah ?_;refine aA (ah ?_);refine aq ?_;simp -dsimp only[simprocAttr,↓aa,zp,zr,Tryz.results23];simp[aw,ae.upto]
 exact bQ.mp rfl rfl

theorem Du(n:Nat):(List.replicate n [ae.v (.int .i64 0)]).flatten=(List.replicate n 0).map aI:=by
 induction n with
 | zero=>rfl
 | succ n ih=>rw[List.replicate_succ,List.flatten_cons,ih,List.replicate_succ];rfl
theorem Rz{l:List Int}{j:Nat}(h:j<l.length)(b:Int):bo (l.map aI) j [.v (.int .i64 b)]=(l.set j b).map aI:=by
 rw[cG _ (by simpa using h),List.map_set]
theorem Kj{k n:Nat}{l:List Int}{x y:Int}(hl:l.length=k)(hk:k<n):(l++List.replicate (n-k) x).set k y=(l++[y])++List.replicate (n-(k+1)) x:=by
 rw[List.set_append_right _ _ (by omega),hl,Nat.sub_self,show n-k=(n-(k+1))+1 by omega,List.replicate_succ,List.set_cons_zero,List.append_assoc];rfl
theorem Y'{f:Func}(a8:f.fit)(hc:aZ f=0):Zl f:=by
 have hw:=c6 a8 hc;have hg:=hw.gr;have xO:∀b∈f.blocks,b.params.length<=4096:=fun b hb=>by
  have:=(hw.blk b hb).few;omega
 exact {
  few:=hw.few
  params:=xO
  ins:=hw.ins
  Rj:=fun b hb i hi=>(uH ((hw.blk b hb).Gm i hi)).len
  cases:=fun b hb=>(jm (hw.blk b hb).fin).cases
  to:=fun b hb=>hg.to b hb
  QO:=fun b hb e he=>by
   have h1:=(jm (hw.blk b hb).fin).fZ e he;rw[h1.2];have hr:=hg.fZ b hb e he;have hx:f.blocks[e.block.toNat]?=some (f.blocks[e.block.toNat]'(by omega)):=List.getElem?_eq_getElem _;have:ax f e.block=f.blocks[e.block.toNat]'(by omega):=by simp[ax,hx]
   rw[this];exact xO _ (List.getElem_mem _) }
def FA(f:Func):ae:=if aZ f=0 then .cD [(bj f).enc,aK (nS f),aI 0]else .cD [.agg [aI 0,.aC 7 [] .sh],.aC 1 [] .sh,aI (aZ f)]
structure Px where
 i:Nat
 oid:Nat
 O:List aj
theorem FB(f:Func)(a8:f.fit):bD Tryz.prog 70 [f.enc] (FA f):=by
 have SH:=wO f a8;unfold SZ at SH;unfold FA;by_cases hc:aZ f=0
 ·rw[if_pos hc]at SH ⊢;have hg:=(c6 a8 hc).gr;have hw:=jF hg;have VY:=Y' a8 hc;have hn:f.blocks.length<=128:=hg.few;have Sa:=Hq f VY hg.ne;have hLl:(ec f).length<=128:=by rw[CY];exact hw.few
  have XC:=qS hw;have WJ:ec f≠[]:=List.ne_nil_of_mem (dT.2 (by rw[hw.zero];omega:0<=gX f 0));have WK:∀k∈ec f,0<=k∧k<f.blocks.length:=fun k hk=>hw.range k (dT.1 hk);obtain⟨N,hN⟩:∃N,N=f.blocks.length:=⟨_,rfl⟩
  obtain⟨L,hL⟩:∃L,L=ec f:=⟨_,rfl⟩
  obtain⟨A,hA⟩:∃A,A=nS f:=⟨_,rfl⟩
  have VN:(bj f).enc=.agg [aI f.name,ay (oh f A L)]:=by rw[hA,hL];rfl
  rw[VN,<-hA];unfold nS at hA;rw[<-hL]at SH hLl XC WJ WK hA;rw[<-hN]at hn hA WK;have Oc:A.length=N:=by rw[hA];simp
  refine zf true 0 Tryz.func70 Tryz.ntmps70 ?_;dsimp only[Tmp,TypeId,slotsOf];refine aA (ah ?_);refine aD 1 0 (.ip none [aI f.name,ay f.blocks]) rfl (by simp[aj.aF]) trivial rfl ?_ ?_;rotate_left;simp -dsimp only[simprocAttr,↓aa,zp]
  ·refine aA ?_;refine zi SH ?_;refine ah ?_;refine bX (ah ?_);apply aP rfl<;>intro h
   ·cases h
   refine cd ?_;refine aS ?_;simp -dsimp only[simprocAttr,↓aa,zp,Du,<-hN]
   repeat(refine⟨by omega,?_⟩)
   refine ah ?_;refine bX (ah ?_);refine ai (aO (ι:={k:Nat // k<=N}) (fun k=>⟨89,[(1,.ip none [aI f.name,ay f.blocks]),(2,.mp 1 0),(5,aK L),(7,.ms 2 0 N N),(29,aI N),(30,aI k.1)],[.gone,.cells [aI 0,.aC 7 [] .ex],.cells ((A.take k.1++List.replicate (N-k.1) 0).map aI)]⟩) (fun k=>N-k.1) ⟨0,by omega⟩ ?_ ?_)
   ·refine zq rfl ?_ ?_;simp -dsimp only[simprocAttr,↓aa,zp,zc]
    all_goals rfl
   rintro⟨k,hk⟩;refine aA (ah ?_);apply iz rfl<;>intro h
   ·refine cd ?_;have bg:k<N:=by simpa using h
    have OH:=qI L (k:Int);have hAk:A[k]?=some (kH L (k:Int)):=by
     rw[hA,List.getElem?_map,List.getElem?_range bg];rfl
    have jD:(A.take k).length=k:=by rw[List.length_take];omega
    have jB:bo ((A.take k++List.replicate (N-k) 0).map aI) k [.v (.int .i64 (kH L (k:Int)))]=(A.take (k+1)++List.replicate (N-(k+1)) 0).map aI:=by
     rw[Rz (by rw[List.length_append,jD,List.length_replicate];omega),Kj jD bg,List.take_add_one,hAk];rfl
    refine aJ (ai ?_);refine aA (ah ?_);refine cT ?_;refine .inl ⟨_,OH,by simp only[aw,ae.upto,zt,zu,az],ao ?_⟩;simp -dsimp only[simprocAttr,↓aa,zp,jB,Int.toNat_natCast,Nat.mul_one]
    repeat(refine⟨by omega,?_⟩)
    refine⟨by rw[jD,List.length_replicate];omega,?_⟩;refine ah ?_;refine cT ?_
    repeat(refine⟨by omega,?_⟩)
    refine fK ?_;refine⟨⟨k+1,bg⟩,by simp;omega,?_⟩;refine zq rfl ?_ ?_;simp -dsimp only[simprocAttr,↓aa,zp,zc]
    ·exact Sub.int (by simp)
    rfl
   refine aM ?_;simp -dsimp only[bS,ne_eq,Nat.reduceEqDiff,reduceCtorEq];have Vo:N=k:=by
    have:=of_decide_eq_false h;omega
   subst Vo;rw[Nat.sub_self,List.replicate_zero,List.append_nil,List.take_of_length_le (by omega)];refine aD 7 2 (o:=.cells (A.map aI)) (aK A) rfl (by simp[aj.aF]) trivial rfl (bQ.ms (cs:=A.map aI) rfl (fun x hx=>by obtain⟨v,_,rfl⟩:=List.mem_map.1 hx;rfl) (by simpa using Oc) (by rw[List.drop_zero,List.take_of_length_le (by simp;omega),ov])) ?_;simp -dsimp only[simprocAttr,↓aa,zp];refine bt 2 [(1,.ip none [aI f.name,ay f.blocks]),(2,.mp 1 0),(5,aK L),(7,aK A)] (by simp) (by omega) [.gone,.cells [aI 0,.aC 7 [] .ex]] ?_ ?_ ?_ ?_ ?_
   ·rfl
   ·simp[aj.upto,aw,ae.upto]
   ·simp[fj,St.get,bF,bh,Go.Av.look,Sub.refl]
   ·simp[aj.upto,aw,ae.upto,az,Block.ag]
   refine aJ (kf ⟨false,false⟩ hT 1 rfl rfl rfl (by simp) ?_);simp -dsimp only[simprocAttr,↓aa,zp];refine⟨Xh f,lT rfl (by simp) rfl rfl Sa,fun r O' hR=>?_⟩;obtain⟨ids,eg,hr,bG,OD,lH,⟨UO,ZO⟩,hco,ct⟩:=hR;subst hr;simp -dsimp only[simprocAttr,↓aa,zp];refine ah ?_;rw[<-hN];have pW:=I ZO;refine aY 9 ([aI f.name,.os eg N 7]) [(1,.ip none [aI f.name,ay f.blocks]),(2,.mp 1 0),(5,aK L),(7,aK A),(9,.ip none [aI f.name,.os eg N 7])] (by simp[bF,bh,Go.Av.look]) (by rfl) (by omega) (by simp[bF,bh,Go.Av.look]) ?_ ?_ ?_
   ·exact bG
   ·simp[ae.upto,aw,az,Edge.ag,Ins.ag,Block.ag,pW,I lH]
   have hP0:=Jr.start A bG lH ⟨UO,ZO⟩ hco ct;refine aA (ah ?_);generalize O'++[aj.cells [aI f.name,.aC 7 [] .ex]]=O0 at *;generalize O'.length=X0 at *;refine bX (ah ?_);refine ai (aO (ι:={X:Px // X.i<=L.length∧Jr f A ids eg X0 (L.take X.i) X.oid X.O}) (fun X=>⟨89,[(1,.ip none [aI f.name,ay f.blocks]),(2,.mp 1 0),(5,aK L),(7,aK A),(9,.ip none [aI f.name,.os eg N 7]),(10,.mp X0 0),(45,aK L),(46,aI L.length),(47,aI X.1.i)],X.1.O⟩) (fun X=>L.length-X.1.i) ⟨⟨0,0,O0⟩,by simp,hP0⟩ ?_ ?_)
   ·refine zq rfl ?_ ?_;simp -dsimp only[simprocAttr,↓aa,zp,zc]
    all_goals rfl
   rintro⟨⟨i,oid,O⟩,hi,hP⟩;simp only at hi hP;refine aA (ah ?_);apply iz rfl<;>intro h
   ·refine cd ?_;have bg:i<L.length:=by simpa using h
    obtain⟨kk,gl⟩:∃kk,L[i]?=some kk:=⟨L[i],by simp[bg]⟩
    have DC:=WK kk (List.mem_of_getElem? gl);obtain⟨k,hk⟩:∃k:Nat,kk=(k:Int):=⟨kk.toNat,by omega⟩
    subst hk;have eH:L.take (i+1)=L.take i++[(k:Int)]:=by rw[List.take_add_one,gl];rfl
    have xQ:(L.take i).length=i:=by rw[List.length_take];omega
    have lU:(k:Int) ∉ L.take i:=fun q=>by
     have h1:(L.take i++[(k:Int)]).Nodup:=by
      rw[<-eH];exact(List.take_sublist _ _).nodup XC
     rw[List.nodup_append]at h1;exact h1.2.2 _ q _ (by simp) rfl
    obtain⟨b,hb⟩:∃b,f.blocks[k]?=some b:=⟨f.blocks[k]'(by omega),List.getElem?_eq_getElem _⟩
    obtain⟨id,gp⟩:∃id,ids[k]?=some id:=⟨ids[k]'(by rw[hP.li];omega),List.getElem?_eq_getElem _⟩
    have hbt:=hg.to b (List.mem_of_getElem? hb);have Kz:=hg.fZ b (List.mem_of_getElem? hb);have pW:=hP.bl.2;have B6:=Ge gp hb;have aad:=mB hP.li;have XO:=I hP.out;have UD:=I pW;have WD:=I hP.r1;refine aJ (ai ?_);refine aS ?_;simp -dsimp only[simprocAttr,↓aa,zp,gl];refine ah ?_;by_cases rO:b.term.to=[]
    ·have vS:uE id b=[aK b.params,bf b.ins,aI b.term.kind,aI b.term.arg,aI b.term.n,aK b.term.cases,.aC 2 [] .sh]:=by
      unfold uE qO;rw[if_pos rO]
     rw[vS]at B6;refine aS ?_;simp -dsimp only[simprocAttr,↓aa,zp,pW,B6,Int.toNat_natCast]
     repeat(refine⟨by omega,?_⟩)
     refine ah ?_;refine aY 13 ([aK b.params,bf b.ins,aI b.term.kind,aI b.term.arg,aI b.term.n,aK b.term.cases,.aC 2 [] .sh]) [(1,.ip none [aI f.name,ay f.blocks]),(2,.mp 1 0),(5,aK L),(7,aK A),(9,.ip none [aI f.name,.os eg N 7]),(10,.mp X0 0),(45,aK L),(46,aI L.length),(47,aI i),(12,aI k),(13,.ip none [aK b.params,bf b.ins,aI b.term.kind,aI b.term.arg,aI b.term.n,aK b.term.cases,.aC 2 [] .sh])] (by simp[bF,bh,Go.Av.look]) (by rfl) (by omega) (by simp[bF,bh,Go.Av.look]) ?_ ?_ ?_
     ·exact hP.up
     ·simp[ae.upto,aw,az,Edge.ag,Ins.ag,Block.ag,XO,UD,WD]
     refine bX (ah ?_);refine ai (aO (ι:=Unit) (fun _=>⟨89,[(1,.ip none [aI f.name,ay f.blocks]),(2,.mp 1 0),(5,aK L),(7,aK A),(9,.ip none [aI f.name,.os eg N 7]),(10,.mp X0 0),(45,aK L),(46,aI L.length),(47,aI i),(13,.ip none [aK b.params,bf b.ins,aI b.term.kind,aI b.term.arg,aI b.term.n,aK b.term.cases,.aC 2 [] .sh]),(59,aI 0),(60,aI 0)],O⟩) (fun _=>0) () ?_ ?_)
     ·refine zq rfl ?_ ?_;simp -dsimp only[simprocAttr,↓aa,zp,zc]
      all_goals rfl
     rintro⟨⟩;refine aA (ah ?_);refine Zg rfl ?_;refine aM ?_;simp -dsimp only[bS,ne_eq,Nat.reduceEqDiff,reduceCtorEq];by_cases qi:L.take i=[]
     ·have ns:jG oid (oh f A (L.take i))=.aC 7 [] .ex:=by
       rw[qi];rfl
      have iU:=hP.out;rw[ns]at iU;have nr:(O)[X0]?=some (.cells [aI f.name,.aC 7 [] .ex]):=iU;have EU:∀Y,(O++Y)[X0]?=some (.cells [aI f.name,.aC 7 [] .ex]):=fun Y=>cw nr;have Ab:(O).length=O.length:=rfl;refine Qw ?_;simp -dsimp only[simprocAttr,↓aa,zp,nr,EU,dZ,fv,vS]
      repeat(refine⟨by omega,?_⟩)
      refine⟨trivial,?_⟩;refine ah ?_;have jB:Jr f A ids eg X0 (L.take i++[(k:Int)]) O.length ((O++[aj.cells ([aK b.params,bf b.ins,aI b.term.kind,aI b.term.arg,aI b.term.n,aK b.term.cases,.aC 2 [] .sh])]).set X0 (.cells [aI f.name,.os O.length 1 7])):=hP.snoc hb gp lU Ab (hP.up) (fun _ _ _=>rfl) (fun q=>absurd rO q) (by rw[rY gp hb,qi,<-vS];rfl) (by rw[qi];rfl);show cc Tryz.prog _ _ _ ⟨_,_,(O++[aj.cells ([aK b.params,bf b.ins,aI b.term.kind,aI b.term.arg,aI b.term.n,aK b.term.cases,.aC 2 [] .sh])]).set X0 (.cells [aI f.name,.os (O).length 1 7])⟩;rw[Ab];generalize (O++[aj.cells ([aK b.params,bf b.ins,aI b.term.kind,aI b.term.arg,aI b.term.n,aK b.term.cases,.aC 2 [] .sh])]).set X0 (.cells [aI f.name,.os O.length 1 7])=O7 at *;refine cT ?_
      repeat(refine⟨by omega,?_⟩)
      refine fK ?_;refine⟨⟨⟨i+1,O.length,O7⟩,bg,by rw[eH];exact jB⟩,by simp;omega,?_⟩;refine zq rfl ?_ ?_;simp -dsimp only[simprocAttr,↓aa,zp,zc]
      ·exact Sub.int (by simp)
      rfl
     obtain⟨l1,l2,l3,l4⟩:=hP.aC qi;have ns:jG oid (oh f A (L.take i))=.os oid i 7:=by
      unfold jG;rw[if_neg (by simpa[oh]using qi),kW,xQ]
     have iU:=hP.out;rw[ns]at iU;have nr:(O)[X0]?=some (.cells [aI f.name,.os oid i 7]):=iU;have l5:(O)[oid]?=some (.cells (fN (uA ids (L.take i)) (oh f A (L.take i)))):=l4;have EU:∀Y,((O).set oid .gone++Y)[X0]?=some (.cells [aI f.name,.os oid i 7]):=fun Y=>cw (bx nr (by omega));have Ab:((O).set oid .gone).length=O.length:=List.length_set;have Ku:(O).length=O.length:=rfl;have B8:=mB (ids:=uA ids (L.take i)) (bs:=oh f A (L.take i)) (by rw[AH,kW]);rw[kW,xQ]at B8;have Ac:(fN (uA ids (L.take i)) (oh f A (L.take i))).take (i*7)=fN (uA ids (L.take i)) (oh f A (L.take i)):=List.take_of_length_le (by omega);refine kC ?_;simp -dsimp only[simprocAttr,↓aa,zp,nr,EU,l5,Ac,B8,dZ,fv,vS]
     repeat(refine⟨by omega,?_⟩)
     refine⟨trivial,?_⟩;refine ah ?_;have jB:Jr f A ids eg X0 (L.take i++[(k:Int)]) O.length (((O).set oid .gone++[aj.cells (fN (uA ids (L.take i)) (oh f A (L.take i))++([aK b.params,bf b.ins,aI b.term.kind,aI b.term.arg,aI b.term.n,aK b.term.cases,.aC 2 [] .sh]))]).set X0 (.cells [aI f.name,.os O.length (i+1) 7])):=hP.snoc hb gp lU Ab (bz (hP.up) trivial) (fun j h1 h2=>by rw[List.getElem?_set_ne (Ne.symm (h2 qi))];skip) (fun q=>absurd rO q) (by rw[rY gp hb,vS]) (by rw[xQ]);show cc Tryz.prog _ _ _ ⟨_,_,((O).set oid .gone++[aj.cells (fN (uA ids (L.take i)) (oh f A (L.take i))++([aK b.params,bf b.ins,aI b.term.kind,aI b.term.arg,aI b.term.n,aK b.term.cases,.aC 2 [] .sh]))]).set X0 (.cells [aI f.name,.os (O).length (i+1) 7])⟩;rw[Ku];generalize ((O).set oid .gone++[aj.cells (fN (uA ids (L.take i)) (oh f A (L.take i))++([aK b.params,bf b.ins,aI b.term.kind,aI b.term.arg,aI b.term.n,aK b.term.cases,.aC 2 [] .sh]))]).set X0 (.cells [aI f.name,.os O.length (i+1) 7])=O7 at *;refine cT ?_
     repeat(refine⟨by omega,?_⟩)
     refine fK ?_;refine⟨⟨⟨i+1,O.length,O7⟩,bg,by rw[eH];exact jB⟩,by simp;omega,?_⟩;refine zq rfl ?_ ?_;simp -dsimp only[simprocAttr,↓aa,zp,zc]
     ·exact Sub.int (by simp)
     rfl
    obtain⟨o1,o2,o3,o4,o5⟩:=hP.own k id b gp hb rO;rw[if_neg lU]at o5;have vS:uE id b=[aK b.params,bf b.ins,aI b.term.kind,aI b.term.arg,aI b.term.n,aK b.term.cases,.os id b.term.to.length 2]:=by
     unfold uE qO;rw[if_neg rO]
    rw[vS]at B6;have xK:=I o5;refine aS ?_;simp -dsimp only[simprocAttr,↓aa,zp,pW,B6,Int.toNat_natCast]
    repeat(refine⟨by omega,?_⟩)
    refine ah ?_;refine aY 13 ([aK b.params,bf b.ins,aI b.term.kind,aI b.term.arg,aI b.term.n,aK b.term.cases,.os id b.term.to.length 2]) [(1,.ip none [aI f.name,ay f.blocks]),(2,.mp 1 0),(5,aK L),(7,aK A),(9,.ip none [aI f.name,.os eg N 7]),(10,.mp X0 0),(45,aK L),(46,aI L.length),(47,aI i),(12,aI k),(13,.ip none [aK b.params,bf b.ins,aI b.term.kind,aI b.term.arg,aI b.term.n,aK b.term.cases,.os id b.term.to.length 2])] (by simp[bF,bh,Go.Av.look]) (by rfl) (by omega) (by simp[bF,bh,Go.Av.look]) ?_ ?_ ?_
    ·exact hP.up
    ·simp[ae.upto,aw,az,Edge.ag,Ins.ag,Block.ag,XO,UD,WD,xK]
    have hO0:O.set id (.cells (ib (nC A b.term.to 0)))=O:=by
     rw[Ii];apply List.ext_getElem?;intro j;rw[List.getElem?_set];split
     ·rename_i e;rw[<-e,o5]
     rfl
    refine bX (ah ?_);refine ai (aO (ι:={n:Nat // n<=b.term.to.length}) (fun n=>⟨89,[(1,.ip none [aI f.name,ay f.blocks]),(2,.mp 1 0),(5,aK L),(7,aK A),(9,.ip none [aI f.name,.os eg N 7]),(10,.mp X0 0),(45,aK L),(46,aI L.length),(47,aI i),(13,.ip none [aK b.params,bf b.ins,aI b.term.kind,aI b.term.arg,aI b.term.n,aK b.term.cases,.os id b.term.to.length 2]),(59,aI b.term.to.length),(60,aI n.1)],O.set id (.cells (ib (nC A b.term.to n.1)))⟩) (fun n=>b.term.to.length-n.1) ⟨0,by omega⟩ ?_ ?_)
    ·refine zq rfl ?_ ?_;simp -dsimp only[simprocAttr,↓aa,zp,zc]
     all_goals exact hO0.symm
    rintro⟨z,hz⟩;refine aA (ah ?_);apply iz rfl<;>intro h
    ·refine cd ?_;have xl:z<b.term.to.length:=by simpa using h
     obtain⟨e,he⟩:∃e,b.term.to[z]?=some e:=⟨b.term.to[z],by simp[xl]⟩
     have ZW:=Kz e (List.mem_of_getElem? he);have qj:(O.set id (.cells (ib (nC A b.term.to z))))[id]?=some (.cells (ib (nC A b.term.to z))):=List.getElem?_set_self xK;obtain⟨c1,c2⟩:=RQ (O9 A he);have Yx:=Ih A he;have Yu:(ib (nC A b.term.to z)).length=b.term.to.length*2:=by rw[nj,CG]
     obtain⟨x,hx⟩:∃x:Nat,e.block=(x:Int):=⟨e.block.toNat,by omega⟩
     have hAx:A[x]?=some (DP A e.block):=by
      unfold DP;rw[hx,Int.toNat_natCast,List.getElem?_eq_getElem (by omega)];rfl
     refine aJ (ai ?_);refine aA (ah ?_);refine kC ?_;simp -dsimp only[simprocAttr,↓aa,zp,qj,c1,hx,hAx,Yu,Int.toNat_natCast]
     repeat(refine⟨by omega,?_⟩)
     refine⟨ob (by kernel_rfl),?_⟩;refine ah ?_;rw[<-hx,Yx,List.set_set];refine cT ?_
     repeat(refine⟨by omega,?_⟩)
     refine fK ?_;refine⟨⟨z+1,xl⟩,by simp;omega,?_⟩;refine zq rfl ?_ ?_;simp -dsimp only[simprocAttr,↓aa,zp,zc]
     ·exact Sub.int (by simp)
     rfl
    refine aM ?_;simp -dsimp only[bS,ne_eq,Nat.reduceEqDiff,reduceCtorEq];have Al:b.term.to.length<=z:=by
     have:=of_decide_eq_false h;omega
    rw[Lk A Al];by_cases qi:L.take i=[]
    ·have ns:jG oid (oh f A (L.take i))=.aC 7 [] .ex:=by
      rw[qi];rfl
     have iU:=hP.out;rw[ns]at iU;have nr:(O.set id (.cells (ib (b.term.to.map (gY A)))))[X0]?=some (.cells [aI f.name,.aC 7 [] .ex]):=bx iU o3;have EU:∀Y,(O.set id (.cells (ib (b.term.to.map (gY A))))++Y)[X0]?=some (.cells [aI f.name,.aC 7 [] .ex]):=fun Y=>cw nr;have Ab:(O.set id (.cells (ib (b.term.to.map (gY A))))).length=O.length:=List.length_set;refine Qw ?_;simp -dsimp only[simprocAttr,↓aa,zp,nr,EU,dZ,fv,vS]
     repeat(refine⟨by omega,?_⟩)
     refine⟨trivial,?_⟩;refine ah ?_;have jB:Jr f A ids eg X0 (L.take i++[(k:Int)]) O.length ((O.set id (.cells (ib (b.term.to.map (gY A))))++[aj.cells ([aK b.params,bf b.ins,aI b.term.kind,aI b.term.arg,aI b.term.n,aK b.term.cases,.os id b.term.to.length 2])]).set X0 (.cells [aI f.name,.os O.length 1 7])):=hP.snoc hb gp lU Ab (bz hP.up (show aj.upto O.length (.cells (ib (b.term.to.map (gY A)))) from vL _ _)) (fun j h1 _=>by rw[List.getElem?_set_ne (Ne.symm (h1 rO))]) (fun _=>List.getElem?_set_self (I o5)) (by rw[rY gp hb,qi,<-vS];rfl) (by rw[qi];rfl);show cc Tryz.prog _ _ _ ⟨_,_,(O.set id (.cells (ib (b.term.to.map (gY A))))++[aj.cells ([aK b.params,bf b.ins,aI b.term.kind,aI b.term.arg,aI b.term.n,aK b.term.cases,.os id b.term.to.length 2])]).set X0 (.cells [aI f.name,.os (O.set id (.cells (ib (b.term.to.map (gY A))))).length 1 7])⟩;rw[Ab];generalize (O.set id (.cells (ib (b.term.to.map (gY A))))++[aj.cells ([aK b.params,bf b.ins,aI b.term.kind,aI b.term.arg,aI b.term.n,aK b.term.cases,.os id b.term.to.length 2])]).set X0 (.cells [aI f.name,.os O.length 1 7])=O7 at *;refine cT ?_
     repeat(refine⟨by omega,?_⟩)
     refine fK ?_;refine⟨⟨⟨i+1,O.length,O7⟩,bg,by rw[eH];exact jB⟩,by simp;omega,?_⟩;refine zq rfl ?_ ?_;simp -dsimp only[simprocAttr,↓aa,zp,zc]
     ·exact Sub.int (by simp)
     rfl
    obtain⟨l1,l2,l3,l4⟩:=hP.aC qi;have ns:jG oid (oh f A (L.take i))=.os oid i 7:=by
     unfold jG;rw[if_neg (by simpa[oh]using qi),kW,xQ]
    have iU:=hP.out;rw[ns]at iU;have nr:(O.set id (.cells (ib (b.term.to.map (gY A)))))[X0]?=some (.cells [aI f.name,.os oid i 7]):=bx iU o3;have l5:(O.set id (.cells (ib (b.term.to.map (gY A)))))[oid]?=some (.cells (fN (uA ids (L.take i)) (oh f A (L.take i)))):=bx l4 (o4 qi);have EU:∀Y,((O.set id (.cells (ib (b.term.to.map (gY A))))).set oid .gone++Y)[X0]?=some (.cells [aI f.name,.os oid i 7]):=fun Y=>cw (bx nr (by omega));have Ab:((O.set id (.cells (ib (b.term.to.map (gY A))))).set oid .gone).length=O.length:=by rw[List.length_set];exact List.length_set
    have Ku:(O.set id (.cells (ib (b.term.to.map (gY A))))).length=O.length:=List.length_set;have B8:=mB (ids:=uA ids (L.take i)) (bs:=oh f A (L.take i)) (by rw[AH,kW]);rw[kW,xQ]at B8;have Ac:(fN (uA ids (L.take i)) (oh f A (L.take i))).take (i*7)=fN (uA ids (L.take i)) (oh f A (L.take i)):=List.take_of_length_le (by omega);refine kC ?_;simp -dsimp only[simprocAttr,↓aa,zp,nr,EU,l5,Ac,B8,dZ,fv,vS]
    repeat(refine⟨by omega,?_⟩)
    refine⟨trivial,?_⟩;refine ah ?_;have jB:Jr f A ids eg X0 (L.take i++[(k:Int)]) O.length (((O.set id (.cells (ib (b.term.to.map (gY A))))).set oid .gone++[aj.cells (fN (uA ids (L.take i)) (oh f A (L.take i))++([aK b.params,bf b.ins,aI b.term.kind,aI b.term.arg,aI b.term.n,aK b.term.cases,.os id b.term.to.length 2]))]).set X0 (.cells [aI f.name,.os O.length (i+1) 7])):=hP.snoc hb gp lU Ab (bz (bz hP.up (show aj.upto O.length (.cells (ib (b.term.to.map (gY A)))) from vL _ _)) trivial) (fun j h1 h2=>by rw[List.getElem?_set_ne (Ne.symm (h2 qi))];exact(fun j h1 _=>by rw[List.getElem?_set_ne (Ne.symm (h1 rO))]) j h1 h2) (fun q=>by rw[List.getElem?_set_ne (Ne.symm (o4 qi))];exact(fun _=>List.getElem?_set_self (I o5)) q) (by rw[rY gp hb,vS]) (by rw[xQ]);show cc Tryz.prog _ _ _ ⟨_,_,((O.set id (.cells (ib (b.term.to.map (gY A))))).set oid .gone++[aj.cells (fN (uA ids (L.take i)) (oh f A (L.take i))++([aK b.params,bf b.ins,aI b.term.kind,aI b.term.arg,aI b.term.n,aK b.term.cases,.os id b.term.to.length 2]))]).set X0 (.cells [aI f.name,.os (O.set id (.cells (ib (b.term.to.map (gY A))))).length (i+1) 7])⟩;rw[Ku];generalize ((O.set id (.cells (ib (b.term.to.map (gY A))))).set oid .gone++[aj.cells (fN (uA ids (L.take i)) (oh f A (L.take i))++([aK b.params,bf b.ins,aI b.term.kind,aI b.term.arg,aI b.term.n,aK b.term.cases,.os id b.term.to.length 2]))]).set X0 (.cells [aI f.name,.os O.length (i+1) 7])=O7 at *;refine cT ?_
    repeat(refine⟨by omega,?_⟩)
    refine fK ?_;refine⟨⟨⟨i+1,O.length,O7⟩,bg,by rw[eH];exact jB⟩,by simp;omega,?_⟩;refine zq rfl ?_ ?_;simp -dsimp only[simprocAttr,↓aa,zp,zc]
    ·exact Sub.int (by simp)
    rfl
   refine aM ?_;simp -dsimp only[bS,ne_eq,Nat.reduceEqDiff,reduceCtorEq];have hiL:L.length<=i:=by
    have:=of_decide_eq_false h;omega
   rw[List.take_of_length_le hiL]at hP;obtain⟨l1,l2,l3,l4⟩:=hP.aC WJ;have ns:jG oid (oh f A L)=.os oid L.length 7:=by
    unfold jG;rw[if_neg (by simpa[oh]using WJ),kW]
   have iU:=hP.out;have ux:=hP.r1;have WD:=I ux;have Nj:=hP.x5;rw[ns]at iU;refine aS ?_;simp -dsimp only[simprocAttr,↓aa,zp,iU,ux];refine ah ?_;have hlen:(uA ids L).length=(oh f A L).length:=by rw[AH,kW]
   have Oy:∀(j id:Nat) (c:Block),(uA ids L)[j]?=some id->(oh f A L)[j]?=some c->c.term.to≠[]->∃(k:Nat) (b:Block),L[j]?=some (k:Int)∧f.blocks[k]?=some b∧ids[k]?=some id∧c=tg A b∧b.term.to≠[]:=fun j id c h1 h2 h3=>by
    unfold uA at h1;unfold oh at h2;rw[List.getElem?_map,Option.map_eq_some_iff]at h1 h2;obtain⟨kk,e1,e2⟩:=h1;obtain⟨k2,e3,e4⟩:=h2;rw[e1]at e3;simp only[Option.some.injEq]at e3;subst e3;have DC:=WK kk (List.mem_of_getElem? e1);have qh:f.blocks[kk.toNat]?=some (f.blocks[kk.toNat]'(by omega)):=List.getElem?_eq_getElem _;have UR:ax f kk=f.blocks[kk.toNat]'(by omega):=by
     unfold ax;rw[qh];rfl
    have Vk:ids[kk.toNat]?=some id:=by
     rw[List.getElem?_eq_getElem (by rw[hP.li];omega)]at e2 ⊢;exact congrArg some e2
    refine⟨kk.toNat,ax f kk,by rw[e1];congr 1;omega,by rw[UR];exact qh,Vk,e4.symm,fun q=>h3 ?_⟩;rw[<-e4,iM,q];rfl
   refine DR (ids:=uA ids L) (bs:=oh f A L) (X:=1) (oid:=oid) (name:=f.name) hlen (by omega) (by rw[kW];exact List.getElem?_set_self WD) (by rw[List.getElem?_set_ne (by omega)];exact l4) (fun j id c h1 h2 h3=>?_) (fun i j id c d h1 h2 h3 h4 h5 h6=>?_) fun O1 dV XF=>?_
   ·obtain⟨k,b,q1,q2,q3,q4,q5⟩:=Oy j id c h1 h2 h3;obtain⟨o1,o2,o3,o4,o5⟩:=hP.own k id b q3 q2 q5;rw[if_pos (List.mem_of_getElem? q1)]at o5;exact⟨o4 WJ,by omega,by rw[List.getElem?_set_ne (by omega),q4];exact o5⟩
   ·obtain⟨k,b,q1,q2,q3,q4,q5⟩:=Oy i id c h1 h3 h5;obtain⟨k',b',r1,r2,r3,r4,r5⟩:=Oy j id d h2 h4 h6;have gl:=hP.inj k k' id b b' q3 r3 q2 r2 q5 r5;subst gl;have sR:=List.pairwise_iff_getElem.1 XC;have e1:=List.getElem?_eq_some_iff.1 q1;have e2:=List.getElem?_eq_some_iff.1 r1;obtain⟨p1,p2⟩:=e1;obtain⟨p3,p4⟩:=e2;refine Classical.byContradiction fun q=>?_;rcases Nat.lt_or_gt_of_ne q with q|q
    ·exact sR i j p1 p3 q (p2.trans p4.symm)
    exact sR j i p3 p1 q (p4.trans p2.symm)
   refine aq ?_;simp -dsimp only[simprocAttr,↓aa,zp,zr,Tryz.results70,XF];simp[aw,ae.upto,az,Block.ag]
  exact bQ.mp rfl rfl
 rw[if_neg hc]at SH ⊢;obtain⟨e,he⟩:∃e,e=aZ f:=⟨_,rfl⟩
 rw[<-he]at hc SH ⊢;have jP:decide (e=0)=false:=decide_eq_false hc;refine zf true 0 Tryz.func70 Tryz.ntmps70 ?_;dsimp only[Tmp,TypeId,slotsOf];refine aA (ah ?_);refine aD 1 0 (.ip none [aI f.name,ay f.blocks]) rfl (by simp[aj.aF]) trivial rfl ?_ ?_;rotate_left;simp -dsimp only[simprocAttr,↓aa,zp]
 ·refine aA ?_;refine zi SH ?_;refine ah ?_;refine c9 ?_;simp -dsimp only[simprocAttr,↓aa,zp,jP];refine ah ?_;refine cH rfl ?_;refine aA (ah ?_);refine aq ?_;simp -dsimp only[simprocAttr,↓aa,zp,zr,Tryz.results70];simp[aw,ae.upto]
 exact bQ.mp rfl rfl
def rT(f:Func)(i:Nat):Nat:=(((List.range i).map fun k:Nat=>(k:Int)).filter fun k=>decide (0<=gX f k)).length
theorem Lx(f:Func)(i:Nat):rT f (i+1)=rT f i+if 0<=eK f (i:Int)then 1 else 0:=by
 have hp:0<=eK f (i:Int)↔0<=gX f (i:Int):=⟨fun h=>dT.1 ((fT (l:=ec f) (n:=(i:Int))).1.1 h),fun h=>(pos_at h).1⟩
 unfold rT;rw[List.range_succ,List.map_append,List.filter_append,List.length_append];congr 1;by_cases h:0<=gX f (i:Int)
 ·rw[if_pos (hp.2 h)];simp[h]
 rw[if_neg (fun q=>h (hp.1 q))];simp[h]
theorem SY{f:Func}(hw:mY f){i:Nat}(h:0<=eK f (i:Int)):eK f (i:Int)=rT f i:=by
 have hp:=dT.1 ((fT (l:=ec f) (n:=(i:Int))).1.1 h);have hr:=hw.range _ hp;refine qQ hw ?_;rw[wN hw];obtain⟨n,hn⟩:∃n,f.blocks.length=i+1+n:=⟨f.blocks.length-(i+1),by omega⟩
 rw[hn,List.range_add,List.range_succ,List.append_assoc,List.map_append,List.filter_append];unfold rT;rw[List.getElem?_append_right (Nat.le_refl _),Nat.sub_self,List.map_append,List.filter_append];simp[hp]
def Eo(f:Func):ae:=if aZ (eC f)=0 then .cD [(dR f).enc,aI 0]else .cD [.agg [aI 0,.aC 7 [] .sh],aI (aZ (eC f))]
def zB:List ae:=[.aC 1 [] .ex,.aC 4 [] .ex,aI 0,aI 0,aI 0,.aC 1 [] .ex,.aC 2 [] .ex]
def gC(G:List Block)(n c:Nat):List ae:=au ((G.take c).map Block.enc)++(List.replicate (n-c) zB).flatten
theorem kZ(l:List Block):∀x∈l.map Block.enc,x.cells.length=7:=fun x hx=>by
 obtain⟨b,_,rfl⟩:=List.mem_map.1 hx;rfl
theorem N9(G:List Block)(n:Nat):(List.replicate n [ae.aC 1 [] .ex,.aC 4 [] .ex,.v (.int .i64 0),.v (.int .i64 0),.v (.int .i64 0),.aC 1 [] .ex,.aC 2 [] .ex]).flatten=gC G n 0:=by
 unfold gC;rfl
theorem RX{G:List Block}{n c:Nat}(hG:G.length=n)(hc:c<=n):(gC G n c).length=n*7:=by
 unfold gC;have:=bE (kZ (G.take c));rw[List.length_map,List.length_take]at this;rw[List.length_append,this,List.length_flatten,List.map_replicate,List.sum_replicate_nat];simp only[zB,List.length_cons,List.length_nil];omega
theorem N7{G:List Block}{n c:Nat}{b:Block}(hG:G.length=n)(h:G[c]?=some b):bo (gC G n c) (c*7) b.enc.cells=gC G n (c+1):=by
 have bg:=I h;have hl:=bE (kZ (G.take c));rw[List.length_map,List.length_take]at hl;have hl7:(au ((G.take c).map Block.enc)).length=c*7:=by rw[hl];omega
 have hb:b.enc.cells.length=7:=rfl;have eH:(G.take (c+1)).map Block.enc=(G.take c).map Block.enc++[b.enc]:=by
  rw[List.take_add_one,h];simp
 unfold gC bo;rw[eH,cL,List.take_append_of_le_length (by omega),List.take_of_length_le (by omega),hb,List.drop_append,List.drop_of_length_le (by omega),hl7,show n-c=(n-(c+1))+1 by omega,List.replicate_succ,List.flatten_cons,
  show c*7+7-c*7=7 by omega]
 simp only[List.nil_append];rw[show((zB++(List.replicate (n-(c+1)) zB).flatten).drop 7)=(List.replicate (n-(c+1)) zB).flatten from rfl];simp[au]
theorem N8(G:List Block)(n c m:Nat):aw m (gC G n c):=by
 rw[aV];intro x hx;unfold gC at hx;rcases List.mem_append.1 hx with q|q
 ·simp only[au,List.mem_flatMap,List.mem_map]at q;obtain⟨_,⟨b,_,rfl⟩,hx⟩:=q;have:=Block.ag m [b];simp only[List.map_cons,List.map_nil,aw,and_true]at this;have h2:aw m b.enc.cells:=this;rw[aV]at h2;exact h2 x hx
 obtain⟨l,hl,hx⟩:=List.mem_flatten.1 q;rw[(List.mem_replicate.1 hl).2]at hx;simp only[zB,List.mem_cons,List.not_mem_nil,or_false]at hx;rcases hx with rfl|rfl|rfl|rfl|rfl|rfl|rfl<;>trivial
theorem Kk{z:List ae}{n j r:Nat}(hj:j<n)(hr:r<7)(hz:z.length=7:=by rfl):(List.replicate n z).flatten[j*7+r]?=z[r]?:=by
 induction n generalizing j with
 | zero=>omega
 | succ n ih =>
  rw[List.replicate_succ,List.flatten_cons];cases j with
  | zero=>rw[Nat.zero_mul,Nat.zero_add,List.getElem?_append_left (by omega)]
  | succ j =>
   rw[List.getElem?_append_right (by omega),show(j+1)*7+r-z.length=j*7+r by omega];exact ih (by omega)
theorem MW{g:Func}{inn:List (List Int)}{N:List (List Bool)}(ord:List Int)(n:Nat){C0 A0:List ae}(hC:C0=(List.replicate n [ae.aC 1 [] .ex,.aC 4 [] .ex,.v (.int .i64 0),.v (.int .i64 0),.v (.int .i64 0),.aC 1 [] .ex,.aC 2 [] .ex]).flatten)(hA:A0=(List.replicate n [ae.v (Value.map none)]).flatten) :
  WI ord n 0 (fg g inn N (ord.take 0)) C0 A0:=by
 have hl:C0.length=n*7:=by rw[hC,List.length_flatten,List.map_replicate,List.sum_replicate_nat];rfl
 have hm:∀x∈C0,x∈zB:=fun x hx=>by
  rw[hC]at hx;obtain⟨l,hl,hx⟩:=List.mem_flatten.1 hx;rw[(List.mem_replicate.1 hl).2]at hx;exact hx
 refine⟨hl,fun j hj r hr=>?_,by rw[hA,List.length_flatten,List.map_replicate,List.sum_replicate_nat];simp,fun k hk=>(by simp at hk),fun j _=>rfl,fun k hk=>(by simp at hk),?_,fun d hd=>?_,?_,by show(0:Int)<=0∧(0:Int)<=_;omega⟩
 ·rw[hC,Kk hj hr];rfl
 ·rw[aV];intro x hx;have:=hm x hx;simp only[zB,List.mem_cons,List.not_mem_nil,or_false]at this;rcases this with rfl|rfl|rfl|rfl|rfl|rfl|rfl<;>trivial
 ·have:=hm d hd;simp only[zB,List.mem_cons,List.not_mem_nil,or_false]at this;rcases this with rfl|rfl|rfl|rfl|rfl|rfl|rfl<;>trivial
 rw[aV];intro x hx;rw[hA]at hx;obtain⟨l,hl,hx⟩:=List.mem_flatten.1 hx;rw[(List.mem_replicate.1 hl).2,List.mem_singleton]at hx;subst hx;trivial
theorem Es(f:Func)(a8:f.fit)(eF:ou f):bD Tryz.prog 51 [f.enc] (Eo f):=by
 have sT:=x8 f eF.few;have xm:=FB (eC f) (AX a8);unfold FA at xm;unfold Eo;by_cases hc:aZ (eC f)=0
 ·rw[if_pos hc]at xm ⊢;have hW:=J9 a8 eF hc;have TL:=hW.gw.few;have QV:=oG a8 eF hc;have Jf:=wE _ (Fv a8 eF hc);have rL:=Fy _ (Fv a8 eF hc);unfold AA at Jf;unfold Fx at rL;rw[if_pos (CT a8 eF hc)]at Jf rL;obtain⟨n,hn⟩:∃n,n=(fR f).blocks.length:=⟨_,rfl⟩
  rw[<-hn]at hW TL QV;have ET:(bj (eC f)).blocks.length=n:=QV.symm;obtain⟨sk,Ck⟩:∃sk,sk=eC f:=⟨_,rfl⟩
  rw[<-Ck]at sT xm Jf rL hW ET;obtain⟨s,hs⟩:∃s,s=bj sk:=⟨_,rfl⟩
  rw[<-hs]at xm Jf rL hW ET;refine zf true 0 Tryz.func51 Tryz.ntmps51 ?_;dsimp only[Tmp,TypeId,slotsOf];refine aA (ah ?_);refine aD 1 0 (.ip none [aI f.name,ay f.blocks]) rfl (by simp[aj.aF]) trivial rfl ?_ ?_;rotate_left;simp -dsimp only[simprocAttr,↓aa,zp];rotate_left
  ·exact bQ.mp rfl rfl
  refine aA ?_;refine .inl ⟨_,sT,by simp only[aw,ae.upto,zt,zu,az,fi,iD,jl,Block.ag],ao ?_⟩;simp -dsimp only[simprocAttr,↓aa,zp];refine .inl ⟨_,xm,by simp only[aw,ae.upto,zt,zu,az,fi,iD,jl,Block.ag],ao ?_⟩;simp -dsimp only[simprocAttr,↓aa,zp];refine ah ?_;refine bX (ah ?_);apply aP rfl<;>intro h
  ·cases h
  refine cd ?_;refine aD 4 2 (.ip none [aI s.name,ay s.blocks]) rfl (by simp[aj.aF]) trivial rfl ?_ ?_;rotate_left;simp -dsimp only[simprocAttr,↓aa,zp];rotate_left
  ·exact bQ.mp rfl rfl
  refine vf 2 ?_;show cc Tryz.prog _ _ _ ⟨_,_,[.gone,.cells [aI 0,.aC 7 [] .ex],.gone,.spare 0,.spare 0]⟩;refine aJ (vh hm (xn.T4 ⟨false,false⟩ hT 5 rfl rfl (by simp) ?_));simp -dsimp only[simprocAttr,↓aa,zp,ET];refine xn.op rfl rfl (jj hT (id:=3) rfl (by simp) FU rfl FV rfl rfl (by omega) (by simp;omega) (by omega) (by decide) rfl) ?_;simp -dsimp only[simprocAttr,↓aa,zp];refine xn.T4 ⟨false,false⟩ hT 2 rfl rfl (by simp) ?_;simp -dsimp only[simprocAttr,↓aa,zp];refine xn.op rfl rfl (xt hT (id:=4) rfl (by simp) GZ rfl) ?_;simp -dsimp only[simprocAttr,↓aa,zp];refine xn.T4 ⟨false,false⟩ hT 1 rfl rfl (by simp) ?_;simp -dsimp only[simprocAttr,↓aa,zp];refine xn.fin rfl ⟨ob (by kernel_rfl),?_⟩;refine ah ?_;refine aA (ah ?_);refine bX (ah ?_);obtain⟨G,hG⟩:∃G,G=(fR f).blocks:=⟨_,rfl⟩
  have UF:G.length=n:=by rw[hG,hn]
  have oN:∀(k:Nat),k<f.blocks.length->(nS sk)[k]?=some (eK sk k):=fun k hk=>by
   unfold nS;rw[List.getElem?_map,List.getElem?_range (by rw[Ck,jv];exact hk)];rfl
  have Q6:mY sk:=by rw[Ck];exact jF (sf a8 eF hc)
  have UE:∀(k:Nat) b,f.blocks[k]?=some b->0<=eK sk k->∃c,s.blocks[rT sk k]?=some c∧G[rT sk k]?=some (n4 b c.term.to)∧eK sk k=rT sk k:=fun k b hb hp=>by
   have h1:=SY Q6 hp;have h2:(ec sk)[rT sk k]?=some (k:Int):=by
    have:=(fT (l:=ec sk) (n:=(k:Int))).2 hp;rw[show kH (ec sk) (k:Int)=eK sk k from rfl,h1,Int.toNat_natCast]at this;exact this
   have bg:rT sk k<s.blocks.length:=by
    have:=I h2;rw[hs,dW];exact this
   refine⟨s.blocks[rT sk k],List.getElem?_eq_getElem _,?_,h1⟩;rw[hG];unfold fR;rw[<-Ck,<-hs,List.getElem?_map,h2];simp only[Option.map_some,Option.some.injEq];rw[h1];have qh:ax f (k:Int)=b:=by unfold ax;rw[Int.toNat_natCast,hb];rfl
   have Nc:ax s ((rT sk k:Nat):Int)=s.blocks[rT sk k]:=by unfold ax;rw[Int.toNat_natCast,List.getElem?_eq_getElem bg];rfl
   rw[qh,Nc]
  have Gr:rT sk 0=0:=rfl;obtain⟨fl,gL⟩:∃fl,fl=f.blocks.length:=⟨_,rfl⟩
  have aai:=eF.few;have hZ0:=N9 G n;refine ai (aO (ι:={X:Nat×Int // X.1<=fl∧rT sk X.1<=n∧0<=X.2∧X.2<=4096∧lr f=(f.blocks.drop X.1).foldl jE X.2}) (fun X=>⟨172,[(1,.ip none [aI f.name,ay f.blocks]),(2,.mp 1 0),(4,.ip none [aI s.name,ay s.blocks]),(5,aK (nS sk)),(7,.mp 4 0),(8,aI X.1.2),(41,ay f.blocks),(42,aI fl),(43,aI X.1.1)],[.gone,.cells [aI 0,.aC 7 [] .ex],.gone,.cells (gC G n (rT sk X.1.1)),.cells [aI f.name,.ms 3 0 n n,.aC 1 [] .ex,.aC 1 [] .ex]]⟩) (fun X=>fl-X.1.1) ⟨(0,0),Nat.zero_le _,by rw[Gr];omega,by decide,by decide,rfl⟩ ?_ ?_)
  ·refine zq rfl ?_ ?_;simp -dsimp only[simprocAttr,↓aa,zp,zc]
   all_goals first|rfl|(rw[gL];exact Sub.refl _)
  rintro⟨⟨k,m⟩,hk,EI,mq,oL,OK⟩;simp only at hk EI mq oL OK;refine aA (ah ?_);apply iz rfl<;>intro h
  ·refine cd ?_;have ER:k<fl:=by simpa using h
   obtain⟨b,hb⟩:∃b,f.blocks[k]?=some b:=⟨f.blocks[k]'(by omega),List.getElem?_eq_getElem _⟩
   have mg:=List.mem_of_getElem? hb;rw[bP hb,List.foldl_cons]at OK;have GB:=oN k (by omega);have KX:=Lx sk k;obtain⟨T,Ac⟩:∃T,T=if 0<=eK sk k then(ax s (eK sk k)).term.to else b.term.to:=⟨_,rfl⟩
   refine aJ (ai ?_);refine aS ?_;simp -dsimp only[simprocAttr,↓aa,zp,hb];refine ah ?_;refine gI (⟨172,[(1,.ip none [aI f.name,ay f.blocks]),(2,.mp 1 0),(4,.ip none [aI s.name,ay s.blocks]),(5,aK (nS sk)),(7,.mp 4 0),(8,aI m),(41,ay f.blocks),(42,aI fl),(43,aI k),(10,.mp 5 0)],[.gone,.cells [aI 0,.aC 7 [] .ex],.gone,.cells (gC G n (rT sk (k+1))),.cells [aI f.name,.ms 3 0 n n,.aC 1 [] .ex,.aC 1 [] .ex],.cells [aK b.params,bf b.ins,aI b.term.kind,aI b.term.arg,aI b.term.n,aK b.term.cases,aH T]]⟩) ?_ ?_
   ·by_cases hp:0<=eK sk k
    ·rw[if_pos hp]at Ac KX;obtain⟨c,lL,M5,ZP⟩:=UE k b hb hp;have V1:=N7 UF M5;have ZQ:c.term.to=T:=by
      rw[Ac,ZP];unfold ax;rw[Int.toNat_natCast,lL];rfl
     rw[ZQ]at V1;have hd:decide (0<=eK sk k)=true:=decide_eq_true hp;rw[KX];have Jd:=I M5;have Ye:=RX (c:=rT sk k) UF (by omega);rw[ZP]at GB hd;refine aS ?_;simp -dsimp only[simprocAttr,↓aa,zp,GB,hd]
     repeat(refine⟨by omega,?_⟩)
     refine ah ?_;refine cH rfl ?_;have YR:bo (gC G n (rT sk k)) (rT sk k*7) [aK b.params,bf b.ins,aI b.term.kind,aI b.term.arg,aI b.term.n,aK b.term.cases,aH T]=gC G n (rT sk k+1):=V1;refine aS ?_;simp -dsimp only[simprocAttr,↓aa,zp,GB,lL,ZQ,Int.toNat_natCast,Nat.mul_one]
     repeat(refine⟨by omega,?_⟩)
     refine⟨ob (by kernel_rfl),?_⟩;refine ah ?_;refine fb hT hm ?_;simp -dsimp only[simprocAttr,↓aa,zp,GB,Ye,YR,Int.toNat_natCast,Nat.mul_one]
     repeat(refine⟨by omega,?_⟩)
     refine⟨ob (by kernel_rfl),?_⟩;refine ba ?_;show bc _ _;refine zq rfl ?_ ?_;simp -dsimp only[simprocAttr,↓aa,zp,zc]
     all_goals rfl
    have hd:decide (0<=eK sk k)=false:=decide_eq_false hp;rw[if_neg hp]at Ac KX;rw[Ac,KX];refine aS ?_;simp -dsimp only[simprocAttr,↓aa,zp,GB,hd]
    repeat(refine⟨by omega,?_⟩)
    refine ah ?_;refine cr rfl ?_;refine a6 ?_;show bc _ _;refine zq rfl ?_ ?_;simp -dsimp only[simprocAttr,↓aa,zp,zc]
    all_goals rfl
   have On:=hZ.1 (eF.arg b mg);have Ya:=a8.2.2 b mg;have tH:=Ya.2.1;have aam:=Ya.2.2.1;have Cp:=fun v hv=>hZ.1 (eF.Fu b mg v hv);have Vl:=fun i hi=>uR eF mg (i:=i) hi;have V':∀o∈([.gone,.cells [aI 0,.aC 7 [] .ex],.gone,.cells (gC G n (rT sk (k+1))),.cells [aI f.name,.ms 3 0 n n,.aC 1 [] .ex,.aC 1 [] .ex]]:List aj),o.upto 5:=fun o ho=>by
    simp only[List.mem_cons,List.not_mem_nil,or_false]at ho;rcases ho with rfl|rfl|rfl|rfl|rfl
    ·trivial
    ·exact⟨trivial,⟨trivial,trivial⟩,trivial⟩
    ·trivial
    ·exact N8 _ _ _ _
    exact⟨trivial,show 3<5 by decide,⟨trivial,trivial⟩,⟨trivial,trivial⟩,trivial⟩
   refine aD 10 5 (.ip none [aK b.params,bf b.ins,aI b.term.kind,aI b.term.arg,aI b.term.n,aK b.term.cases,aH T]) rfl (by simp[aj.aF]) trivial rfl ?_ ?_;rotate_left;simp -dsimp only[simprocAttr,↓aa,zp];rotate_left
   ·exact bQ.mp rfl rfl
   refine bt 5 [(1,.ip none [aI f.name,ay f.blocks]),(2,.mp 1 0),(4,.ip none [aI s.name,ay s.blocks]),(5,aK (nS sk)),(7,.mp 4 0),(8,aI m),(41,ay f.blocks),(42,aI fl),(43,aI k),(10,.ip none [aK b.params,bf b.ins,aI b.term.kind,aI b.term.arg,aI b.term.n,aK b.term.cases,aH T])] (by simp) (by omega) [.gone,.cells [aI 0,.aC 7 [] .ex],.gone,.cells (gC G n (rT sk (k+1))),.cells [aI f.name,.ms 3 0 n n,.aC 1 [] .ex,.aC 1 [] .ex]] ?_ ?_ ?_ ?_ ?_
   ·rfl
   ·exact V'
   ·simp[fj,St.get,bF,bh,Go.Av.look,Sub.refl]
   ·simp[aj.upto,aw,ae.upto,az,Func.ag,Block.ag,Edge.ag,Ins.ag]
   have e0:max m (b.term.arg+1)=nE m b.term.arg:=rfl;obtain⟨m0,Sw⟩:∃m0,m0=nE m b.term.arg:=⟨_,rfl⟩
   have Vx:0<=m0∧m0<=4096:=by rw[Sw];unfold nE;omega
   refine aS ?_;simp -dsimp only[simprocAttr,↓aa,zp,e0,<-Sw]
   repeat(refine⟨by omega,?_⟩)
   refine ah ?_;refine bX (ah ?_);unfold jE at OK;rw[<-Sw]at OK;obtain⟨m1,xM⟩:∃m1,m1=b.params.foldl nE m0:=⟨_,rfl⟩
   have aan:0<=m1∧m1<=4096:=by
    have h1:=(uS b.params m0).1;have h2:=GU (c:=4096) b.params (m:=m0) (by omega) fun v hv=>by have:=Cp v hv;omega
    omega
   rw[<-xM]at OK;refine ai (aO (ι:={X:Nat×Int // X.1<=b.params.length∧0<=X.2∧X.2<=4096∧m1=(b.params.drop X.1).foldl nE X.2}) (fun X=>⟨172,[(1,.ip none [aI f.name,ay f.blocks]),(2,.mp 1 0),(4,.ip none [aI s.name,ay s.blocks]),(5,aK (nS sk)),(7,.mp 4 0),(8,aI X.1.2),(41,ay f.blocks),(42,aI fl),(43,aI k),(10,.ip none [aK b.params,bf b.ins,aI b.term.kind,aI b.term.arg,aI b.term.n,aK b.term.cases,aH T]),(81,aK b.params),(82,aI b.params.length),(83,aI X.1.1)],[.gone,.cells [aI 0,.aC 7 [] .ex],.gone,.cells (gC G n (rT sk (k+1))),.cells [aI f.name,.ms 3 0 n n,.aC 1 [] .ex,.aC 1 [] .ex]]⟩) (fun X=>b.params.length-X.1.1) ⟨(0,m0),Nat.zero_le _,Vx.1,Vx.2,xM⟩ ?_ ?_)
   ·refine zq rfl ?_ ?_;simp -dsimp only[simprocAttr,↓aa,zp,zc]
    all_goals rfl
   rintro⟨⟨z,p⟩,hz,HX,EV,K1⟩;simp only at hz HX EV K1;refine aA (ah ?_);apply iz rfl<;>intro h
   ·refine cd ?_;have xl:z<b.params.length:=by simpa using h
    obtain⟨v,hv⟩:∃v,b.params[z]?=some v:=⟨b.params[z],by simp[xl]⟩
    have hvr:=Cp v (List.mem_of_getElem? hv);rw[bP hv,List.foldl_cons]at K1;have e1:max p (v+1)=nE p v:=rfl;have hq:0<=nE p v∧nE p v<=4096:=by unfold nE;omega
    refine aJ (ai ?_);refine aS ?_;simp -dsimp only[simprocAttr,↓aa,zp,hv];refine ah ?_;refine kC ?_;simp -dsimp only[simprocAttr,↓aa,zp,e1]
    repeat(refine⟨by omega,?_⟩)
    refine ah ?_;refine cT ?_
    repeat(refine⟨by omega,?_⟩)
    refine fK ?_;refine⟨⟨(z+1,nE p v),xl,hq.1,hq.2,K1⟩,by simp;omega,?_⟩;refine zq rfl ?_ ?_;simp -dsimp only[simprocAttr,↓aa,zp,zc]
    ·exact Sub.int (by simp)
    rfl
   refine aM ?_;simp -dsimp only[bS,ne_eq,Nat.reduceEqDiff,reduceCtorEq];have H3:b.params.length<=z:=by simpa using h
   rw[List.drop_of_length_le H3,List.foldl_nil]at K1;subst K1;refine aA (ah ?_);obtain⟨m2,Vy⟩:∃m2,m2=b.ins.foldl lq m1:=⟨_,rfl⟩
   rw[<-Vy]at OK;refine ai (aO (ι:={X:Nat×Int // X.1<=b.ins.length∧0<=X.2∧X.2<=4096∧m2=(b.ins.drop X.1).foldl lq X.2}) (fun X=>⟨172,[(1,.ip none [aI f.name,ay f.blocks]),(2,.mp 1 0),(4,.ip none [aI s.name,ay s.blocks]),(5,aK (nS sk)),(7,.mp 4 0),(8,aI X.1.2),(41,ay f.blocks),(42,aI fl),(43,aI k),(93,bf b.ins),(94,aI b.ins.length),(95,aI X.1.1)],[.gone,.cells [aI 0,.aC 7 [] .ex],.gone,.cells (gC G n (rT sk (k+1))),.cells [aI f.name,.ms 3 0 n n,.aC 1 [] .ex,.aC 1 [] .ex]]⟩) (fun X=>b.ins.length-X.1.1) ⟨(0,m1),Nat.zero_le _,HX,EV,Vy⟩ ?_ ?_)
   ·refine zq rfl ?_ ?_;simp -dsimp only[simprocAttr,↓aa,zp,zc]
    all_goals rfl
   rintro⟨⟨w,q⟩,xR,hq0,VP,Jh⟩;simp only at xR hq0 VP Jh;refine aA (ah ?_);apply iz rfl<;>intro h
   ·refine cd ?_;have KQ:w<b.ins.length:=by simpa using h
    obtain⟨i,hi⟩:∃i,b.ins[w]?=some i:=⟨b.ins[w],by simp[KQ]⟩
    obtain⟨Gv,QW,hi3,_⟩:=Vl i (List.mem_of_getElem? hi);rw[bP hi,List.foldl_cons]at Jh;have e2:max q (i.to+1)=nE q i.to:=rfl;obtain⟨q1,SF⟩:∃q1,q1=nE q i.to:=⟨_,rfl⟩
    have VQ:0<=q1∧q1<=4096:=by rw[SF];unfold nE;omega
    have hqv:lq q i=i.args.foldl nE q1:=by rw[SF];rfl
    obtain⟨q2,VS⟩:∃q2,q2=i.args.foldl nE q1:=⟨_,rfl⟩
    rw[hqv,<-VS]at Jh;refine aJ (ai ?_);refine aS ?_;simp -dsimp only[simprocAttr,↓aa,zp,hi];refine ah ?_;refine aD 14 5 (.ip none [aI i.to,aI i.op,aI i.n,aK i.args]) rfl (by simp[aj.aF]) trivial rfl ?_ ?_;rotate_left;simp -dsimp only[simprocAttr,↓aa,zp];rotate_left
    ·exact bQ.mp rfl rfl
    refine bt 5 [(1,.ip none [aI f.name,ay f.blocks]),(2,.mp 1 0),(4,.ip none [aI s.name,ay s.blocks]),(5,aK (nS sk)),(7,.mp 4 0),(8,aI q),(41,ay f.blocks),(42,aI fl),(43,aI k),(93,bf b.ins),(94,aI b.ins.length),(95,aI w),(14,.ip none [aI i.to,aI i.op,aI i.n,aK i.args])] (by simp) (by omega) [.gone,.cells [aI 0,.aC 7 [] .ex],.gone,.cells (gC G n (rT sk (k+1))),.cells [aI f.name,.ms 3 0 n n,.aC 1 [] .ex,.aC 1 [] .ex]] ?_ ?_ ?_ ?_ ?_
    ·rfl
    ·exact V'
    ·simp[fj,St.get,bF,bh,Go.Av.look,Sub.refl]
    ·simp[aj.upto,aw,ae.upto,az,Func.ag,Block.ag,Edge.ag,Ins.ag]
    refine aS ?_;simp -dsimp only[simprocAttr,↓aa,zp,e2,<-SF]
    repeat(refine⟨by omega,?_⟩)
    refine ah ?_;refine aA (ah ?_);refine ai (aO (ι:={X:Nat×Int // X.1<=i.args.length∧0<=X.2∧X.2<=4096∧q2=(i.args.drop X.1).foldl nE X.2}) (fun X=>⟨172,[(1,.ip none [aI f.name,ay f.blocks]),(2,.mp 1 0),(4,.ip none [aI s.name,ay s.blocks]),(5,aK (nS sk)),(7,.mp 4 0),(8,aI X.1.2),(41,ay f.blocks),(42,aI fl),(43,aI k),(93,bf b.ins),(94,aI b.ins.length),(95,aI w),(105,aK i.args),(106,aI i.args.length),(107,aI X.1.1)],[.gone,.cells [aI 0,.aC 7 [] .ex],.gone,.cells (gC G n (rT sk (k+1))),.cells [aI f.name,.ms 3 0 n n,.aC 1 [] .ex,.aC 1 [] .ex]]⟩) (fun X=>i.args.length-X.1.1) ⟨(0,q1),Nat.zero_le _,VQ.1,VQ.2,VS⟩ ?_ ?_)
    ·refine zq rfl ?_ ?_;simp -dsimp only[simprocAttr,↓aa,zp,zc]
     all_goals rfl
    rintro⟨⟨y,r⟩,hy,Q9,ux,OQ⟩;simp only at hy Q9 ux OQ;refine aA (ah ?_);apply iz rfl<;>intro h
    ·refine cd ?_;have Vw:y<i.args.length:=by simpa using h
     obtain⟨v,hv⟩:∃v,i.args[y]?=some v:=⟨i.args[y],by simp[Vw]⟩
     have hvr:=QW v (List.mem_of_getElem? hv);rw[bP hv,List.foldl_cons]at OQ;have e1:max r (v+1)=nE r v:=rfl;have hq:0<=nE r v∧nE r v<=4096:=by unfold nE;omega
     refine aJ (ai ?_);refine aS ?_;simp -dsimp only[simprocAttr,↓aa,zp,hv];refine ah ?_;refine kC ?_;simp -dsimp only[simprocAttr,↓aa,zp,e1]
     repeat(refine⟨by omega,?_⟩)
     refine ah ?_;refine cT ?_
     repeat(refine⟨by omega,?_⟩)
     refine fK ?_;refine⟨⟨(y+1,nE r v),Vw,hq.1,hq.2,OQ⟩,by simp;omega,?_⟩;refine zq rfl ?_ ?_;simp -dsimp only[simprocAttr,↓aa,zp,zc]
     ·exact Sub.int (by simp)
     rfl
    refine aM ?_;simp -dsimp only[bS,ne_eq,Nat.reduceEqDiff,reduceCtorEq];have Y0:i.args.length<=y:=by simpa using h
    rw[List.drop_of_length_le Y0,List.foldl_nil]at OQ;subst OQ;refine cT ?_
    repeat(refine⟨by omega,?_⟩)
    refine fK ?_;refine⟨⟨(w+1,q2),KQ,Q9,ux,Jh⟩,by simp;omega,?_⟩;refine zq rfl ?_ ?_;simp -dsimp only[simprocAttr,↓aa,zp,zc]
    ·exact Sub.int (by simp)
    rfl
   refine aM ?_;simp -dsimp only[bS,ne_eq,Nat.reduceEqDiff,reduceCtorEq];have Ri:b.ins.length<=w:=by simpa using h
   rw[List.drop_of_length_le Ri,List.foldl_nil]at Jh;subst Jh;refine cT ?_
   repeat(refine⟨by omega,?_⟩)
   refine fK ?_;have Yz:rT sk (k+1)<=n:=by
    rw[KX];split
    ·rename_i hp;obtain⟨c,lL,_⟩:=UE k b hb hp;have:=I lL;omega
    omega
   refine⟨⟨(k+1,m2),ER,Yz,hq0,VP,OK⟩,by simp;omega,?_⟩;refine zq rfl ?_ ?_;simp -dsimp only[simprocAttr,↓aa,zp,zc]
   ·exact Sub.int (by simp)
   rfl
  refine aM ?_;simp -dsimp only[bS,ne_eq,Nat.reduceEqDiff,reduceCtorEq];have gl:fl<=k:=by simpa using h
  rw[List.drop_of_length_le (by omega),List.foldl_nil]at OK;subst OK;have KV:rT sk k=n:=by
   have h1:=wN Q6;have h2:(ec sk).length=n:=by rw[<-dW,<-hs,ET]
   have h3:sk.blocks.length=fl:=by rw[Ck,jv,gL]
   have h4:k=fl:=by omega
   rw[h1,h3]at h2;rw[h4];exact h2
  rw[KV];have Z5:gC G n n=au (G.map Block.enc):=by
   unfold gC;rw[List.take_of_length_le (by omega),Nat.sub_self];simp
  rw[Z5];refine iB 3 (o:=.cells (au (G.map Block.enc))) rfl (by simp[aj.aF]) trivial _ (fun s z hz=>⟨z,hz,.refl z⟩) 4 (by omega) _ [aI f.name,ay G,.aC 1 [] .ex,.aC 1 [] .ex] rfl rfl (fun d hd=>?_) (fun j c d hc hd=>?_) ?_
  ·simp only[List.mem_cons,List.not_mem_nil,or_false]at hd;rcases hd with rfl|rfl|rfl|rfl<;>trivial
  ·match j,hc,hd with
   | 0,hc,hd | 2,hc,hd | 3,hc,hd=>exact(Option.some.inj (hc.symm.trans hd)) ▸ bQ.refl _
   | 1,hc,hd =>
    simp only[List.getElem?_cons_succ,List.getElem?_cons_zero,Option.some.injEq]at hc hd;subst hc;subst hd;refine bQ.ms rfl (kZ G) (by rw[List.length_map,UF]) ?_;rw[List.drop_zero,List.take_of_length_le (by rw[bE (kZ G),List.length_map,UF];omega)];exact m8 G
   | j+4,hc,hd=>simp at hc
  simp -dsimp only[simprocAttr,↓aa,zp];refine aA ?_;refine .inl ⟨_,Jf,by simp only[aw,ae.upto,zt,zu,az,fi,iD,jl,Block.ag],ao ?_⟩;simp -dsimp only[simprocAttr,↓aa,zp];refine ah ?_;refine aA ?_;refine .inl ⟨_,rL,by simp only[aw,ae.upto,zt,zu,az,fi,iD,jl,Block.ag],ao ?_⟩;simp -dsimp only[simprocAttr,↓aa,zp];refine ah ?_;refine aD 7 4 (.ip none [aI f.name,ay G,aK (bH s),.aC 1 ((cI s).map aK) .sh]) rfl (by simp[aj.aF]) trivial rfl ?_ ?_;rotate_left;simp -dsimp only[simprocAttr,↓aa,zp];rotate_left
  ·exact bQ.mp rfl rfl
  have hmf:=yW eF;obtain⟨my,Nb⟩:∃my:Nat,lr f=(my:Int):=⟨(lr f).toNat,by omega⟩
  rw[Nb,Int.toNat_natCast]at hW;have uM:=CK (fR f) (bH s) (cI s) my hW.gw (fun k hk=>by rw[hW.len];exact hW.zh k hk) hW.few (by rw[hW.O8];omega);have hNN:rS (fR f) my (bH s)=c4 f:=by
   unfold c4;rw[Nb,Int.toNat_natCast,<-Ck,<-hs]
  rw[hNN,<-hG,show(fR f).name=f.name from rfl]at uM;rw[Nb];refine vf 2 ?_;show cc Tryz.prog _ _ _ ⟨_,_,[.gone,.cells [aI 0,.aC 7 [] .ex],.gone,.gone,.gone,.spare 0,.spare 0]⟩;refine aJ (vh hm (xn.T4 ⟨false,false⟩ hT 9 rfl rfl (by simp) ?_));simp -dsimp only[simprocAttr,↓aa,zp];refine .inl ⟨_,uM,by simp only[aw,ae.upto,zt,zu,az,fi,iD,jl,Block.ag],ao ?_⟩;simp -dsimp only[simprocAttr,↓aa,zp,ET];refine xn.op rfl rfl (jj hT (id:=5) rfl (by simp) FU rfl FV rfl rfl (by omega) (by simp;omega) (by omega) (by decide) rfl) ?_;simp -dsimp only[simprocAttr,↓aa,zp];refine xn.T4 ⟨false,false⟩ hT 4 rfl rfl (by simp) ?_;simp -dsimp only[simprocAttr,↓aa,zp,ET];refine xn.op rfl rfl (jj hT (id:=6) rfl (by simp) G0 rfl G2 rfl rfl (by omega) (by simp;omega) (by omega) (by decide) rfl) ?_;simp -dsimp only[simprocAttr,↓aa,zp];refine xn.T4 ⟨false,false⟩ hT 3 rfl rfl (by simp) ?_;simp -dsimp only[simprocAttr,↓aa,zp];refine xn.fin rfl ⟨ob (by kernel_rfl),?_⟩;refine ah ?_;refine bX (ah ?_);have oc:fR f=⟨f.name,G⟩:=by rw[hG];rfl
  obtain⟨g,hg⟩:∃g,g=fR f:=⟨_,rfl⟩
  have Z4:g.name=f.name:=by rw[hg];rfl
  have Z3:g.blocks=G:=by rw[hg,hG]
  obtain⟨ord,OP⟩:∃ord,ord=bH s:=⟨_,rfl⟩
  obtain⟨inn,Sn⟩:∃inn,inn=cI s:=⟨_,rfl⟩
  obtain⟨N,hN⟩:∃N,N=c4 f:=⟨_,rfl⟩
  rw[<-hg,<-OP,<-Sn,<-hN]at hW;rw[<-OP,<-Sn,<-hN];have cz:∀j<n,(j:Int)∈ord:=fun j hj=>by
   rw[OP,hs,Ck];exact Ek a8 eF hc (by rw[<-hn];exact hj)
  obtain⟨C0,Zv⟩:∃C0,C0=(List.replicate n [ae.aC 1 [] .ex,.aC 4 [] .ex,.v (.int .i64 0),.v (.int .i64 0),.v (.int .i64 0),.aC 1 [] .ex,.aC 2 [] .ex]).flatten:=⟨_,rfl⟩
  obtain⟨A0,WH⟩:∃A0,A0=(List.replicate n [ae.v (Value.map none)]).flatten:=⟨_,rfl⟩
  rw[<-Zv,<-WH];have hI0:WI ord n 0 (fg g inn N (ord.take 0)) C0 A0:=MW ord n Zv WH;have HW:=hW.few;have aao:(fg g inn N (ord.take 0)).nx=0:=rfl;refine ai (aO (ι:={X:Nat×List ae×List ae // X.1<=ord.length∧WI ord n X.1 (fg g inn N (ord.take X.1)) X.2.1 X.2.2}) (fun X=>⟨172,[(1,.ip none [aI f.name,ay f.blocks]),(2,.mp 1 0),(4,.ip none [aI s.name,ay s.blocks]),(17,.mp 7 0),(148,aK ord),(149,aI ord.length),(150,aI X.1.1)],nk g ord inn N (fg g inn N (ord.take X.1.1)).nx n X.1.2.1 X.1.2.2⟩) (fun X=>ord.length-X.1.1) ⟨(0,C0,A0),Nat.zero_le _,hI0⟩ ?_ ?_)
  ·unfold nk wC;rw[Z4,Z3];refine zq rfl ?_ ?_;simp -dsimp only[simprocAttr,↓aa,zp,zc]
   all_goals rfl
  rintro⟨⟨i,C,A⟩,hi,hI⟩;simp only at hi hI;refine aA (ah ?_);apply iz rfl<;>intro h
  ·refine cd ?_;have Vu:i<ord.length:=by simpa using h
   obtain⟨kz,WZ⟩:∃kz,ord[i]?=some kz:=⟨ord[i],by simp[Vu]⟩
   have DC:=hW.zh kz (List.mem_of_getElem? WZ);obtain⟨kn,rfl⟩:∃kn:Nat,kz=(kn:Int):=⟨kz.toNat,by omega⟩
   have dD:=F4 hW hI WZ;have bJ:fg g inn N (ord.take (i+1))=ia g inn N kn (fg g inn N (ord.take i)):=by
    rw[List.take_add_one,WZ];unfold fg;rw[List.foldl_append];rfl
   refine aJ (ai ?_);refine aS ?_;simp -dsimp only[simprocAttr,↓aa,zp,WZ];refine ah ?_;refine kf ⟨false,false⟩ hT 2 rfl rfl rfl (by simp) ?_;simp -dsimp only[simprocAttr,↓aa,zp];refine⟨_,lT rfl (by simp) rfl rfl dD,fun r O' hR=>?_⟩;obtain⟨hr,C',A',Zz,hO⟩:=hR;subst hr;subst hO;rw[<-bJ]at Zz ⊢;refine ah ?_;refine cT ?_
   repeat(refine⟨by omega,?_⟩)
   refine fK ?_;refine⟨⟨(i+1,C',A'),Vu,Zz⟩,by simp;omega,?_⟩;refine zq rfl ?_ ?_;simp -dsimp only[simprocAttr,↓aa,zp,zc]
   ·exact Sub.int (by simp)
   rfl
  refine aM ?_;simp -dsimp only[bS,ne_eq,Nat.reduceEqDiff,reduceCtorEq];have WW:ord.length<=i:=by simpa using h
  rw[List.take_of_length_le WW]at hI ⊢;have Zw:=hI.done (g:=g) (inn:=inn) (N:=N) fun j hj=>by
   rw[List.take_of_length_le WW];exact cz j hj
  obtain⟨S,hS⟩:∃S,S=fg g inn N ord:=⟨_,rfl⟩
  rw[<-hS]at Zw ⊢;refine c9 ?_;simp -dsimp only[simprocAttr,↓aa,zp,ET];refine ah ?_;refine ai (aO (ι:={X:Nat×List ae // X.1<=n∧WE g inn N n X.1 S X.2 A}) (fun X=>⟨172,[(1,.ip none [aI f.name,ay f.blocks]),(2,.mp 1 0),(17,.mp 7 0),(160,aI n),(161,aI X.1.1)],nk g ord inn N S.nx n X.1.2 A⟩) (fun X=>n-X.1.1) ⟨(0,C),Nat.zero_le _,Zw⟩ ?_ ?_)
  ·refine zq rfl ?_ ?_;simp -dsimp only[simprocAttr,↓aa,zp,zc]
   all_goals rfl
  rintro⟨⟨j,C'⟩,hj,hE⟩;simp only at hj hE;refine aA (ah ?_);apply iz rfl<;>intro h
  ·refine cd ?_;have xk:j<n:=by simpa using h
   have dD:=F5 hW hE xk;refine aJ (ai ?_);refine aA (ah ?_);refine kf ⟨false,false⟩ hT 2 rfl rfl rfl (by simp) ?_;simp -dsimp only[simprocAttr,↓aa,zp];refine⟨_,lT rfl (by simp) rfl rfl dD,fun r O' hR=>?_⟩;obtain⟨hr,C'',hE',hO⟩:=hR;subst hr;subst hO;refine ah ?_;refine cT ?_
   repeat(refine⟨by omega,?_⟩)
   refine fK ?_;refine⟨⟨(j+1,C''),xk,hE'⟩,by simp;omega,?_⟩;refine zq rfl ?_ ?_;simp -dsimp only[simprocAttr,↓aa,zp,zc]
   ·exact Sub.int (by simp)
   rfl
  refine aM ?_;simp -dsimp only[bS,ne_eq,Nat.reduceEqDiff,reduceCtorEq];have rK:j=n:=by have:=of_decide_eq_false h;omega
  subst rK;have iT:=hE.cells;obtain⟨OB,XG⟩:∃OB,OB=(List.range j).map (rU g inn N S):=⟨_,rfl⟩
  rw[<-XG]at iT;have UH:OB.length=j:=by rw[XG,List.length_map,List.length_range]
  subst iT;unfold nk wC;refine iB 5 (o:=.cells (au (OB.map Block.enc))) rfl (by simp[aj.aF]) trivial _ (fun s z hz=>⟨z,hz,.refl z⟩) 7 (by omega) _ [aI g.name,ay g.blocks,aK ord,.aC 1 (inn.map aK) .sh,.aC 1 (N.map eG) .sh,aI S.nx,aI g.name,ay OB,.ms 6 0 j j] rfl rfl (fun d hd=>?_) (fun j c d hc hd=>?_) ?_
  ·simp only[List.mem_cons,List.not_mem_nil,or_false]at hd;rcases hd with rfl|rfl|rfl|rfl|rfl|rfl|rfl|rfl|rfl<;>trivial
  ·match j,hc,hd with
   | 0,hc,hd | 1,hc,hd | 2,hc,hd | 3,hc,hd | 4,hc,hd | 5,hc,hd | 6,hc,hd | 8,hc,hd=>exact(Option.some.inj (hc.symm.trans hd)) ▸ bQ.refl _
   | 7,hc,hd =>
    simp only[List.getElem?_cons_succ,List.getElem?_cons_zero,Option.some.injEq]at hc hd;subst hc;subst hd;refine bQ.ms rfl (kZ OB) (by rw[List.length_map,UH]) ?_;rw[List.drop_zero,List.take_of_length_le (by rw[bE (kZ OB),List.length_map,UH];omega)];exact m8 OB
   | j+9,hc,hd=>simp at hc
  simp -dsimp only[simprocAttr,↓aa,zp];refine aA (ah ?_);have hFe:dR f=⟨f.name,OB⟩:=by
   unfold dR me;rw[<-Ck,<-hs,<-hg,<-OP,<-Sn,<-hN,<-hS,Z3,UF,<-XG]
  rw[hFe,Z4];refine aq ?_;simp -dsimp only[simprocAttr,↓aa,zp,zr,Tryz.results51];exact⟨⟨⟨trivial,⟨Block.ag _ _,trivial⟩,trivial⟩,trivial,trivial⟩,rfl⟩
 rw[if_neg hc]at xm ⊢;have XY:decide (aZ (eC f)=0)=false:=decide_eq_false hc;refine zf true 0 Tryz.func51 Tryz.ntmps51 ?_;dsimp only[Tmp,TypeId,slotsOf];refine aA (ah ?_);refine aD 1 0 (.ip none [aI f.name,ay f.blocks]) rfl (by simp[aj.aF]) trivial rfl ?_ ?_;rotate_left;simp -dsimp only[simprocAttr,↓aa,zp];rotate_left
 ·exact bQ.mp rfl rfl
 refine aA ?_;refine .inl ⟨_,sT,by simp only[aw,ae.upto,zt,zu,az,fi,iD,jl,Block.ag],ao ?_⟩;simp -dsimp only[simprocAttr,↓aa,zp];refine .inl ⟨_,xm,by simp only[aw,ae.upto,zt,zu,az,fi,iD,jl,Block.ag],ao ?_⟩;simp -dsimp only[simprocAttr,↓aa,zp];refine ah ?_;refine c9 ?_;simp -dsimp only[simprocAttr,↓aa,zp,XY];refine ah ?_;refine cH rfl ?_;refine aA (ah ?_);refine aq ?_;simp -dsimp only[simprocAttr,↓aa,zp,zr,Tryz.results51];exact⟨⟨trivial,⟨trivial,trivial⟩,trivial⟩,trivial,trivial⟩
def iS(er:Func->Int):List Func->Int
 | []=>0
 | f::r=>oZ (er f) (iS er r)
theorem oE{er:Func->Int}:∀{l:List Func},iS er l=0->∀f∈l,er f=0
 | [],_,f,hf=>by cases hf
 | g::r,h,f,hf=>by
  have:=js h;rcases List.mem_cons.1 hf with q|q
  ·subst q;exact this.1
  exact oE this.2 f q
def RG(gM:Func->Func)(er:Func->Int)(f:Func):ae:=if er f=0 then .cD [(gM f).enc,aI 0]else .cD [.agg [aI 0,.aC 7 [] .sh],aI (er f)]
def Et(f:Func):Int:=aZ (eC f)
theorem Ep(f:Func):Eo f=RG dR Et f:=rfl
def iR(u:bY):bY:=⟨u.fns.map dR,u.main⟩
def T6:ae:=.agg [.aC 2 [] .sh,aI 0]
def zX(u:bY):Int:=if dg u=0 then(if iS Et u.fns=0 then(if gD (iR u)=0 then 0 else 2)else iS Et u.fns)else dg u
def Kd(u:bY):ae:=if zX u=0 then .cD [(iR u).enc,aI 0]else .cD [T6,aI (zX u)]
theorem nB{u:bY}(a8:u.fit)(h:dg u=0):u.fns.length<=256∧∀f∈u.fns,ou f:=by
 unfold dg at h;split at h
 ·simp at h
 split at h
 ·simp at h
 rename_i h2;split at h
 ·simp at h
 have h3:=(js h).1;exact⟨by omega,fun f hf=>Ar (a8.2.2 f hf) (nA h3 f hf)⟩
theorem vN{u:bY}(a8:u.fit)(h:dg u=0)(he:iS Et u.fns=0):(iR u).fit:=by
 obtain⟨h1,h2⟩:=nB a8 h;refine⟨a8.1,by unfold iR;rw[List.length_map];exact a8.2.1,fun g hg=>?_⟩;obtain⟨f,hf,rfl⟩:=List.mem_map.1 hg;exact RS (a8.2.2 f hf) (h2 f hf) (oE he f hf)
theorem BV(u:bY)(a8:u.fit):bD Tryz.prog 22 [u.enc] (Kd u):=by
 have oI:=oV u a8;by_cases hc:dg u=0
 ·have EG:zX u=if iS Et u.fns=0 then(if gD (iR u)=0 then 0 else 2)else iS Et u.fns:=if_pos hc
  rw[hc]at oI;obtain⟨uv,Yc⟩:=nB a8 hc;have dD:∀f∈u.fns,bD Tryz.prog 51 [f.enc] (RG dR Et f):=fun f hf=>by
   rw[<-Ep];exact Es f (a8.2.2 f hf) (Yc f hf)
  obtain⟨R,hR⟩:∃R,R=iS Et u.fns:=⟨_,rfl⟩
  have Je:=fun h=>qC (iR u) (vN a8 hc h);obtain⟨Y,hY⟩:∃Y,Y=Kd u:=⟨_,rfl⟩
  rw[<-hY];unfold Kd at hY;rw[EG,<-hR]at hY;rw[<-hR]at Je;refine zf true 0 Tryz.func22 Tryz.ntmps22 ?_;dsimp only[Tmp,TypeId,slotsOf];refine aA (ah ?_);refine aD 1 0 (.ip none [bn u.fns,aI u.main]) rfl (by simp[aj.aF]) trivial rfl ?_ ?_;rotate_left;simp -dsimp only[simprocAttr,↓aa,zp]
  ·refine bX ?_;refine zi oI ?_;refine ah ?_;refine aA (ah ?_);apply aP rfl<;>intro h
   ·cases h
   refine cd ?_;refine aA (ah ?_);refine db 2 0 rfl rfl ?_;simp -dsimp only[simprocAttr,↓aa,zp];refine bX (ah ?_);refine ai (aO (ι:={k:Nat // k<=u.fns.length∧R=iS Et (u.fns.drop k)}) (fun k=>⟨47,[(2,.mp 1 0),(3,aI 0),(5,.mp 2 0),(20,bn u.fns),(21,aI u.fns.length),(22,aI k.1)],[.gone,.cells [.aC 2 [] .ex,aI 0],.cells [.aC 2 (((u.fns.take k.1).map dR).map Func.enc) (.tok 3),aI u.main],.spare k.1]⟩) (fun k=>u.fns.length-k.1) ⟨0,by omega,hR⟩ ?_ ?_)
   ·refine zq rfl ?_ ?_;simp -dsimp only[simprocAttr,↓aa,zp,zc]
    all_goals rfl
   rintro⟨k,hk,HH⟩;refine aA (ah ?_);apply iz rfl<;>intro h
   ·refine cd ?_;have bg:k<u.fns.length:=by simpa using h
    obtain⟨f,hf⟩:∃f,u.fns[k]?=some f:=⟨u.fns[k],by simp[bg]⟩
    rw[bP hf]at HH;simp only[iS]at HH;have HK:=dD f (List.mem_of_getElem? hf);unfold RG at HK;have eH:(((u.fns.take (k+1)).map dR).map Func.enc)=((u.fns.take k).map dR).map Func.enc++[(dR f).enc]:=by
     rw[List.take_add_one,hf];simp
    have jD:(((u.fns.take k).map dR).map Func.enc).length=k:=by
     simp;omega
    have TG:∀n,aw n (((u.fns.take k).map dR).map Func.enc):=fun n=>Func.ag n _;have Oj:∀n,aw n (((u.fns.take k).map dR).map Func.enc++[(dR f).enc]):=fun n=>by
     rw[<-eH];exact Func.ag n _
    generalize ((u.fns.take k).map dR).map Func.enc=T at *;refine aJ (ai ?_);refine aS ?_;simp -dsimp only[simprocAttr,↓aa,zp,hf];refine ah ?_;refine aD 7 4 (.ip none [aI f.name,ay f.blocks]) rfl (by simp[aj.aF]) trivial rfl ?_ ?_;rotate_left;simp -dsimp only[simprocAttr,↓aa,zp]
    ·by_cases he:Et f=0
     ·rw[if_pos he]at HK;rw[de he]at HH;generalize dR f=g at *;unfold Func.enc at HK;refine aA ?_;refine zi HK ?_;refine ah ?_;refine aD 8 5 (.ip none [aI g.name,ay g.blocks]) rfl (by simp[aj.aF]) trivial rfl ?_ ?_;rotate_left;simp -dsimp only[simprocAttr,↓aa,zp]
      ·refine bX (ah ?_);refine cr rfl ?_;refine cd ?_;refine kC ?_;simp -dsimp only[simprocAttr,↓aa,zp,jD]
       repeat(refine⟨by omega,?_⟩)
       refine ah ?_;refine bt 4 [(2,.mp 1 0),(3,aI 0),(5,.mp 2 0),(20,bn u.fns),(21,aI u.fns.length),(22,aI k)] (by simp) (by omega) [.gone,.cells [.aC 2 [] .ex,aI 0],.cells [.aC 2 (T++[g.enc]) (.tok 3),aI u.main],.spare (k+1)] ?_ ?_ ?_ ?_ ?_
       ·rfl
       ·simp[aj.upto,aw,ae.upto,az,Func.ag,Block.ag,TG,Oj]
       ·simp[fj,St.get,bF,bh,Go.Av.look,Sub.refl]
       ·simp[aj.upto,aw,ae.upto,az,Func.ag,Block.ag,TG]
       refine cT ?_
       repeat(refine⟨by omega,?_⟩)
       refine fK ?_;refine⟨⟨k+1,bg,HH⟩,by simp;omega,?_⟩;dsimp only;rw[eH];refine zq rfl ?_ ?_;simp -dsimp only[simprocAttr,↓aa,zp,zc]
       ·exact Sub.int (by simp)
       rfl
      exact bQ.mp rfl rfl
     rw[if_neg he]at HK;rw[gV he]at HH;obtain⟨e,uL⟩:∃e,e=Et f:=⟨_,rfl⟩
     rw[<-uL]at HK he HH;have jP:decide (e=0)=false:=decide_eq_false he;rw[if_neg (show ¬(R=0) by rw[HH];exact he),if_neg (show ¬(R=0) by rw[HH];exact he),HH]at hY;refine aA ?_;refine zi HK ?_;refine ah ?_;refine c9 ?_;simp -dsimp only[simprocAttr,↓aa,zp,jP];refine ah ?_;refine cH rfl ?_;refine aA (ah ?_);refine aq ?_;simp -dsimp only[simprocAttr,↓aa,zp,zr,Tryz.results22];rw[hY];simp[aw,ae.upto,T6]
    exact bQ.mp rfl rfl
   refine aM ?_;simp -dsimp only[bS,ne_eq,Nat.reduceEqDiff,reduceCtorEq];have gl:k=u.fns.length:=by simp at h;omega
   subst gl;rw[List.drop_length]at HH;simp only[iS]at HH;rw[if_pos HH]at hY;rw[List.take_length];have hm:=Je HH;unfold bY.enc iR at hm;have TG:∀n,aw n ((u.fns.map dR).map Func.enc):=fun n=>Func.ag n _;obtain⟨e,uL⟩:∃e,e=gD (iR u):=⟨_,rfl⟩
   unfold iR at uL;rw[<-uL]at hm;have X7:gD (iR u)=e:=by rw[uL];rfl
   rw[X7]at hY;by_cases he:e=0
   ·subst he;rw[if_pos rfl,if_pos rfl]at hY;refine bX ?_;refine zi hm ?_;refine ah ?_;refine cr rfl ?_;refine cd ?_;refine aA (ah ?_);refine aq ?_;simp -dsimp only[simprocAttr,↓aa,zp,zr,Tryz.results22];rw[hY];simp[aw,ae.upto];rw[List.map_map]at TG;exact⟨TG 0,by simp[bY.enc,iR]⟩
   have jP:decide (e=0)=false:=decide_eq_false he;rw[if_neg he,if_neg (by decide)]at hY;refine c9 ?_;simp -dsimp only[simprocAttr,↓aa,zp,jP];refine .inl ⟨_,hm,by simp only[aw,ae.upto,zt,zu,az],ao ?_⟩;simp -dsimp only[simprocAttr,↓aa,zp,jP];refine ah ?_;apply aP rfl<;>intro h
   ·refine aA (ah ?_);refine aq ?_;simp -dsimp only[simprocAttr,↓aa,zp,zr,Tryz.results22];rw[hY];simp[aw,ae.upto,T6]
   exfalso;simp[he]at h
  exact bQ.mp rfl rfl
 have EG:zX u=dg u:=if_neg hc;unfold Kd;rw[EG,if_neg hc];obtain⟨e,uL⟩:∃e,e=dg u:=⟨_,rfl⟩
 rw[<-uL]at hc oI ⊢;have jP:decide (e=0)=false:=decide_eq_false hc;refine zf true 0 Tryz.func22 Tryz.ntmps22 ?_;dsimp only[Tmp,TypeId,slotsOf];refine aA (ah ?_);refine aD 1 0 (.ip none [bn u.fns,aI u.main]) rfl (by simp[aj.aF]) trivial rfl ?_ ?_;rotate_left;simp -dsimp only[simprocAttr,↓aa,zp]
 ·refine bX ?_;refine zi oI ?_;refine ah ?_;refine aS ?_;simp -dsimp only[simprocAttr,↓aa,zp,jP];refine ah ?_;refine cH rfl ?_;refine aA (ah ?_);refine aq ?_;simp -dsimp only[simprocAttr,↓aa,zp,zr,Tryz.results22];simp[aw,ae.upto,T6]
 exact bQ.mp rfl rfl
end Go.Proofs.YtjdnhamngpafmaaGreat
namespace Go.Proofs.YtjdnhamngpafmaaGreat
open Go.Av
section
variable {f:Func} (a8:f.fit) (hm:ou f) (hc:aZ (eC f)=0)
include a8 hm hc
theorem QP{j:Nat}(hj:j<(fR f).blocks.length):(ax (fR f) (j:Int)).term.to=kX (bj (eC f)) j:=by
 have hb:(fR f).blocks[j]?=some ((fR f).blocks[j]):=List.getElem?_eq_getElem hj;obtain⟨k,c,_,_,XR⟩:=yz a8 hm hc hb;unfold ax;rw[Int.toNat_natCast,hb,XR];rfl
theorem Uu:QA (fR f) (bH (bj (eC f))) (cI (bj (eC f))) (c4 f) (lr f).toNat (fR f).blocks.length:=by
 have hW:=J9 a8 hm hc;have hg:=y4 a8 hm hc;have hl:=oG a8 hm hc;refine⟨hW,Im hW.zh hW.gw.few.2 hW.gw.M3.2,fun k p hk hp=>?_,fun j e hj he=>?_,fun j hj=>Ek a8 hm hc hj⟩
 ·rw[List.getD_eq_getElem?_getD]at hp;obtain⟨q1,x,q2,q3⟩:=Iu hg (k:=(k:Int)) (p:=p) (by omega) (by unfold AI;rw[Int.toNat_natCast];exact hp);refine⟨x,?_,q3⟩;have:=QP a8 hm hc (j:=p.toNat) (by omega);rw[show((p.toNat:Nat):Int)=p by omega]at this;rw[this];exact q2
 have rO:=(hW.gw.to _ (List.mem_of_getElem? (hW.row hj).2.2.2.2)).2 e he;rw[QP a8 hm hc hj]at he;rw[List.getD_eq_getElem?_getD];exact yt (f:=bj (eC f)) (a:=(j:Int)) (v:=e.block) (by omega) (by omega) ⟨e,he,rfl⟩
theorem El{i j:Nat}(hi:(bH (bj (eC f)))[i]?=some (j:Int)){W:Wb}(hW:W=dn (fR f) (cI (bj (eC f))) (c4 f) j (fg (fR f) (cI (bj (eC f))) (c4 f) ((bH (bj (eC f))).take i))) :
  (me f).EE j=(cC W.E W.nx (ax (fR f) j).ins).1 ∧
  ax (dR f) (j:Int)=⟨W.ps,W.is++(cC W.E W.nx (ax (fR f) j).ins).2.2,⟨(ax (fR f) j).term.kind,ua (cC W.E W.nx (ax (fR f) j).ins).1 (ax (fR f) j).term,(ax (fR f) j).term.n,(ax (fR f) j).term.cases,
   (ax (fR f) j).term.to.map (Gk (cI (bj (eC f))) (c4 f) (cC W.E W.nx (ax (fR f) j).ins).1)⟩⟩:=by
 have hw:=J9 a8 hm hc;have hj:j<(fR f).blocks.length:=by have:=hw.zh _ (List.mem_of_getElem? hi);omega
 have xK:=I hi;obtain⟨k1,k2⟩:=tn hw hi ((bH (bj (eC f))).length-(i+1)) (by omega);rw[show i+1+((bH (bj (eC f))).length-(i+1))=(bH (bj (eC f))).length by omega,List.take_length]at k1 k2;obtain⟨s1,s2⟩:=sn (g:=fR f) (inn:=cI (bj (eC f))) (N:=c4 f) j (fg (fR f) (cI (bj (eC f))) (c4 f) ((bH (bj (eC f))).take i));rw[s1,<-hW]at k1;rw[s2,<-hW]at k2;refine⟨k1,?_⟩;unfold ax dR;rw[Int.toNat_natCast,List.getElem?_map,List.getElem?_range hj];show rU _ _ _ _ j=_;unfold rU me;rw[k1,k2];rfl
end
section
variable (u:bY)
def Hv(fn:Int):Func:=eC (aL u fn)
def eS(fn:Int):Func:=bj (Hv u fn)
def RP(fn:Int)(j:Nat):Wb:=dn (fR (aL u fn)) (cI (eS u fn)) (c4 (aL u fn)) j (fg (fR (aL u fn)) (cI (eS u fn)) (c4 (aL u fn)) ((bH (eS u fn)).take (gX (eS u fn) j).toNat))
def eL(fn b:Int):Prop:=0<=gX (Hv u fn) b
def J5(fn b:Int):Int:=eK (Hv u fn) b
def eQ(fn b:Int)(m:Nat):Env×Int×List Ins:=cC (RP u fn (J5 u fn b).toNat).E (RP u fn (J5 u fn b).toNat).nx ((ax (aL u fn) b).ins.take m)
def I8(fn b:Int)(m:Nat):Env:=(eQ u fn b m).1
def RO(fn b:Int)(m:Nat):Nat:=(RP u fn (J5 u fn b).toNat).is.length+(eQ u fn b m).2.2.length
end
theorem zY{u:bY}{k:Int}(h0:0<=k)(h1:k<u.fns.length):aL (iR u) k=dR (aL u k):=by
 unfold aL iR;rw[List.getElem?_map,List.getElem?_eq_getElem (by omega)];rfl
section
variable {u:bY} (a8:u.fit) (hm:dg u=0) (he:iS Et u.fns=0)
include a8 hm he
structure PlE(u:bY)(fn b:Int)(j:Nat):Prop where
 pos:J5 u fn b=j
 lt:j<(fR (aL u fn)).blocks.length
 at_:(bH (eS u fn))[(gX (eS u fn) j).toNat]?=some (j:Int)
 blk:(ax (fR (aL u fn)) j).ins=(ax (aL u fn) b).ins∧(ax (fR (aL u fn)) j).params=(ax (aL u fn) b).params
 term:(ax (fR (aL u fn)) j).term.kind=(ax (aL u fn) b).term.kind∧(ax (fR (aL u fn)) j).term.arg=(ax (aL u fn) b).term.arg∧(ax (fR (aL u fn)) j).term.n=(ax (aL u fn) b).term.n∧(ax (fR (aL u fn)) j).term.cases=(ax (aL u fn) b).term.cases
 to:(ax (fR (aL u fn)) j).term.to=(ax (aL u fn) b).term.to.map (gY (nS (Hv u fn)))
 zh:0<=b∧b<(aL u fn).blocks.length
theorem RU{fn:Int}(h0:0<=fn)(h1:fn<u.fns.length):(aL u fn).fit∧ou (aL u fn)∧aZ (eC (aL u fn))=0:=by
 have hf:=ko h0 h1;exact⟨a8.2.2 _ hf,(nB a8 hm).2 _ hf,oE he _ hf⟩
theorem SX{fn b:Int}(h0:0<=fn)(h1:fn<u.fns.length)(hL:eL u fn b):∃j,PlE u fn b j:=by
 obtain⟨f1,f2,f3⟩:=RU a8 hm he h0 h1;have hw:=jF (sf f1 f2 f3);obtain⟨p1,p2⟩:=pos_at (f:=Hv u fn) hL;obtain⟨j,hj⟩:∃j:Nat,eK (Hv u fn) b=(j:Int):=⟨(eK (Hv u fn) b).toNat,by omega⟩
 rw[hj,Int.toNat_natCast]at p2;have hr:=hw.range b hL;have bg:j<(fR (aL u fn)).blocks.length:=by
  rw[oG f1 f2 f3,dW];exact I p2
 have hg:(fR (aL u fn)).blocks[j]?=some (n4 (ax (aL u fn) b) (ax (bj (eC (aL u fn))) (eK (eC (aL u fn)) b)).term.to):=by
  have p2':(ec (eC (aL u fn)))[j]?=some b:=p2;unfold fR;rw[List.getElem?_map,p2'];rfl
 have hb:ax (fR (aL u fn)) (j:Int)=n4 (ax (aL u fn) b) (ax (bj (eC (aL u fn))) (eK (eC (aL u fn)) b)).term.to:=by
  unfold ax at hg ⊢;rw[Int.toNat_natCast,hg];rfl
 have Q6:=jF (y4 f1 f2 f3);have fX:=Ek f1 f2 f3 bg;obtain⟨i,hi⟩:=List.mem_iff_getElem?.1 fX;have tH:=Q6.at_ i _ hi;rw[jv]at hr;refine⟨j,hj,bg,?_,by rw[hb];exact⟨rfl,rfl⟩,by rw[hb];exact⟨rfl,rfl,rfl,rfl⟩,?_,hr⟩
 ·have:gX (eS u fn) (j:Int)=i:=tH;rw[this,Int.toNat_natCast];exact hi
 rw[hb];show(ax (bj (eC (aL u fn))) (eK (eC (aL u fn)) b)).term.to=_;rw[o8 (f:=eC (aL u fn)) hL,iM];have qh:=gS hr.1 hr.2;have sT:=wY qh;have Nc:ax (eC (aL u fn)) b=kL b.toNat (ax (aL u fn) b):=by
  unfold ax at sT ⊢;rw[sT];rfl
 rw[Nc];show(mP (ax (aL u fn) b)).to.map _=_;congr 1;unfold mP;split
 ·rename_i q;exact((jm (f2.fin _ (List.mem_of_getElem? qh))).to (.inl q)).symm
 rfl
end
end Go.Proofs.YtjdnhamngpafmaaGreat
namespace Go.Proofs.YtjdnhamngpafmaaGreat
open Go.Av
theorem Cu(i:Ins)(E:Env)(nx:Int):(i.op=100->cC E nx [i]=(n5 E i.to ((i.args.map (gE E)).headD 0),nx,[]))∧(i.op≠100->cC E nx [i]=(n5 E i.to nx,nx+1,[⟨nx,i.op,i.n,i.args.map (gE E)⟩])):=by
 constructor
 ·intro h;rw[cC,if_pos h];rfl
 intro h;rw[cC,if_neg h];rfl
section
variable {u:bY} (a8:u.fit) (hm:dg u=0) (he:iS Et u.fns=0)
include a8 hm he
theorem LK{fn b:Int}{m:Nat}{i:Ins}(hi:(ax (aL u fn) b).ins[m]?=some i) :
  eQ u fn b (m+1)=((cC (eQ u fn b m).1 (eQ u fn b m).2.1 [i]).1,(cC (eQ u fn b m).1 (eQ u fn b m).2.1 [i]).2.1,(eQ u fn b m).2.2++(cC (eQ u fn b m).1 (eQ u fn b m).2.1 [i]).2.2):=by
 unfold eQ;rw[List.take_add_one,hi];exact rP _ [i] _ _
theorem RC{fn b:Int}(h0:0<=fn)(h1:fn<u.fns.length)(hL:eL u fn b):Qy u (iR u) (eL u) (J5 u) (I8 u) (RO u) fn b:=by
 obtain⟨f1,f2,f3⟩:=RU a8 hm he h0 h1;obtain⟨j,P⟩:=SX a8 hm he h0 h1 hL;have hX:=Uu f1 f2 f3;have hW:=hX.w;have XM:=XI.all hX _ (Nat.le_of_lt (I P.at_));obtain⟨W,I'⟩:∃W,W=RP u fn j:=⟨_,rfl⟩
 obtain⟨o1,o2⟩:=El f1 f2 f3 (i:=(gX (eS u fn) j).toNat) P.at_ (W:=W) I';have mg:=List.mem_of_getElem? (hW.row P.lt).2.2.2.2;have xL:=P.blk.1;have yL:ax (aL (iR u) fn) (J5 u fn b)=ax (dR (aL u fn)) (j:Int):=by rw[zY h0 h1,P.pos]
 rw[o2]at yL;obtain⟨qe,Jh⟩:∃qe,qe=cC W.E W.nx (ax (fR (aL u fn)) j).ins:=⟨_,rfl⟩
 rw[<-Jh]at o1 o2 yL;have Z7:(J5 u fn b).toNat=j:=by rw[P.pos,Int.toNat_natCast]
 have hQ:∀m,eQ u fn b m=cC W.E W.nx ((ax (aL u fn) b).ins.take m):=fun m=>by
  unfold eQ;rw[Z7,I']
 have Of:∀m,RO u fn b m=W.is.length+(eQ u fn b m).2.2.length:=fun m=>by
  unfold RO;rw[Z7,I']
 have KC:∀(m:Nat) i a,(ax (aL u fn) b).ins[m]?=some i->a∈i.args->∃y,I8 u fn b m a=some y:=fun m i a hi ha=>by
  unfold I8;rw[hQ,I'];exact Jx hX XM P.at_ (A:=(ax (aL u fn) b).ins.take m) (B:=(ax (aL u fn) b).ins.drop (m+1)) (j:=i) (by rw[xL,<-bP hi,List.take_append_drop]) ha
 have X5:∀m,EB (I8 u fn b m) (eQ u fn b m).2.1:=fun m=>by
  unfold I8;rw[hQ,I'];exact QG hX XM P.at_ (A:=(ax (aL u fn) b).ins.take m) (B:=(ax (aL u fn) b).ins.drop m) (by rw[xL,List.take_append_drop])
 have KI:eQ u fn b (ax (aL u fn) b).ins.length=qe:=by rw[hQ,List.take_length,Jh,xL]
 have tE:DE qe.1 (lW (fR (aL u fn)) (lr (aL u fn)).toNat (c4 (aL u fn)) (ax (fR (aL u fn)) j).term):=by
  rw[Jh,I'];exact DQ hX XM P.at_ (A:=(ax (fR (aL u fn)) j).ins) (B:=[]) (by simp)
 refine⟨fun m i hi dH=>?_,fun m i hi dH=>?_,?_,?_,fun hu=>?_,fun q e hq=>?_⟩
 ·have Jc:i∈(ax (fR (aL u fn)) j).ins:=by rw[xL];exact List.mem_of_getElem? hi
  obtain⟨a,ha⟩:=List.length_eq_one_iff.1 (hW.cp _ mg i Jc dH);obtain⟨y,hy⟩:=KC m i a hi (by rw[ha];simp);have hs:=LK a8 hm he hi;rw[(Cu i _ _).1 dH]at hs;have hg:(i.args.map (gE (eQ u fn b m).1)).headD 0=y:=by
   rw[ha];show gE (I8 u fn b m) a=y;unfold gE;rw[hy];rfl
  rw[hg]at hs;refine⟨a,y,ha,hy,?_,?_⟩
  ·show(eQ u fn b (m+1)).1=_;rw[hs];rfl
  rw[Of,Of,hs];simp
 ·have hs:=LK a8 hm he hi;rw[(Cu i _ _).2 dH]at hs;refine⟨(eQ u fn b m).2.1,?_,fun a ha=>KC m i a hi ha,?_,fun w y hw=>?_,?_⟩
  ·rw[yL];show(W.is++qe.2.2)[_]?=_;have SJ:qe.2.2=(eQ u fn b (m+1)).2.2++(cC (eQ u fn b (m+1)).1 (eQ u fn b (m+1)).2.1 ((ax (aL u fn) b).ins.drop (m+1))).2.2:=by
    rw[Jh,xL,hQ (m+1)];have:=rP ((ax (aL u fn) b).ins.take (m+1)) ((ax (aL u fn) b).ins.drop (m+1)) W.E W.nx;rw[List.take_append_drop]at this;rw[this]
   rw[Of,List.getElem?_append_right (by omega),Nat.add_sub_cancel_left,SJ,hs];simp only;rw[List.append_assoc,List.getElem?_append_right (Nat.le_refl _),Nat.sub_self];rfl
  ·show(eQ u fn b (m+1)).1=_;rw[hs];rfl
  ·have:=X5 m w y hw;omega
  rw[Of,Of,hs];simp;omega
 ·rw[yL,Of,KI];show(W.is++qe.2.2)[_]?=none;exact List.getElem?_eq_none (by rw[List.length_append];exact Nat.le_refl _)
 ·rw[yL];exact⟨P.term.1,P.term.2.2.1,P.term.2.2.2⟩
 ·rw[yL];show I8 u fn b _ _=some (ua qe.1 (ax (fR (aL u fn)) j).term);unfold I8;rw[KI];have uO:dh (ax (fR (aL u fn)) j).term=true:=by
   unfold dh at hu ⊢;rw[P.term.1];exact hu
  have R1:=hW.gw.arg _ mg;unfold G9 at R1;have xI:=hW.gw.M3;obtain⟨y,hy⟩:=tE (ax (fR (aL u fn)) j).term.arg.toNat ((wj _ _ _ _ _).2 ⟨by omega,.inr (.inl ⟨uO,rfl⟩)⟩)
  rw[show(((ax (fR (aL u fn)) j).term.arg.toNat:Nat):Int)=(ax (fR (aL u fn)) j).term.arg by omega]at hy;unfold ua;rw[if_pos uO];unfold gE;rw[hy,<-P.term.2.1,hy];rfl
 -- an Us
 have M9:(ax (fR (aL u fn)) j).term.to[q]?=some (gY (nS (Hv u fn)) e):=by rw[P.to,List.getElem?_map,hq];rfl
 have TK:=List.mem_of_getElem? M9;obtain⟨t1,t2,t3⟩:=(hW.gw.to _ mg).2 _ TK;have YO:=sf f1 f2 f3;have hw:=jF YO;have qh:=gS P.zh.1 P.zh.2;have W7:=List.mem_of_getElem? hq;have kU:=jm (f2.fin _ (List.mem_of_getElem? qh));obtain⟨⟨r1,r2⟩,_⟩:=kU.fZ e W7;have DB:(ax (aL u fn) b).term.kind≠0:=fun z=>by
  rw[kU.to (.inl z)]at W7;cases W7
 have X6:Jm (Hv u fn) b e.block:=by
  refine⟨e,?_,rfl⟩;have sT:=wY qh;have Nc:ax (eC (aL u fn)) b=kL b.toNat (ax (aL u fn) b):=by
   unfold ax at sT ⊢;rw[sT];rfl
  show e∈(ax (eC (aL u fn)) b).term.to;rw[Nc];show e∈(mP (ax (aL u fn) b)).to;unfold mP;rw[if_neg DB];exact W7
 have ZD:eL u fn e.block:=hw.next b e.block hL X6
 obtain⟨j2,P2⟩:=SX a8 hm he h0 h1 ZD;have OQ:(gY (nS (Hv u fn)) e).block=(j2:Int):=by
  show DP (nS (Hv u fn)) e.block=_;rw[vd (f:=Hv u fn) (by omega) (by show e.block<(eC (aL u fn)).blocks.length;rw[jv];omega)];exact P2.pos
 have Ss:j2≠0:=by omega
 have Vn:(J5 u fn e.block).toNat=j2:=by rw[P2.pos,Int.toNat_natCast]
 obtain⟨W2,Om⟩:∃W2,W2=RP u fn j2:=⟨_,rfl⟩
 have tD:=hX.succ j _ P.lt TK;rw[OQ,Int.toNat_natCast]at tD;have xO:(ax (aL u fn) e.block).params=[]:=f2.bare _ _ (gS (by omega) (by omega)) (by omega);have Dy:I8 u fn e.block 0=W2.E:=by
  unfold I8 eQ;rw[Vn,List.take_zero,<-Om];rfl
 obtain⟨o3,o4⟩:=El f1 f2 f3 (i:=(gX (eS u fn) j2).toNat) P2.at_ (W:=W2) Om;have hvp:(ax (aL (iR u) fn) (J5 u fn e.block)).params=W2.ps:=by
  rw[zY h0 h1,P2.pos,o4]
 have dk:=hW.row P2.lt;obtain⟨S2,TF⟩:∃S2,S2=fg (fR (aL u fn)) (cI (bj (eC (aL u fn)))) (c4 (aL u fn)) ((bH (bj (eC (aL u fn)))).take (gX (eS u fn) j2).toNat):=⟨_,rfl⟩
 have XL:W2=dn (fR (aL u fn)) (cI (bj (eC (aL u fn)))) (c4 (aL u fn)) j2 S2:=by rw[Om,TF];rfl
 have U8:(Gk (cI (bj (eC (aL u fn)))) (c4 (aL u fn)) qe.1 (gY (nS (Hv u fn)) e))=⟨(j2:Int),if 1<((cI (bj (eC (aL u fn)))).getD j2 []).length then(cx 0 ((c4 (aL u fn)).getD j2 [])).map (gE qe.1)else []⟩:=by
  unfold Gk;rw[OQ,Int.toNat_natCast]
 refine⟨_,by rw[yL];show((ax (fR (aL u fn)) j).term.to.map _)[q]?=_;rw[List.getElem?_map,M9];rfl,ZD,by rw[U8,P2.pos],?_,xO,fun es es' hV=>?_⟩
 ·unfold RO eQ;rw[Vn,List.take_zero,<-Om,XL];unfold dn;rw[if_neg Ss];split<;>rfl
 rw[hvp,Dy,U8];unfold I8 at hV;rw[KI]at hV;by_cases e1:((cI (bj (eC (aL u fn)))).getD j2 []).length=1
 ·obtain⟨p,hp⟩:=List.length_eq_one_iff.1 e1;have hpj:p=(j:Int):=by
   rw[hp]at tD;exact(List.mem_singleton.1 tD).symm
  have SE:=hW.one _ (j2:Int) p P2.at_ (by omega) (by rw[Int.toNat_natCast,dk.2.2.1,hp]);have Kx:W2.E=S2.EE j∧W2.ps=[]:=by
   rw[XL];unfold dn;rw[if_neg Ss,if_pos e1,hp,hpj];exact⟨by simp,rfl⟩
  rw[Kx.1,Kx.2];have nU:S2.EE j=qe.1:=by
   obtain⟨i1,Gv⟩:=List.mem_iff_getElem?.1 SE;rw[List.getElem?_take]at Gv;split at Gv
   ·rename_i bg;rw[hpj]at Gv;have ew:=hW.nd _ _ _ Gv P.at_;subst ew;have xK:(gX (eS u fn) j2).toNat<(bH (bj (eC (aL u fn)))).length:=I P2.at_;obtain⟨k1,_⟩:=tn hW Gv ((gX (eS u fn) j2).toNat-((gX (eS u fn) j).toNat+1)) (by omega);rw[show(gX (eS u fn) j).toNat+1+((gX (eS u fn) j2).toNat-((gX (eS u fn) j).toNat+1))=(gX (eS u fn) j2).toNat by omega,<-TF,(sn j _).1]at k1;rw[k1,Jh,I'];rfl
   cases Gv
  rw[nU];exact hV
 have Yg:1<((cI (bj (eC (aL u fn)))).getD j2 []).length:=by
  have:0<((cI (bj (eC (aL u fn)))).getD j2 []).length:=List.length_pos_iff.2 fun z=>by rw[z]at tD;cases tD
  omega
 rw[if_pos Yg];have Kx:W2.E=dG ot S2.nx (cx 0 ((c4 (aL u fn)).getD j2 []))∧W2.ps=dj S2.nx (cx 0 ((c4 (aL u fn)).getD j2 [])).length:=by
  rw[XL];unfold dn;rw[if_neg Ss,if_neg e1];exact⟨rfl,rfl⟩
 rw[Kx.1,Kx.2];have hd:∀a∈cx 0 ((c4 (aL u fn)).getD j2 []),∃y,qe.1 a=some y:=fun a ha=>by
  obtain⟨v,hv,rfl⟩:=pM _ _ ha;have:=tE v (qn hX P2.lt (by omega) P.lt TK OQ hv);rw[show((0:Nat):Int)+(v:Int)=(v:Int) by omega];exact this
 have eH:=hV.take hd;show VE _ es (cN es' _ (cB es' ((cx 0 ((c4 (aL u fn)).getD j2 [])).map (gE qe.1))));rw[eH];exact VE.pass (E1:=ot) (es1:=[]) _ (fun w x hx=>by cases hx) (EB.none _)
theorem Ty:yd u (iR u) (eL u) (J5 u) (I8 u) (RO u) 4097:=by
 refine⟨by unfold iR;rw[List.length_map],rfl,fun fn h0 h1=>?_,fun fn b h0 h1 hL=>RC a8 hm he h0 h1 hL⟩;obtain⟨f1,f2,f3⟩:=RU a8 hm he h0 h1;have hw:=jF (sf f1 f2 f3);have hL:eL u fn 0:=by
  show 0<=gX (eC (aL u fn)) 0;rw[hw.zero];omega
 have hB:J5 u fn 0=0:=(CV hw).1;obtain⟨j,P⟩:=SX a8 hm he h0 h1 hL;have hj:j=0:=by have:=P.pos;omega
 subst hj;have hX:=Uu f1 f2 f3;have hW:=hX.w;obtain⟨W,I'⟩:∃W,W=RP u fn 0:=⟨_,rfl⟩
 obtain⟨o1,o2⟩:=El f1 f2 f3 (i:=(gX (eS u fn) ((0:Nat):Int)).toNat) P.at_ (W:=W) I';obtain⟨S,hS⟩:∃S,S=fg (fR (aL u fn)) (cI (bj (eC (aL u fn)))) (c4 (aL u fn)) ((bH (bj (eC (aL u fn)))).take (gX (eS u fn) ((0:Nat):Int)).toNat):=⟨_,rfl⟩
 have ZL:W=dn (fR (aL u fn)) (cI (bj (eC (aL u fn)))) (c4 (aL u fn)) 0 S:=by rw[I',hS];rfl
 have tC:=(lG hW P.lt S).2.2;rw[<-ZL]at tC;have GD:ax (aL (iR u) fn) 0=ax (dR (aL u fn)) ((0:Nat):Int):=by
  rw[zY h0 h1];rfl
 rw[o2]at GD;have hpp:(ax (fR (aL u fn)) 0).params=(ax (aL u fn) 0).params:=P.blk.2;obtain⟨Pm,XJ⟩:∃Pm,Pm=(ax (fR (aL u fn)) 0).params:=⟨_,rfl⟩
 obtain⟨z,hz⟩:∃z,z=sr (dG ot S.nx Pm) ((c4 (aL u fn)).getD 0 []) ((c4 (aL u fn)).getD 0 []).length:=⟨_,rfl⟩
 have Kx:W=⟨dG (dG ot S.nx Pm) (S.nx+Pm.length) z,S.nx+Pm.length+z.length,dj S.nx Pm.length,(dj (S.nx+Pm.length) z.length).map sI⟩:=by
  rw[ZL,hz,XJ];unfold dn;rw[if_pos rfl]
 have ZG:eQ u fn 0 0=(W.E,W.nx,[]):=by
  unfold eQ;rw[hB,List.take_zero,I'];rfl
 have Of:RO u fn 0 0=z.length:=by
  unfold RO;rw[ZG,hB];show(RP u fn 0).is.length+0=_;rw[<-I',Kx];simp[gn]
 have Al:z.length<=4096:=by
  rw[Kx]at tC;simpa[gn]using tC
 refine⟨hL,hB,?_,by rw[Of];omega,dj (S.nx+Pm.length) z.length,(cC W.E W.nx (ax (fR (aL u fn)) ((0:Nat):Int)).ins).2.2,by rw[gn,Of],?_,fun args lK=>?_⟩
 ·rw[GD,<-hpp,<-XJ,Kx];exact gn _ _
 ·rw[GD,Kx]
 rw[<-hpp,<-XJ]at lK ⊢;rw[GD];show VE (eQ u fn 0 0).1 _ (xi _ (cN [] W.ps args));rw[ZG,Kx];have hb:=VE.bind Pm args (E:=ot) (nx:=S.nx) (es:=[]) (es':=[]) lK.symm (fun w x hx=>by cases hx) (EB.none _);refine VE.Rs z hb (EB.M0 Pm (EB.none _)) fun w hwz=>?_;rw[hz]at hwz;have hn:=(List.mem_filter.1 hwz).2;have hwP:w ∉ Pm:=fun q=>by
  obtain⟨y,hy⟩:=rf Pm (E:=ot) (nx:=S.nx) q;rw[hy]at hn;cases hn
 have:∀(l:List Int) (a:List SV) (es:List (Int×SV)),w ∉ l->fk (cN es l a) w=fk es w:=fun l=>by
  induction l with
  | nil=>intro a es _;cases a<;>rfl
  | cons p r ih =>
   intro a es hq;cases a with
   | nil=>rfl
   | cons x a =>
    rw[cN,ih a _ (fun q=>hq (List.mem_cons_of_mem _ q)),mF,if_neg (fun q=>hq (by rw[<-q];exact List.mem_cons_self))]
 rw[this Pm args [] hwP];rfl
theorem zW(hv:gD (iR u)=0)(hp:(bI u 1500).e=0)(h5:(bI u 1500).fin≠5) :
  (bI (iR u) 1000000).e=13∨((bI (iR u) 1000000).e=0∧(bI (iR u) 1000000).out=(bI u 1500).out∧(bI (iR u) 1000000).fin=(bI u 1500).fin∧(bI (iR u) 1000000).val=(bI u 1500).val) :=
 wK (Ty a8 hm he) (CH a8 hm) (G3 (vN a8 hm he) hv) (by omega) (by omega) (by omega) (by omega) hp h5
end
end Go.Proofs.YtjdnhamngpafmaaGreat
namespace Go.Proofs.YtjdnhamngpafmaaGreat
open Go.Av
theorem zJ{f:Func}{t:Term}(h:kE f t=0):jK t.cases t.cases.length=0:=by
 unfold kE at h;split at h
 ·simp at h
 split at h
 ·simp at h
 split at h
 ·simp at h
 split at h
 ·rename_i q;exact absurd h q
 rename_i q;exact Classical.byContradiction q
theorem L5{f:Func}(hm:ou f){k:Nat}{b:Block}(hb:f.blocks[k]?=some b):kE (eC f) (kL k b).term=0:=by
 have h0:=hm.fin b (List.mem_of_getElem? hb);obtain⟨h1,h2,h3,h4⟩:=kS h0;have hc:=zJ h0;by_cases hk:b.term.kind=0
 ·have e:(kL k b).term=⟨4,0,3,[],[]⟩:=by
   unfold kL Np mP;rw[if_pos hk];rfl
  rw[e];exact sL (by decide) (by simp) (fun _=>by decide) rfl (fun e he=>by cases he)
 have hT:mP b=⟨b.term.kind,0,b.term.n,b.term.cases,b.term.to⟩:=by unfold mP;rw[if_neg hk]
 have hA:(kL k b).term.arg=if Np (mP b)=true then(k:Int)else 0:=rfl
 refine sL ?_ (by show(mP b).cases.length<=256;rw[hT];exact h2) (fun q=>?_) (by show jK (mP b).cases (mP b).cases.length=0;rw[hT];exact hc) (fun e he=>?_)
 ·unfold ef at h1 ⊢;simp only[Bool.and_eq_true,Bool.or_eq_true,decide_eq_true_eq]at h1 ⊢;obtain⟨gl,⟨⟨he,_⟩,hn⟩,fS⟩:=h1;have e1:(kL k b).term.kind=b.term.kind:=by show(mP b).kind=_;rw[hT]
  have e2:(kL k b).term.n=b.term.n:=by show(mP b).n=_;rw[hT]
  have e3:(kL k b).term.cases=b.term.cases:=by show(mP b).cases=_;rw[hT]
  have e4:(kL k b).term.to=b.term.to:=by show(mP b).to=_;rw[hT]
  have eE:fc (kL k b).term=fc b.term:=by unfold fc;rw[e1,e3]
  rw[e1,e2,e3,e4,eE];refine⟨gl,⟨⟨he,?_⟩,hn⟩,fS⟩;rw[hA];unfold sx Np;rw[e1,hT];by_cases q2:b.term.kind=2
  ·left;simp[q2]
  by_cases q3:b.term.kind=3
  ·left;simp[q3]
  right;simp[q2,q3]
 ·have e1:(kL k b).term.kind=b.term.kind:=by show(mP b).kind=_;rw[hT]
  have e2:(kL k b).term.n=b.term.n:=by show(mP b).n=_;rw[hT]
  rw[e2];exact h3 (by rw[<-e1];exact q)
 have KF:e∈b.term.to:=by
  have:e∈(mP b).to:=he;rw[hT]at this;exact this
 obtain⟨p1,p2⟩:=h4 e KF;have qh:=gS (f:=f) (k:=e.block) (by omega) (by omega);rw[hm.bare _ _ qh (by omega)]at p2;refine⟨by rw[jv];exact p1,?_⟩;have sT:=wY qh;have:ax (eC f) e.block=kL e.block.toNat (ax f e.block):=by
  unfold ax at sT ⊢;rw[sT];rfl
 rw[this,p2];rfl
theorem GY(f:Func):∀(l:List Block) (n:Nat),((l.mapIdx fun i b=>kL (n+i) b).flatMap fh).Pairwise (· < ·)∧∀v∈(l.mapIdx fun i b=>kL (n+i) b).flatMap fh,(n:Int)<=v∧v<n+l.length
 | [],n=>⟨by simp,fun v hv=>by simp at hv⟩
 | b::r,n=>by
  obtain⟨h1,h2⟩:=GY f r (n+1);have e:(b::r).mapIdx (fun i b=>kL (n+i) b)=kL n b::r.mapIdx (fun i b=>kL (n+1+i) b):=by
   rw[List.mapIdx_cons];congr 1;refine List.ext_getElem? fun j=>?_;rw[List.getElem?_mapIdx,List.getElem?_mapIdx,show n+(j+1)=n+1+j by omega]
  rw[e,List.flatMap_cons];have hv:∀v∈fh (kL n b),v=(n:Int):=fun v hv=>by
   unfold fh kL at hv;simp only[List.nil_append]at hv;split at hv<;>simp at hv;exact hv
  have hp:(fh (kL n b)).Pairwise (· < ·):=by
   unfold fh kL;simp only[List.nil_append];split<;>simp
  refine⟨List.pairwise_append.2 ⟨hp,h1,fun x hx y hy=>?_⟩,fun v YT=>?_⟩
  ·have:=hv x hx;have:=(h2 y hy).1;omega
  rw[List.length_cons];rcases List.mem_append.1 YT with q|q
  ·have:=hv v q;omega
  have:=h2 v q;omega
theorem L6:∀(l:List Block),(∀b∈l,b.ins.length<=1)->p' l<=l.length
 | [],_=>by simp[p']
 | b::r,h=>by
  have h1:=h b List.mem_cons_self;have h2:=L6 r fun x hx=>h x (List.mem_cons_of_mem _ hx);unfold p' at h2 ⊢;rw[List.map_cons,List.sum_cons,List.length_cons];omega
theorem L4{f:Func}(hm:ou f):aZ (eC f)=0:=by
 have hb:∀c∈(eC f).blocks,∃(k:Nat) (b:Block),f.blocks[k]?=some b∧c=kL k b∧(eC f).blocks[k]?=some c:=fun c hc=>by
  obtain⟨k,hk⟩:=List.mem_iff_getElem?.1 hc;have hl:=I hk;rw[jv]at hl;have qh:f.blocks[k]?=some f.blocks[k]:=List.getElem?_eq_getElem hl;refine⟨k,_,qh,?_,hk⟩;rw[wY qh,Option.some.injEq]at hk;exact hk.symm
 have xK:∀c∈(eC f).blocks,c.ins.length<=1:=fun c hc=>by
  obtain⟨k,b,_,rfl,_⟩:=hb c hc;unfold kL;simp only;split<;>simp
 have uv:=hm.few;have hv:=GY f f.blocks 0;have Aj:lE (eC f)=(f.blocks.mapIdx fun i b=>kL (0+i) b).flatMap fh:=by
  unfold lE eC;simp only[Nat.zero_add]
 rw[<-Aj]at hv;have mV:∀(k:Nat) b,(eC f).blocks[k]?=some b->b.term.kind≠1->b.term.kind≠4->Bl (eC f) k b.ins.length b.term.arg:=fun k c hk h1 h4=>by
  have hl:=I hk;rw[jv]at hl;have qh:f.blocks[k]?=some f.blocks[k]:=List.getElem?_eq_getElem hl;have Gy:=hk;rw[wY qh,Option.some.injEq]at Gy;have hE:=jm (L5 hm qh);rw[Gy]at hE;have hC:Np (mP f.blocks[k])=true:=by
   have e1:c.term.kind=(mP f.blocks[k]).kind:=by rw[<-Gy];rfl
   have e0:(mP f.blocks[k]).kind≠0:=by
    unfold mP;split
    ·simp
    assumption
   have:=hE.kind;unfold Np;rw[Bool.or_eq_true,decide_eq_true_eq,decide_eq_true_eq];omega
  have xL:c.ins=[⟨(k:Int),0,0,[]⟩]:=by rw[<-Gy];unfold kL;simp[hC]
  have On:c.term.arg=(k:Int):=by rw[<-Gy];unfold kL;simp[hC]
  rw[On,xL];exact⟨((k:Int),1),⟨k,c,hk,rfl,.inr ⟨0,⟨(k:Int),0,0,[]⟩,by rw[xL];rfl,rfl,rfl⟩⟩,fun _=>.inl ⟨rfl,by simp⟩⟩
 refine tz (by
  intro e;have:=congrArg List.length e;rw[jv]at this;exact hm.ne (List.length_eq_zero_iff.1 this)) (by rw[jv];exact uv) (by unfold eC;simp) (fun c hc=>by have:=xK c hc;omega) (by
  have:=L6 _ xK;rw[jv]at this;omega) ?_ (fun v YT=>by have:=hv.2 v YT;omega) (hv.1.imp fun h=>by omega) (fun c hc=>?_) ⟨fun k b hk n i hi a ha=>?_,mV,fun k b hk e he a ha=>?_⟩
 ·unfold ax eC;rw[List.getElem?_mapIdx];cases f.blocks[(0:Int).toNat]?<;>simp[kL,default,instInhabitedBlock]
 ·obtain⟨k,b,qh,rfl,_⟩:=hb c hc;refine⟨fun i hi=>?_,L5 hm qh⟩;unfold kL at hi;simp only at hi;split at hi
  ·rw[List.mem_singleton]at hi;subst hi;rfl
  cases hi
 ·obtain⟨k',b',_,rfl,_⟩:=hb b (List.mem_of_getElem? hk);have Jc:=List.mem_of_getElem? hi;unfold kL at Jc;simp only at Jc;split at Jc
  ·rw[List.mem_singleton]at Jc;subst Jc;cases ha
  cases Jc
 obtain⟨k',b',qh,rfl,_⟩:=hb b (List.mem_of_getElem? hk);have hE:=jm (hm.fin b' (List.mem_of_getElem? qh));have KF:e∈(mP b').to:=he;unfold mP at KF;split at KF
 ·cases KF
 obtain⟨⟨p1,p2⟩,p3⟩:=hE.fZ e KF;have pW:=gS (f:=f) (k:=e.block) (by omega) (by omega);rw[hm.bare _ _ pW (by omega)]at p3;rw[List.length_eq_zero_iff.1 p3]at ha;cases ha
theorem yv{u:bY}(a8:u.fit)(hm:dg u=0):iS Et u.fns=0:=by
 have h:=(nB a8 hm).2;generalize u.fns=l at h;induction l with
 | nil=>rfl
 | cons f r ih =>
  unfold iS;rw[de (show Et f=0 from L4 (h f List.mem_cons_self))];exact ih fun g hg=>h g (List.mem_cons_of_mem _ hg)
def IW:Int->List Block->Int
 | m,[]=>m
 | m,b::r=>IW (IntKind.i64.wrap (m+((b.ins.length:Int)+1))) r
def IX:Int->List Func->Int
 | m,[]=>m
 | m,f::r=>IX (IW m f.blocks) r
def L0(u:bY):Bool:=decide (IX 0 u.fns<=400)&&decide ((u.fns.length:Int)<=8)
theorem FO(u:bY)(a8:u.fit):bD Tryz.prog 10 [u.enc] (.v (.bool (L0 u))):=by
 obtain⟨R,hR⟩:∃R,R=IX 0 u.fns:=⟨_,rfl⟩
 have hlen:=a8.2.1;unfold L0;rw[<-hR];refine zf true 0 Tryz.func10 Tryz.ntmps10 ?_;dsimp only[Tmp,TypeId,slotsOf];refine aA (ah ?_);refine aD 1 0 (.ip none [bn u.fns,aI u.main]) rfl (by simp[aj.aF]) trivial rfl ?_ ?_;rotate_left;simp -dsimp only[simprocAttr,↓aa,zp]
 ·refine aA (ah ?_);refine bX (ah ?_);refine ai (aO (ι:={x:Nat×Int // x.1<=u.fns.length∧R=IX x.2 (u.fns.drop x.1)}) (fun x=>⟨38,[(1,.ip none [bn u.fns,aI u.main]),(3,aI x.1.2),(9,bn u.fns),(10,aI u.fns.length),(11,aI x.1.1)],[.gone]⟩) (fun x=>u.fns.length-x.1.1) ⟨(0,0),by omega,by simp[hR]⟩ ?_ ?_)
  ·refine zq rfl ?_ ?_;simp -dsimp only[simprocAttr,↓aa,zp,zc]
   all_goals rfl
  rintro⟨⟨k,n⟩,hk,hn⟩;simp only at hk hn;refine aA (ah ?_);apply iz rfl<;>intro h
  ·refine cd ?_;have bg:k<u.fns.length:=by simpa using h
   obtain⟨f,hf⟩:∃f,u.fns[k]?=some f:=⟨u.fns[k],by simp[bg]⟩
   rw[bP hf]at hn;simp only[IX]at hn;have eh:=a8.2.2 f (List.mem_of_getElem? hf);have gL:=eh.2.1;obtain⟨P,hP⟩:∃P,P=IW n f.blocks:=⟨_,rfl⟩
   rw[<-hP]at hn;refine aJ (ai ?_);refine aS ?_;simp -dsimp only[simprocAttr,↓aa,zp,hf];refine ah ?_;refine aD 5 1 (.ip none [aI f.name,ay f.blocks]) rfl (by simp[aj.aF]) trivial rfl ?_ ?_;rotate_left;simp -dsimp only[simprocAttr,↓aa,zp]
   ·refine bt 1 [(1,.ip none [bn u.fns,aI u.main]),(3,aI n),(9,bn u.fns),(10,aI u.fns.length),(11,aI k),(5,.ip none [aI f.name,ay f.blocks])] (by simp) (by omega) [.gone] ?_ ?_ ?_ ?_ ?_
    ·rfl
    ·simp[aj.upto,aw,ae.upto,az,Func.ag,Block.ag]
    ·simp[fj,St.get,bF,bh,Go.Av.look,Sub.refl]
    ·simp[aj.upto,aw,ae.upto,az,Func.ag,Block.ag]
    refine aA (ah ?_);refine ai (aO (ι:={y:Nat×Int // y.1<=f.blocks.length∧P=IW y.2 (f.blocks.drop y.1)}) (fun y=>⟨38,[(1,.ip none [bn u.fns,aI u.main]),(3,aI y.1.2),(9,bn u.fns),(10,aI u.fns.length),(11,aI k),(16,ay f.blocks),(17,aI f.blocks.length),(18,aI y.1.1)],[.gone]⟩) (fun y=>f.blocks.length-y.1.1) ⟨(0,n),by omega,by simpa using hP⟩ ?_ ?_)
    ·refine zq rfl ?_ ?_;simp -dsimp only[simprocAttr,↓aa,zp,zc]
     all_goals rfl
    rintro⟨⟨j,m⟩,hj,hm⟩;simp only at hj hm;refine aA (ah ?_);apply iz rfl<;>intro h
    ·refine cd ?_;have xk:j<f.blocks.length:=by simpa using h
     obtain⟨b,hb⟩:∃b,f.blocks[j]?=some b:=⟨f.blocks[j],by simp[xk]⟩
     have hbi:=(eh.2.2 b (List.mem_of_getElem? hb)).2.2.1;rw[bP hb]at hm;simp only[IW]at hm;refine aJ (ai ?_);refine aS ?_;simp -dsimp only[simprocAttr,↓aa,zp,hb];refine ah ?_;refine aD 7 1 (.ip none [aK b.params,bf b.ins,aI b.term.kind,aI b.term.arg,aI b.term.n,aK b.term.cases,aH b.term.to]) rfl (by simp[aj.aF]) trivial rfl ?_ ?_;rotate_left;simp -dsimp only[simprocAttr,↓aa,zp]
     ·refine m6 ⟨false,false⟩ hT 5 rfl rfl rfl (by simp) ?_;simp -dsimp only[simprocAttr,↓aa,zp]
      repeat(refine⟨by omega,?_⟩)
      refine sY rfl rfl (by simp) rfl rfl ?_;simp -dsimp only[simprocAttr,↓aa,zp];refine ah ?_;refine bt 1 [(1,.ip none [bn u.fns,aI u.main]),(3,aI (IntKind.i64.wrap (m+((b.ins.length:Int)+1)))),(9,bn u.fns),(10,aI u.fns.length),(11,aI k),(16,ay f.blocks),(17,aI f.blocks.length),(18,aI j)] (by simp) (by omega) [.gone] ?_ ?_ ?_ ?_ ?_
      ·rfl
      ·simp[aj.upto,aw,ae.upto,az,Func.ag,Block.ag]
      ·simp[fj,St.get,bF,bh,Go.Av.look,Sub.refl]
      ·simp[aj.upto,aw,ae.upto,az,Func.ag,Block.ag]
      refine cT ?_
      repeat(refine⟨by omega,?_⟩)
      refine fK ?_;refine⟨⟨(j+1,IntKind.i64.wrap (m+((b.ins.length:Int)+1))),by simp only;omega,hm⟩,by simp;omega,?_⟩;refine zq rfl ?_ ?_;simp -dsimp only[simprocAttr,↓aa,zp,zc]
      ·exact Sub.int (by simp)
      rfl
     exact bQ.mp rfl rfl
    refine aM ?_;simp -dsimp only[bS,ne_eq,Nat.reduceEqDiff,reduceCtorEq];have EO:f.blocks.length<=j:=by
     have:=of_decide_eq_false h;omega
    rw[List.drop_eq_nil_of_le EO]at hm;simp only[IW]at hm;subst hm;refine cT ?_
    repeat(refine⟨by omega,?_⟩)
    refine fK ?_;refine⟨⟨(k+1,P),by simp only;omega,hn⟩,by simp;omega,?_⟩;refine zq rfl ?_ ?_;simp -dsimp only[simprocAttr,↓aa,zp,zc]
    ·exact Sub.int (by simp)
    rfl
   exact bQ.mp rfl rfl
  refine aM ?_;simp -dsimp only[bS,ne_eq,Nat.reduceEqDiff,reduceCtorEq];have gl:u.fns.length<=k:=by
   have:=of_decide_eq_false h;omega
  rw[List.drop_eq_nil_of_le gl]at hn;simp only[IX]at hn;subst hn;cases hd:decide (R<=400)
  ·refine aS ?_;simp -dsimp only[simprocAttr,↓aa,zp,hd];refine ah ?_;refine aq ?_;simp -dsimp only[simprocAttr,↓aa,zp,zr,Tryz.results10]
  refine aS ?_;simp -dsimp only[simprocAttr,↓aa,zp,hd];refine ah ?_;refine aq ?_;simp -dsimp only[simprocAttr,↓aa,zp,zr,Tryz.results10]
 exact bQ.mp rfl rfl
theorem uz(u:bY)(a8:u.fit):bD Tryz.prog 6 [u.enc] (.v (.bool true)):=by
 have Xc:=F6;have TS:=FO u a8;have oI:=oV u a8;have hle:=BV u a8;unfold Kd at hle;cases hs:L0 u with
 | false =>
  rw[hs]at TS;refine zf true 0 Tryz.func6 Tryz.ntmps6 ?_;dsimp only[Tmp,TypeId,slotsOf];refine aA (ah ?_);refine aD 1 0 (.ip none [bn u.fns,aI u.main]) rfl (by simp[aj.aF]) trivial rfl ?_ ?_;rotate_left;simp -dsimp only[simprocAttr,↓aa,zp]
  ·refine bX ?_;refine zi Xc ?_;refine ah ?_;refine cr rfl ?_;refine cd ?_;refine bX ?_;refine zi TS ?_;refine ah ?_;refine cH rfl ?_;refine aA (ah ?_);refine aq ?_;simp -dsimp only[simprocAttr,↓aa,zp,zr,Tryz.results6]
  exact bQ.mp rfl rfl
 | true =>
  rw[hs]at TS;by_cases hc:dg u=0
  ·rw[hc]at oI;by_cases he:zX u=0
   ·rw[if_pos he]at hle;have Oz:=yv a8 hc;have Je:gD (iR u)=0:=by
     unfold zX at he;rw[if_pos hc,if_pos Oz]at he;split at he
     ·assumption
     simp at he
    have QU:=vN a8 hc Oz;have KS:=qC (iR u) QU;rw[Je]at KS;have TQ:=Il u a8 1500;have VA:=C7 (iR u) QU 1000000;have hmq:CC u 1500=bI u 1500:=by
     unfold CC;rw[if_neg (by rw[hc];simp),if_neg (by decide)]
    have hmp:runM (iR u) 1000000=bI (iR u) 1000000:=by
     unfold runM;rw[if_neg (by rw[Je];simp),if_neg (by decide)]
    rw[hmq]at TQ;rw[hmp]at VA;have tH:=zW a8 hc Oz Je;generalize iR u=V at *;generalize bI u 1500=A at *;generalize bI V 1000000=B at *;obtain⟨out,fin,val,n,e⟩:=A;obtain⟨Wn,Uv,WA,n2,e2⟩:=B;unfold Nr.enc at TQ VA;unfold bY.enc at hle KS VA;simp only at TQ VA tH;have uN:=nZ out Wn fin Uv val WA;unfold NY at uN;refine zf true 0 Tryz.func6 Tryz.ntmps6 ?_;dsimp only[Tmp,TypeId,slotsOf];refine aA (ah ?_);refine aD 1 0 (.ip none [bn u.fns,aI u.main]) rfl (by simp[aj.aF]) trivial rfl ?_ ?_;rotate_left;simp -dsimp only[simprocAttr,↓aa,zp]
    ·refine bX ?_;refine zi Xc ?_;refine ah ?_;refine cr rfl ?_;refine cd ?_;refine bX ?_;refine zi TS ?_;refine ah ?_;refine cr rfl ?_;refine cd ?_;refine aA ?_;refine zi hle ?_;refine ah ?_;refine bX ?_;refine zi oI ?_;refine ah ?_;refine aA (ah ?_);refine cr rfl ?_;refine cd ?_;refine bX (ah ?_);refine cr rfl ?_;refine cd ?_;refine aD 3 1 (.ip none [bn V.fns,aI V.main]) rfl (by simp[aj.aF]) trivial rfl ?_ ?_;rotate_left;simp -dsimp only[simprocAttr,↓aa,zp]
     ·refine bX ?_;refine zi KS ?_;refine ah ?_;refine cr rfl ?_;refine cd ?_;refine aA ?_;refine zi TQ ?_;refine ah ?_;refine aD 6 2 (.ip none [.aC 1 (out.map aI) .sh,aI fin,aI val]) rfl (by simp[aj.aF]) trivial rfl ?_ ?_;rotate_left;simp -dsimp only[simprocAttr,↓aa,zp]
      ·by_cases h0:e=0
       ·subst h0;by_cases X':fin=5
        ·subst X';refine c9 ?_;simp -dsimp only[simprocAttr,↓aa,zp,decide_true];refine ah ?_;refine cH rfl ?_;refine aA (ah ?_);refine aq ?_;simp -dsimp only[simprocAttr,↓aa,zp,zr,Tryz.results6]
        have d5:decide (fin=5)=false:=decide_eq_false X';have hh:=tH rfl X';refine c9 ?_;simp -dsimp only[simprocAttr,↓aa,zp,d5];refine ah ?_;refine cr rfl ?_;refine cd ?_;refine aA ?_;refine zi VA ?_;refine ah ?_;refine aD 9 3 (.ip none [.aC 1 (Wn.map aI) .sh,aI Uv,aI WA]) rfl (by simp[aj.aF]) trivial rfl ?_ ?_;rotate_left;simp -dsimp only[simprocAttr,↓aa,zp]
        ·rcases hh with q|⟨q1,q2,q3,q4⟩
         ·subst q;refine aS ?_;simp -dsimp only[simprocAttr,↓aa,zp,decide_true];refine ah ?_;refine aq ?_;simp -dsimp only[simprocAttr,↓aa,zp,zr,Tryz.results6]
         subst q1 q2 q3 q4;simp only[decide_true,Bool.and_self]at uN;refine aS ?_;simp -dsimp only[simprocAttr,↓aa,zp,decide_true];refine .inl ⟨_,uN,by simp only[aw,ae.upto,zt,zu,az],ao ?_⟩;simp -dsimp only[simprocAttr,↓aa,zp,decide_true];refine ah ?_;refine aq ?_;simp -dsimp only[simprocAttr,↓aa,zp,zr,Tryz.results6]
        exact bQ.mp rfl rfl
       have d0:decide (e=0)=false:=decide_eq_false h0;refine c9 ?_;simp -dsimp only[simprocAttr,↓aa,zp,d0];refine ah ?_;refine cH rfl ?_;refine aA (ah ?_);refine aq ?_;simp -dsimp only[simprocAttr,↓aa,zp,zr,Tryz.results6]
      exact bQ.mp rfl rfl
     exact bQ.mp rfl rfl
    exact bQ.mp rfl rfl
   have KF:zX u=2:=by
    unfold zX at he ⊢;rw[if_pos hc,if_pos (yv a8 hc)]at he ⊢;split at he
    ·exact absurd rfl he
    rename_i q2;rw[if_neg q2]
   rw[if_neg he,KF]at hle;unfold T6 at hle;refine zf true 0 Tryz.func6 Tryz.ntmps6 ?_;dsimp only[Tmp,TypeId,slotsOf];refine aA (ah ?_);refine aD 1 0 (.ip none [bn u.fns,aI u.main]) rfl (by simp[aj.aF]) trivial rfl ?_ ?_;rotate_left;simp -dsimp only[simprocAttr,↓aa,zp]
   ·refine bX ?_;refine zi Xc ?_;refine ah ?_;refine cr rfl ?_;refine cd ?_;refine bX ?_;refine zi TS ?_;refine ah ?_;refine cr rfl ?_;refine cd ?_;refine aA ?_;refine zi hle ?_;refine ah ?_;refine bX ?_;refine zi oI ?_;refine ah ?_;refine aA (ah ?_);refine cr rfl ?_;refine cd ?_;refine bX (ah ?_);refine cH rfl ?_;refine aA (ah ?_);refine aq ?_;simp -dsimp only[simprocAttr,↓aa,zp,zr,Tryz.results6]
   exact bQ.mp rfl rfl
  have EG:zX u=dg u:=if_neg hc;rw[EG,if_neg hc]at hle;unfold T6 at hle;obtain⟨e,uL⟩:∃e,e=dg u:=⟨_,rfl⟩
  rw[<-uL]at hc oI hle;have jP:decide (e=0)=false:=decide_eq_false hc;refine zf true 0 Tryz.func6 Tryz.ntmps6 ?_;dsimp only[Tmp,TypeId,slotsOf];refine aA (ah ?_);refine aD 1 0 (.ip none [bn u.fns,aI u.main]) rfl (by simp[aj.aF]) trivial rfl ?_ ?_;rotate_left;simp -dsimp only[simprocAttr,↓aa,zp]
  ·refine bX ?_;refine zi Xc ?_;refine ah ?_;refine cr rfl ?_;refine cd ?_;refine bX ?_;refine zi TS ?_;refine ah ?_;refine cr rfl ?_;refine cd ?_;refine aA ?_;refine zi hle ?_;refine ah ?_;refine bX ?_;refine zi oI ?_;refine ah ?_;refine aS ?_;simp -dsimp only[simprocAttr,↓aa,zp,jP];refine ah ?_;refine cH rfl ?_;refine aS ?_;simp -dsimp only[simprocAttr,↓aa,zp,decide_true];refine ah ?_;refine aq ?_;simp -dsimp only[simprocAttr,↓aa,zp,zr,Tryz.results6]
  exact bQ.mp rfl rfl
end Go.Proofs.YtjdnhamngpafmaaGreat
