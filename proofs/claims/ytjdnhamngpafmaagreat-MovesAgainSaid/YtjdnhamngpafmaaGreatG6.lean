/- Texts of the proof, bound together and shortened by a program of mine. -/
import Derived.Test.YtjdnhamngpafmaaGreatG5
import Derived.Test.YtjdnhamngpafmaaGreatChecked
import Derived.KernelRfl
import Derived.Shelf.Slices.In.SortNone
import Derived.Shelf.Sort.Plain
set_option linter.all false
set_option maxRecDepth 100000
set_option maxHeartbeats 4000000
namespace Go.Proofs.YtjdnhamngpafmaaGreat
open Go.Av Tryz
def Z6(f:Func)(k j:Nat):Prop:=∃b l,f.blocks[k]?=some b∧(DI f).tos[k]?=some l∧∃e∈l,e.block=(j:Int)
variable {f:Func}
theorem vk(hg:FN f){k i:Nat}{x:Edge}(h:Z6 f k (f.blocks.length+i))(hx:(DI f).news[i]?=some (Gb x)):∃b,f.blocks[k]?=some b∧x∈b.term.to:=by
 obtain⟨b,l,h1,h2,e,h3,h4⟩:=h;refine⟨b,h1,?_⟩;rcases Xm h1 h2 h3 with q|⟨j,y,q1,q2,q3⟩
 ·have:=(hg.DN b (AK h1) e q).2;omega
 rw[q1]at h4;have h4':((f.blocks.length+j:Nat):Int)=((f.blocks.length+i:Nat):Int):=h4;have:j=i:=I
 subst this;rw[q2]at hx;simp only[AM]at hx;rw[<-qev hx];exact q3
def SpD(f:Func)(i j:Nat):Prop:=(j<f.blocks.length∧i<f.blocks.length∧(MC f j).has i=true)∨(f.blocks.length<=j∧((i=j∧j<f.blocks.length+(DI f).news.length)∨(i<f.blocks.length∧∀k,Ky f k=true->Z6 f k j->(MC f k).has i=true)))
def SpR(f:Func)(j:Nat):Prop:=(j<f.blocks.length∧Ky f j=true)∨(f.blocks.length<=j∧∃k,Ky f k=true∧Z6 f k j)
theorem uR{v:Int}{p:Int×Int}(h:Rr f v p):Rr (DD f) v p:=by
 obtain⟨k,b,h1,h2,h3⟩:=h;have hk:=AE h1;have hw:=(K5 f).w.len;have hl:(DI f).tos[k]?=some ((DI f).tos[k]' I):=AY _;exact⟨k,Dq b _,(ka hk).2 ⟨b,_,h1,hl,rfl⟩,h2,h3⟩
variable {k:Nat}{c:Block}
section
variable {f:Func}
theorem SZ(h:(DD f).blocks[k]?=some c):(∃b l,k<f.blocks.length∧f.blocks[k]?=some b∧(DI f).tos[k]?=some l∧c=Dq b l)∨∃(i:Nat) (x:Edge),k=f.blocks.length+i∧(DI f).news[i]?=some (Gb x)∧c=Gb x∧∃(k0:Nat) (b0:Block),f.blocks[k0]?=some b0∧x∈b0.term.to:=by
 by_cases hk:k<f.blocks.length
 ·obtain⟨b,l,h1,h2,h3⟩:=(ka hk).1 h;exact .inl ⟨b,l,hk,h1,h2,h3⟩
 obtain⟨i,hi⟩:∃i,k=f.blocks.length+i:=⟨k-f.blocks.length,I⟩
 rw[hi,tP]at h;obtain⟨k0,b0,x,q1,q2,q3⟩:=(K5 f).new i c h;exact .inr ⟨i,x,hi,by rw[h,q3],q3,k0,b0,q1,q2⟩
theorem qiq(hg:FN f)(hd:Z5 f)(hm:f.blocks.length+(DI f).news.length<=128):DmC (DD f) (SpD f) (SpR f) where
 few:=by rw[U8];exact hm
 DN:=fun c hc e he=>by
  obtain⟨k,hk⟩:=List.mem_iff_getElem?.1 hc;rw[U8];rcases SZ hk with⟨b,l,h1,h2,h3,h4⟩|⟨i,x,h1,h2,h3,k0,b0,h4,h5⟩
  ·rw[h4]at he;rcases Xm h2 h3 he with q|⟨i,x,q1,q2,q3⟩
   ·have:=hg.DN b (AK h2) e q;omega
   have:=AE q2;rw[q1];simp only;omega
  rw[h3]at he;have hex:e=x:=dV
  have:=hg.DN b0 (AK h4) x h5;rw[hex];omega
 next:=fun k c hk hR e he=>by
  have hn:=hg.few;rcases SZ hk with⟨b,l,h1,h2,h3,h4⟩|⟨i,x,h1,h2,h3,_⟩
  ·rw[h4]at he;have hs:Ky f k=true:=by
    rcases hR with q|q
    ·exact q.2
    omega
   rcases Xm h2 h3 he with q|⟨i,x,q1,q2,q3⟩
   ·have hr:=hg.DN b (AK h2) e q;obtain⟨s1,s2⟩:=hd.step k b h2 hs e q;refine⟨.inl ⟨I,s1⟩,fun z hz=>?_⟩;rcases hz with⟨z1,z2,z3⟩|⟨z1,_⟩
    ·rcases s2 z I z3 with r|r
     ·exact .inl r
     exact .inr (.inl ⟨h1,z2,r⟩)
    omega
   have Fb:Z6 f k (f.blocks.length+i):=⟨b,l,h2,h3,e,he,by rw[q1]⟩
   have heb:e.block.toNat=f.blocks.length+i:=by
    rw[q1];simp only;omega
   rw[heb];refine⟨.inr ⟨I,k,hs,Fb⟩,fun z hz=>?_⟩;rcases hz with⟨z1,_⟩|⟨_,⟨z2,_⟩|⟨z2,z3⟩⟩
   ·omega
   ·exact .inl z2
   exact .inr (.inl ⟨h1,z2,z3 k hs Fb⟩)
  rw[h3]at he;have hex:e=x:=dV
  rw[hex];have zI:∀k',Ky f k'=true->Z6 f k' k->Ky f x.block.toNat=true∧x.block.toNat<f.blocks.length∧∀j,j<128->((MC f x.block.toNat).has j=true->j=x.block.toNat∨(MC f k').has j=true):=fun k' Pn Fb=>by
   rw[h1]at Fb;obtain⟨b',r1,r2⟩:=vk hg Fb h2;obtain⟨s1,s2⟩:=hd.step k' b' r1 Pn x r2;have hr:=hg.DN b' (AK r1) x r2;exact⟨s1,I,s2⟩
  have qmo:∃k',Ky f k'=true∧Z6 f k' k:=by
   rcases hR with q|q
   ·omega
   exact q.2
  obtain⟨k',e1,e2⟩:=qmo;obtain⟨s1,s2,_⟩:=zI k' e1 e2;refine⟨.inl ⟨s2,s1⟩,fun z hz=>?_⟩;rcases hz with⟨z1,z2,z3⟩|⟨z1,_⟩
  ·by_cases q:z=x.block.toNat
   ·exact JV
   exact .inr (.inr ⟨I,.inr ⟨z2,fun k'' f1 f2=>((zI k'' f1 f2).2.2 z I z3).resolve_left q⟩⟩)
  omega
theorem qhe(hg:FN f)(hd:Z5 f):∀i,SpD f i 0->i=0:=fun i h=>by
 have hl:=List.length_pos_iff.2 hg.ne;have hn:=hg.few;rcases h with⟨_,h2,h3⟩|⟨h1,_⟩
 ·exact(hd.zero i I).1 h3
 omega
theorem ql6:∀i j,SpD f i j->i<(DD f).blocks.length:=fun i j h=>by
 rw[U8];rcases h with⟨_,h2,_⟩|⟨_,⟨h2,h3⟩|⟨h2,_⟩⟩<;>omega
theorem lq(hg:FN f):(DD f).blocks≠[]:=fun q=>by
 have hl:=List.length_pos_iff.2 hg.ne;have:=Dj List.length q;rw[U8]at this;simp only[GD]at this;omega
theorem wH:∀l:List Block,(∀c∈l,c.ins=[])->H0 l=0
 | [],_=>rfl
 | c::l,h=>by
  have ih:=wH l fun d hd=>h d (Dw _ hd);unfold H0 at ih ⊢;rw[Bc,KH,ih,h c (DQ ..)];rfl
theorem cW(AO:f.fit)(hc:Cj f=0)(hm:f.blocks.length+(DI f).news.length<=128):Cj (DD f)=0:=by
 have hv:=Sa AO hc;have hf:=hv.fn;have hg:=hf.gr;have hd:=hv.Tp;have hl:=List.length_pos_iff.2 hg.ne;have hC:=qiq hg hd hm;have SL:SpR f 0:=.inl ⟨hl,hd.seen⟩;have hz:=qhe hg hd;have AF:=ql6 (f:=f);have hwl:=(K5 f).w.len;have Bm:∀{i j:Nat},j<(DD f).blocks.length->SpD f i j->(MC (DD f) j).has i=true:=fun hj h=>wh (lq hg) hC SL hz AF hj h;have Wk:∀{j:Nat},j<128->Ky (DD f) j=true->SpR f j:=fun hj h=>qfp (lq hg) hC SL hz AF hj h;have hold:∀{k:Nat} {n v:Int},k<f.blocks.length->Ru f k n v->Ru (DD f) k n v:=fun {k n v} hk h=>by
  obtain⟨p,h1,h2⟩:=h;have hp:=h1.range;refine⟨p,uR h1,fun hs=>?_⟩;have hsf:Ky f k=true:=by
   rcases Wk I hs with q|q
   ·exact q.2
   omega
  rcases h2 hsf with q|⟨q1,q2⟩
  ·exact JV
  exact .inr ⟨q1,Bm qZ (.inl ⟨hk,I,q2⟩)⟩
 have OA:G8 (DD f)=G8 f:=by
  unfold G8 DD;rw[pO,lx _ _ hwl];have:(DI f).news.flatMap Gx=[]:=by
   rw[zy];intro c FQ;obtain⟨i,hi⟩:=List.mem_iff_getElem?.1 FQ;obtain⟨_,_,x,_,_,q⟩:=(K5 f).new i c hi;rw[q];rfl
  rw[this,F9]
 have zK:H0 (DD f).blocks=H0 f.blocks:=by
  have h1:H0 (DD f).blocks=H0 (List.zipWith Dq f.blocks (DI f).tos)+H0 (DI f).news:=by
   unfold H0 DD;rw[Dx,pV]
  have h2:H0 (DI f).news=0:=by
   refine wH _ fun c FQ=>?_;obtain⟨i,hi⟩:=List.mem_iff_getElem?.1 FQ;obtain⟨_,_,x,_,_,q⟩:=(K5 f).new i c hi;rw[q];rfl
  rw[h1,h2,xK _ _ hwl];rfl
 have MO:∀{k:Int},0<=k->k<f.blocks.length->(A7 (DD f) k).params=(A7 f k).params:=fun {k} h0 h1=>by
  have hb:=K7 h0 h1;have LG:(DI f).tos[k.toNat]?=some ((DI f).tos[k.toNat]' I):=AY _;have:=(ka (f:=f) (k:=k.toNat) I).2 ⟨_,_,hb,LG,rfl⟩;have e:A7 (DD f) k=Dq (A7 f k) ((DI f).tos[k.toNat]' I):=by
   show(DD f).blocks[k.toNat]?.getD default=_;rw[this];rfl
  rw[e];rfl
 have Li:∀(i:Nat),i<(DI f).news.length->(A7 (DD f) ((f.blocks.length+i:Nat):Int)).params=[]:=fun i hi=>by
  have hni:(DI f).news[i]?=some ((DI f).news[i]'hi):=AY _;obtain⟨_,_,x,_,_,q⟩:=(K5 f).new i _ hni;have:(DD f).blocks[f.blocks.length+i]?=some (Gb x):=by rw[tP,hni,q]
  have e:A7 (DD f) ((f.blocks.length+i:Nat):Int)=Gb x:=by
   unfold A7;rw[BH,this];rfl
  rw[e];rfl
 refine sN (lq hg) (by rw[U8];exact hm) hf.name (fun c FQ=>?_) (by rw[zK];exact xE AO hc) (by rw[MO I I];exact hf.args) (by rw[OA];exact hv.vals) (by rw[OA];exact hv.nodup) (fun c FQ=>?_) ?_
 ·obtain⟨k,hk⟩:=List.mem_iff_getElem?.1 FQ;rcases SZ hk with⟨b,l,_,h2,_,h4⟩|⟨i,x,_,_,h3,_⟩
  ·rw[h4];exact hf.ins b (AK h2)
  rw[h3];simp[Gb]
 ·obtain⟨k,hk⟩:=List.mem_iff_getElem?.1 FQ;rcases SZ hk with⟨b,l,h1,h2,h3,h4⟩|⟨i,x,h1,h2,h3,k0,b0,h4,h5⟩
  ·have RA:=hf.blk b (AK h2);have CN:=(K5 f).w.each k b l h2 h3;obtain⟨m1,m2,m3,m4⟩:=ZR RA.fin;rw[h4];refine⟨RA.Yv,cj ?_ m2 m3 (uY (f:=f) (t:=b.term) RA.fin) fun e he=>?_⟩
   ·rw[tq (t:=(Dq b l).term) (t':=b.term) rfl rfl rfl rfl CN];exact m1
   rw[U8];rcases Xm h2 h3 he with q|⟨i,x,q1,q2,q3⟩
   ·obtain⟨e1,e2⟩:=m4 e q;exact⟨I,aaj⟩
   have hi:=AE q2;rw[q1];refine⟨D6,?_⟩;simp only;rw[Li i hi]
  have RA:=hf.blk b0 (AK h4);obtain⟨m1,m2,m3,m4⟩:=ZR RA.fin;obtain⟨e1,e2⟩:=m4 x h5;rw[h3];refine⟨fun i hi=>(by cases hi),cj (by simp[Gb,Hj,K6,TC]) aN aN rfl fun e he=>?_⟩;have hex:e=x:=dV
  rw[hex,U8];exact⟨I,aaj⟩
 refine⟨fun k c hk n i hi a ha=>?_,fun k c hk h1 h4=>?_,fun k c hk e he a ha=>?_⟩
 ·rcases SZ hk with⟨b,l,h1,h2,h3,h4⟩|⟨i0,x,_,_,h3,_⟩
  ·rw[h4]at hi;exact hold h1 (hv.NL.ins k b h2 n i hi a ha)
  rw[h3]at hi;simp[Gb]at hi
 ·rcases SZ hk with⟨b,l,q1,q2,q3,q4⟩|⟨i0,x,_,_,q3,_⟩
  ·rw[q4]at h1 h4 ⊢;exact hold q1 (hv.NL.arg k b q2 h1 h4)
  rw[q3]at h1;exact B3 rfl h1
 rcases SZ hk with⟨b,l,q1,q2,q3,q4⟩|⟨i0,x,q1,q2,q3,k0,b0,q4,q5⟩
 ·rw[q4]at he ⊢;rcases Xm q2 q3 he with q|⟨i,x,r1,_,_⟩
  ·exact hold q1 (hv.NL.args k b q2 e q a ha)
  rw[r1]at ha;cases ha
 rw[q3]at he ⊢;have hex:e=x:=dV
 rw[hex]at ha;obtain⟨p,p1,_⟩:=hv.NL.args k0 b0 q4 x q5 a ha;have hp:=p1.range;refine⟨p,uR p1,fun hs=>.inr ⟨I,?_⟩⟩;have Fv:=AE q2;refine Bm qZ (.inr ⟨I,.inr ⟨I,fun k' s1 s2=>?_⟩⟩);rw[q1]at s2;obtain⟨b',r1,r2⟩:=vk hg s2 q2;obtain⟨p',t1,t2⟩:=hv.NL.args k' b' r1 x r2 a ha;have:=t1.uniq hv p1;subst this;rcases t2 s1 with⟨u1,_⟩|⟨_,u2⟩
 ·rw[show p'.1.toNat=k' from I];exact hd.self k' (AE r1)
 exact u2
end
theorem sZ:It []:=fun _ h=>by cases h
theorem cr(AO:f.fit)(hm:f.blocks.length+(DI f).news.length<=128):(DD f).fit:=by
 refine⟨AO.1,qZ,fun c FQ=>?_⟩;obtain⟨k,hk⟩:=List.mem_iff_getElem?.1 FQ;rcases SZ hk with⟨b,l,h1,h2,h3,h4⟩|⟨i,x,h1,h2,h3,k0,b0,h4,h5⟩
 ·obtain⟨b1,b2,b3,b4,t1,t2,t3,t4,t5,t6,t7⟩:=AO.2.2 _ (AK h2);have hlen:=(K5 f).w.each k b l h2 h3;rw[h4];refine⟨b1,b2,b3,b4,t1,t2,t3,t4,t5,by show l.length<=_;rw[hlen];exact t6,fun e he=>?_⟩;rcases Xm h2 h3 he with q|⟨i,x,q1,q2,q3⟩
  ·exact t7 e q
  have:=AE q2;rw[q1];refine⟨?_,sZ,A6⟩;unfold Bi;simp only;omega
 obtain⟨b1,b2,b3,b4,t1,t2,t3,t4,t5,t6,t7⟩:=AO.2.2 _ (AK h4);rw[h3];refine⟨sZ,aN,aN,fun v hv=>YO,qw,qw,qw,sZ,aN,aN,fun e he=>?_⟩;have hex:e=x:=dV
 rw[hex];exact t7 x h5
section
variable {f:Func}
end
variable {g:Func}
theorem mD(hv:XH g){sp:Int}(Bg:∀v∈G8 g,v<sp){b:Block}(hb:b∈g.blocks){e:Edge}(he:e∈b.term.to):MvW g e sp:=by
 obtain⟨e1,e2⟩:=(LS (hv.fn.blk b hb).fin).DN e he;have Em:A7 g e.block∈g.blocks:=M' I I;have IH:(A7 g e.block).params.length<=4096:=by
  have:=(hv.fn.blk _ Em).few;omega
 have hp:∀x∈(A7 g e.block).params,0<=x∧x<sp:=fun x hx=>have q:=List.mem_flatMap.2 ⟨_,Em,UQ _ hx⟩;⟨(hv.below q).1,Bg x q⟩;have ha:∀x∈e.args,0<=x∧x<sp:=fun x hx=>by
  obtain⟨k,hk⟩:=List.mem_iff_getElem?.1 hb;have q:=eT (hv.NL.args k b hk e he x hx);exact⟨(hv.below q).1,Bg x q⟩
 have hz:∀x∈HM g e,x.1∈(A7 g e.block).params∧x.2∈e.args:=fun x hx=>il (a:=x.1) (b:=x.2) hx;exact {
  blk:=I
  len:=e2
  few:=IH
  pos:=fun x hx=>⟨(hp _ (hz x hx).1).1,(ha _ (hz x hx).2).1⟩
  dis:=fun i j x y F4 h1 h2 q=>by
   have hn:(A7 g e.block).params.Nodup:=by
    have h2:=hv.nodup;unfold G8 List.flatMap at h2;have h3:=(List.pairwise_flatten.1 h2).1 _ (List.mem_map.2 ⟨_,Em,rfl⟩);exact(List.nodup_append.1 h3).1
   have g1:=(List.getElem?_zip_eq_some.1 h1).1;have g2:=(List.getElem?_zip_eq_some.1 h2).1;rw[q,<-g2]at g1;have:=(dD (AE (g1.trans g2)) hn).1 g1;omega
  sp:=fun x hx=>by
   have:=hp _ (hz x hx).1;have:=ha _ (hz x hx).2;omega }
variable {sp:Int}
theorem sV{e:Edge}(h:MvW g e sp):(Io g e sp).length<=8192:=by
 have h1:=qgO (HM g e) sp;have h2:=h.few;have h3:(HM g e).length<=(A7 g e.block).params.length:=by
  unfold HM;rw[List.length_zip];omega
 unfold Io;rw[BE];omega
theorem p9:∀(ss ids:List Nat) (L:List Block),∀d∈Ct ss ids L,d.scalar
 | [],_,_,d,h=>by simp[Ct]at h
 | _::_,[],_,d,h=>by simp[Ct]at h
 | _::_,_::_,[],d,h=>by simp[Ct]at h
 | s::ss,i::ids,b::L,d,h=>by
  rw[W0,HY]at h;rcases h with q|q
  ·simp only[H',CL,GG,Di]at q;rcases q with rfl|rfl|rfl|rfl|rfl|rfl|rfl<;>first|trivial|skip
   unfold Jh;split<;>trivial
  exact p9 ss ids L d q
variable {L:List Block}{O:List A8}
theorem J7.zD{name:Int}{ids ss:List Nat}{X AS:Nat}(h:J7 name ids ss X AS L O){k:Nat}{b c:Block}(hb:L[k]?=some b)(hc:c.term.to=b.term.to)(hi:c.ins=b.ins):J7 name ids ss X AS (L.set k c) (O.set AS (.cells (Ct ss ids (L.set k c)))):=by
 have Fg:=AE hb;obtain⟨s,hs⟩:∃s,ss[k]?=some s:=⟨ss[k]'(by rw[h.ls];exact Fg),AY _⟩
 have:=h.row hs hb hc (.inl rfl);rw[kZ hs,Sg (l:=O) (j:=s) (by rw[hi];exact(h.sp k s b hs hb).2)]at this;exact Cd
theorem xg(O:List A8):Sub O (.v (.slice none 0 0)) (AA []):=fun g u _ k=>by
 have:=k.D0.1;subst this;exact rm
theorem qbG{l:List A2}{i:Nat}{a:A2}{xs:List A2}(h:l[i]?=some a):As l i (a::xs)=As l (i+1) xs:=by
 unfold As;rw[Fs,h];simp only[Option.toList,Ez,JR,HF,CE,aa2];rw[show i+(xs.length+1)=i+1+xs.length from I]
variable {n:Nat}
theorem qfr{es:List Edge}{y:Edge}(h:es[n]?=some y):As (B5 es) (n*2+1) [AA []]=B5 (es.set n ⟨y.block,[]⟩):=by
 have h2:=wj h;have h3:(B5 es)[n*2]?=some (aI y.block):=by
  have:(((B5 es).drop (n*2)).take 2)[0]?=some (aI y.block):=by rw[h2];rfl
  rw[GC,A9 I,FC]at this;exact Cd
 rw[<-qbG h3];exact wi (AE h) ⟨y.block,[]⟩
theorem RK:∀(k:Nat) (R:List Block),(M5 k R).length=R.length
 | _,[]=>rfl
 | k,b::r=>by simp[M5,RK (k+1) r]
theorem kV:∀{k j:Nat} {R:List Block} {c:Block},R[j]?=some c->(M5 k R)[j]?=some (if k+j=0 then c else Uw c)
 | _,_,[],_,h=>by simp at h
 | k,0,b::r,c,h=>by
  simp only[Dh,AM]at h;subst h;simp[M5]
 | k,j+1,b::r,c,h=>by
  rw[M5,LY,kV Aa,show k+1+j=k+(j+1) from I]
def MQ(j:Nat)(R:List Block):List Block:=(M5 0 R).take j++R.drop j
theorem qf5(R:List Block):MQ 0 R=R:=by simp[MQ]
variable {j:Nat}{R:List Block}
theorem qgn(h:R.length<=j):MQ j R=M5 0 R:=by
 unfold MQ;rw[Cb (by rw[RK];exact h),cy h,F9]
theorem vw(j:Nat)(R:List Block):(MQ j R).length=R.length:=by
 unfold MQ;rw[Bf,Dy,ND,RK];omega
theorem qj2(h:R[j]?=some c):(MQ j R)[j]?=some c:=by
 have hl:=AE h;have:((M5 0 R).take j).length=j:=by rw[Dy,RK];omega
 unfold MQ;rw[Dg I,this,FB,FC,J4,h]
theorem qf4(h:R[j]?=some c):MQ (j+1) R=(MQ j R).set j (if j=0 then c else Uw c):=by
 have hl:=AE h;have Ju:((M5 0 R).take j).length=j:=by rw[Dy,RK];omega
 have hb:=kV (k:=0) h;rw[Db]at hb;unfold MQ;rw[OF _ _ I,Ju,FB,D9 h,OH,Fs,hb];simp
theorem uJ:∀(ids:List Nat) (L:List Block),∀d∈C9 ids L,d.scalar
 | [],_,d,h=>by simp[C9]at h
 | _::_,[],d,h=>by simp[C9]at h
 | i::ids,b::L,d,h=>by
  have e:C9 (i::ids) (b::L)=Fx i b++C9 ids L:=rfl;rw[e,HY]at h;rcases h with q|q
  ·simp only[Fx,CL,GG,Di]at q;rcases q with rfl|rfl|rfl|rfl|rfl|rfl|rfl<;>first|trivial|skip
   unfold Iz;split<;>trivial
  exact uJ ids L d q
theorem so(f:Func):G8 (DD f)=G8 f:=by
 have hwl:=(K5 f).w.len;unfold G8 DD;rw[pO,lx _ _ hwl];have:(DI f).news.flatMap Gx=[]:=by
  rw[zy];intro c FQ;obtain⟨i,hi⟩:=List.mem_iff_getElem?.1 FQ;obtain⟨_,_,x,_,_,q⟩:=(K5 f).new i c hi;rw[q];rfl
 rw[this,F9]
def FY(t:Int)(es:List Edge):Nat:=es.countP fun e=>decide (e.block=t)
def S3(t:Int)(ls:List (List Edge)):Nat:=(ls.map (FY t)).sum
def Ld(t:Int)(bs:List Block):Nat:=S3 t (bs.map fun b=>b.term.to)
theorem wI:∀{l:List Nat} {k:Nat} {a:Nat},l[k]?=some a->∀v,(l.set k v).sum+a=l.sum+v
 | [],k,a,h,v=>by simp at h
 | x::l,0,a,h,v=>by
  simp only[Dh,AM]at h;subst h;simp only[OH,KH];omega
 | x::l,k+1,a,h,v=>by
  have:=wI (l:=l) (k:=k) (a:=a) Aa v;simp only[US,KH];omega
theorem vh(t:Int):∀{l:List Edge} {n:Nat} {x:Edge},l[n]?=some x->∀y,FY t (l.set n y)+(if x.block=t then 1 else 0)=FY t l+if y.block=t then 1 else 0
 | [],k,a,h,v=>by simp at h
 | x::l,0,a,h,v=>by
  simp only[Dh,AM]at h;subst h;unfold FY;simp only[OH,YE,Cp];omega
 | x::l,k+1,a,h,v=>by
  have:=vh t (l:=l) (n:=k) (x:=a) Aa v;unfold FY at this ⊢;simp only[US,YE];omega
theorem qfj(t:Int){ls:List (List Edge)}{k:Nat}{l:List Edge}(h:ls[k]?=some l)(m:List Edge):S3 t (ls.set k m)+FY t l=S3 t ls+FY t m:=by
 unfold S3;rw[QM];exact wI (by rw[Bv,h];rfl) _
theorem qeg{ls:List (List Int)}{e:Edge}(hj:j<ls.length)(he:0<=e.block):((Ka k ls e)[j]?.getD []).length=(ls[j]?.getD []).length+if e.block=(j:Int)then 1 else 0:=by
 unfold Ka;rw[FD];by_cases h:e.block.toNat=j
 ·rw[A9 h,h,A9 hj,A9 I,Fp,Bf];rfl
 rw[A4 h,A4 I];rfl
theorem v7{k:Nat}{j:Nat}:∀(es:List Edge) (ls:List (List Int)),j<ls.length->(∀e∈es,0<=e.block)->((LV k ls es)[j]?.getD []).length=(ls[j]?.getD []).length+FY (j:Int) es
 | [],ls,_,_=>rfl
 | e::r,ls,hj,he=>by
  show((LV k (Ka k ls e) r)[j]?.getD []).length=_;rw[v7 r (Ka k ls e) (by rw[su];exact hj) (fun x hx=>he x (Dw _ hx)),qeg hj (he e DQ)];unfold FY;simp only[YE,Cp];omega
theorem vC{j:Nat}:∀(bs:List Block) (k:Nat) (ls:List (List Int)),j<ls.length->(∀b∈bs,∀e∈b.term.to,0<=e.block)->((N3 k ls bs)[j]?.getD []).length=(ls[j]?.getD []).length+Ld (j:Int) bs
 | [],k,ls,_,_=>rfl
 | b::r,k,ls,hj,he=>by
  show((N3 (k+1) (LV k ls b.term.to) r)[j]?.getD []).length=_;rw[vC r (k+1) _ (by rw[kX];exact hj) (fun x hx=>he x (Dw _ hx)),v7 _ _ hj (he b DQ)];unfold Ld S3;simp only[Bc,KH];omega
theorem kY(he:∀b∈f.blocks,∀e∈b.term.to,0<=e.block){t:Int}(h0:0<=t)(h1:t<f.blocks.length):(UH f t).length=Ld t f.blocks:=by
 unfold UH Eb;rw[vC f.blocks 0 _ (by rw[OG];omega) he,YA,A9 I];rw[show((t.toNat:Nat):Int)=t from I];simp
def V9(t:Int)(S:Sp):Nat:=S3 t S.tos+Ld t S.news
structure SG(f:Func)(k n:Nat)(S:Sp):Prop where
 i:Tb f S
 rest:∀(j:Nat) b,f.blocks[j]?=some b->k<j->S.tos[j]?=some b.term.to
 cur:∀b l,f.blocks[k]?=some b->S.tos[k]?=some l->∀m,n<=m->l[m]?=b.term.to[m]?
 done:∀(j:Nat) b l,f.blocks[j]?=some b->S.tos[j]?=some l->∀(m:Nat) e,(j<k∨j=k∧m<n)->l[m]?=some e->(f.blocks.length:Int)<=e.block∨N' f j e=false
 Hf:∀t:Int,t<f.blocks.length->V9 t S=Ld t f.blocks
 new:∀i:Nat,i<S.news.length->V9 ((f.blocks.length+i:Nat):Int) S=1
 none:∀i:Nat,S.news.length<=i->V9 ((f.blocks.length+i:Nat):Int) S=0
theorem qfJ(hr:∀b∈f.blocks,∀e∈b.term.to,e.block<f.blocks.length):SG f 0 0 (Kp f) where
 i:=vP f
 rest:=fun j b h _=>by
  unfold Kp;rw[Bv,h];rfl
 cur:=fun b l h1 h2 m _=>by
  unfold Kp at h2;simp only[Bv,h1,FV,AM]at h2;rw[h2]
 done:=fun j b l _ _ m e h _=>I
 Hf:=fun t _=>J4 _
 new:=fun i h=>by simp[Kp]at h
 none:=fun i _=>by
  show S3 _ (f.blocks.map fun b=>b.term.to)+0=0;unfold S3;rw[J4];have:∀l∈f.blocks.map (fun b=>b.term.to),FY ((f.blocks.length+i:Nat):Int) l=0:=fun l hl=>by
   obtain⟨b,hb,rfl⟩:=List.mem_map.1 hl;unfold FY;rw[List.countP_eq_zero];intro e he;have:=hr b hb e he;simp only[Cp];omega
  generalize f.blocks.map (fun b=>b.term.to)=L at *;induction L with
  | nil=>rfl
  | cons a r ih =>
   rw[Bc,KH,this a DQ,ih fun l hl=>this l (Dw _ hl)]
theorem qhh{S:Sp}(h:SG f k n S)(hk:k<f.blocks.length)(hn:n<(Ea f (k:Int)).length):SG f k (n+1) (QH f k n S):=by
 obtain⟨b,hb⟩:∃b,f.blocks[k]?=some b:=⟨_,AY hk⟩
 have DM:Ea f (k:Int)=b.term.to:=by simp[Ea,A7,hb]
 obtain⟨l,hl⟩:∃l,S.tos[k]?=some l:=⟨S.tos[k]'(by rw[h.i.w.len];exact hk),AY _⟩
 obtain⟨x,hx⟩:∃x,(Ea f (k:Int))[n]?=some x:=⟨_,AY hn⟩
 have hi:=wG (k:=k) (n:=n) h.i;have XW:l[n]?=some x:=by rw[h.cur b l hb hl n (B6 _),<-DM,hx]
 have JA:=AE XW;unfold QH at hi ⊢;rw[hx]at hi ⊢;simp only at hi ⊢;by_cases hc:N' f k x=true
 ·rw[A9 hc]at hi ⊢;rw[hl,Fp]at hi ⊢;have BQ:∀t,V9 t ⟨S.tos.set k (l.set n ⟨((f.blocks.length+S.news.length:Nat):Int),[]⟩),S.news++[Gb x]⟩=V9 t S+if((f.blocks.length+S.news.length:Nat):Int)=t then 1 else 0:=fun t=>by
   have e1:=qfj t hl (l.set n ⟨((f.blocks.length+S.news.length:Nat):Int),[]⟩);have e2:=vh t XW ⟨((f.blocks.length+S.news.length:Nat):Int),[]⟩;have e3:Ld t (S.news++[Gb x])=Ld t S.news+if x.block=t then 1 else 0:=by
    unfold Ld S3;rw[Dx,Dx,pV];unfold Gb FY;simp only[Bc,Ed,KH,List.sum_nil,YE,List.countP_nil,Cp];omega
   unfold V9;simp only[e3];simp only at e2;omega
  refine⟨hi,fun j c h1 h2=>?_,fun c m h1 h2 z hz=>?_,fun j c m h1 h2 z e h3 h4=>?_,fun t ht=>?_,fun i hi=>?_,fun i hi=>?_⟩
  ·simp only;rw[Ap I];exact h.rest j c h1 h2
  ·simp only at h2;rw[Bb (AE hl)]at h2;simp only[AM]at h2;rw[<-h2,Ap I];exact h.cur c l h1 hl z I
  ·simp only at h2;rw[FD]at h2;split at h2
   ·rename_i hkj;subst hkj;rw[A9 (AE hl)]at h2;simp only[AM]at h2;rw[<-h2,FD]at h4;split at h4
    ·simp only[AM]at h4;rw[<-h4];exact .inl D6
    exact h.done k c l h1 hl z e I h4
   exact h.done j c m h1 h2 z e I h4
  ·rw[BQ,h.Hf t ht,A4 I];rfl
  ·rw[Bf,IU]at hi;rw[BQ];by_cases q:i=S.news.length
   ·subst q;rw[A9 rfl,h.none _ (B6 _)]
   rw[A4 I,h.new i I]
  rw[Bf,IU]at hi;rw[BQ,A4 I,h.none i I]
 rw[A4 hc]at hi ⊢;refine⟨h.i,h.rest,fun c m h1 h2 z hz=>h.cur c m h1 h2 z I,fun j c m h1 h2 z e h3 h4=>?_,h.Hf,h.new,h.none⟩;by_cases q:j=k∧z=n
 ·obtain⟨q1,q2⟩:=q;subst q1 q2;rw[hl]at h2;simp only[AM]at h2;subst h2;rw[XW]at h4;simp only[AM]at h4;subst h4;exact .inr (by simpa using hc)
 exact h.done j c m h1 h2 z e I h4
theorem y4{f:Func}{k:Nat}(hk:k<f.blocks.length):∀(m n:Nat) {S:Sp},n+m=(Ea f (k:Int)).length->SG f k n S->SG f k (n+m) (Vg f k m n S)
 | 0,n,S,_,h=>h
 | m+1,n,S,hm,h=>by
  rw[show n+(m+1)=n+1+m from I];exact y4 hk m (n+1) I (qhh h hk I)
theorem qhg{S:Sp}(h:SG f k (Ea f (k:Int)).length S):SG f (k+1) 0 S where
 i:=h.i
 rest:=fun j b h1 h2=>h.rest j b h1 I
 cur:=fun b l h1 h2 m _=>by
  rw[h.rest (k+1) b h1 I]at h2;simp only[AM]at h2;rw[h2]
 done:=fun j b l h1 h2 m e h3 h4=>by
  by_cases q:j=k
  ·subst q;have DM:Ea f (j:Int)=b.term.to:=by simp[Ea,A7,h1]
   have hw:=h.i.w.each j b l h1 h2;have:=AE h4;exact h.done j b l h1 h2 m e (.inr ⟨rfl,by rw[DM];omega⟩) h4
  exact h.done j b l h1 h2 m e I h4
 Hf:=h.Hf
 new:=h.new
 none:=h.none
theorem y5{f:Func}:∀(m k:Nat) {S:Sp},k+m=f.blocks.length->SG f k 0 S->SG f (k+m) 0 (spK f m k S)
 | 0,k,S,_,h=>h
 | m+1,k,S,hm,h=>by
  rw[show k+(m+1)=k+1+m from I];refine y5 m (k+1) I (qhg ?_);have:=y4 (f:=f) (k:=k) I (Ea f (k:Int)).length 0 (S:=S) I h
  rwa [Db]at this
theorem qir(hr:∀b∈f.blocks,∀e∈b.term.to,e.block<f.blocks.length):SG f f.blocks.length 0 (DI f):=by
 have:=y5 (f:=f) f.blocks.length 0 (S:=Kp f) I (qfJ hr)
 rwa [Db]at this
theorem xl:∀{bs:List Block} {tos:List (List Edge)},tos.length=bs.length->(List.zipWith Dq bs tos).map (fun b=>b.term.to)=tos
 | [],[],_=>rfl
 | b::bs,l::tos,h=>by
  have:=xl (bs:=bs) (tos:=tos) Aa;simp only[pG,Bc,this];rfl
 | [],l::tos,h=>by simp at h
 | b::bs,[],h=>MI
theorem qfL(f:Func)(t:Int):Ld t (DD f).blocks=V9 t (DI f):=by
 unfold V9 Ld DD;rw[Dx,xl (K5 f).w.len];unfold S3;rw[Dx,pV]
theorem uD(hg:FN f)(hg':FN (DD f)){k:Nat}{c:Block}(hc:(DD f).blocks[k]?=some c){e:Edge}(he:e∈c.term.to):N' (DD f) k e=false:=by
 have hr:∀b∈f.blocks,∀e∈b.term.to,e.block<f.blocks.length:=fun b hb e he=>(hg.DN b hb e he).2;have T:=qir hr;have Em:A7 (DD f) (k:Int)=c:=by
  unfold A7;rw[BH,hc];rfl
 have Ov:=hg'.DN c (AK hc) e he;have Qm:=kY (f:=DD f) (fun b hb e he=>by have:=hg'.DN b hb e he;omega) (t:=e.block) I Ov.2;rw[qfL]at Qm;unfold N';rw[Em];rcases SZ hc with⟨b,l,h1,h2,h3,h4⟩|⟨i,x,h1,h2,h3⟩
 ·subst h4;obtain⟨m,hm⟩:=List.mem_iff_getElem?.1 he;have hle:(Dq b l).term.to.length=b.term.to.length:=(K5 f).w.each k b l h2 h3;rcases T.done k b l h2 h3 m e (.inl h1) hm with q|q
  ·obtain⟨i,hi⟩:∃i:Nat,e.block=((f.blocks.length+i:Nat):Int):=⟨(e.block-f.blocks.length).toNat,I⟩
   have Fv:i<(DI f).news.length:=by
    have:=Ov.2;rw[U8]at this;omega
   have:(UH (DD f) e.block).length=1:=by rw[Qm,hi,T.new i Fv]
   rw[this];simp
  rcases Xm h2 h3 (e:=e) he with r|⟨i,x,r1,r2,r3⟩
  ·have hef:=hg.DN b (AK h2) e r;have hpf:=kY (f:=f) (fun b hb e he=>qA) (t:=e.block) I hef.2;have hbf:A7 f (k:Int)=b:=by
    unfold A7;rw[BH,h2];rfl
   unfold N' at q;rw[hbf]at q;rw[hle,Qm,T.Hf _ hef.2,<-hpf];exact q
  have Fv:=AE r2;have:(UH (DD f) e.block).length=1:=by rw[Qm,r1,T.new i Fv]
  rw[this];simp
 have:c.term.to.length=1:=by rw[h3.1];rfl
 rw[this];rfl
def O8(u:Ad):Ad:=⟨u.fns.map DD,u.main⟩
theorem Xt{u:Ad}{k:Int}(h0:0<=k)(h1:k<u.fns.length):AB (O8 u) k=DD (AB u k):=by
 unfold AB O8;rw[Bv,AY I];rfl
theorem uo{k:Int}(h0:0<=k)(h1:k<f.blocks.length):∃l,(DI f).tos[k.toNat]?=some l∧A7 (DD f) k=Dq (A7 f k) l:=by
 have hw:=(K5 f).w.len;have hl:(DI f).tos[k.toNat]?=some ((DI f).tos[k.toNat]' I):=AY _;refine⟨_,hl,?_⟩;have:=(ka (f:=f) (k:=k.toNat) I).2 ⟨_,_,K7 h0 h1,hl,rfl⟩
 conv=>lhs;unfold A7
 rw[this];rfl
section
variable {u:Ad} (AO:u.fit) (hc:GN u=0) (hm:∀f∈u.fns,f.blocks.length+(DI f).news.length<=128)
include AO hc hm
theorem qdp:(O8 u).fit:=by
 refine⟨AO.1,by unfold O8;rw[BE];exact AO.2.1,fun g hg=>?_⟩;obtain⟨f,hf,rfl⟩:=List.mem_map.1 hg;exact cr (AO.2.2 f hf) (hm f hf)
theorem adW{k:Int}(h0:0<=k)(h1:k<u.fns.length):(A7 (AB (O8 u) k) 0).params=(A7 (AB u k) 0).params:=by
 have hg:=tN AO hc (Nu h0 h1);have hn:=List.length_pos_iff.2 hg.ne;obtain⟨l,_,h⟩:=uo (f:=AB u k) (k:=0) I I;rw[Xt h0 h1,h];rfl
theorem qbH:GN (O8 u)=0:=by
 obtain⟨c1,c2,c3,c4,c5,c6⟩:=cT hc;have hl:(O8 u).fns.length=u.fns.length:=BE ..;have hmr:=within_iff.1 c3;refine qcj (by rw[hl];exact c1) (by rw[hl];exact c2) (by rw[hl];exact c3) (fun g hg=>?_) (by
  have:=adW AO hc hm (k:=u.main) I I;rw[show(O8 u).main=u.main from rfl,this];exact c5) (adm fun g hg b hb i hi=>?_)
 ·obtain⟨f,hf,rfl⟩:=List.mem_map.1 hg;exact cW (AO.2.2 f hf) (c4 f hf) (hm f hf)
 obtain⟨f,hf,rfl⟩:=List.mem_map.1 hg;obtain⟨k,hk⟩:=List.mem_iff_getElem?.1 hb;rcases SZ hk with⟨c,l,h1,h2,h3,h4⟩|⟨j,x,h1,h2,h3⟩
 ·have C5:=AK h2;have Bo:i∈c.ins:=by
   rw[h4]at hi;exact hi
  have nS:=ew (((Mp (AO.2.2 f hf) (c4 f hf)).blk _ C5).Yv i Bo);rw[qcZ (u:=u) hl (fun k h0 h1=>by rw[adW AO hc hm h0 h1]) (i:=i) rfl rfl rfl (fun q=>(nS.call I).1)];exact iD c6 f hf _ C5 i Bo
 rw[h3.1]at hi;cases hi
theorem qfK:Wt u (O8 u) (fun k=>k) (fun _ _=>True) (fun fn b=>0<=b∧b<(AB u fn).blocks.length) (fun _ b=>b) (fun _ _=>[]) 2:=by
 refine⟨BE ..,rfl,fun _ _ _ _ _ h=>h,fun fn h0 h1=>?_,fun fn b h0 h1 hL=>?_⟩
 ·have hg:=tN AO hc (Nu h0 h1);have:=List.length_pos_iff.2 hg.ne;exact⟨⟨I,I⟩,rfl,A6⟩
 have hf:=Nu h0 h1;have hg:=tN AO hc hf;obtain⟨l,hl,CN⟩:=uo hL.1 hL.2;have ZK:=K7 hL.1 hL.2;have hlen:=(K5 (AB u fn)).w.each _ _ _ ZK hl;have hold:=(K5 (AB u fn)).Hf _ _ _ ZK hl;rw[Xt h0 h1,CN];refine⟨⟨by rw[Y9];rfl,fun _ _=>trivial⟩,?_,fun _ _=>⟨trivial,fun _ _=>trivial⟩,fun i hi=>by simp at hi,⟨rfl,rfl,rfl,hlen⟩,fun _ _=>⟨rfl,trivial⟩,fun k e e' he Fu=>?_⟩
 ·show(A7 (AB u fn) b).ins=[]++(A7 (AB u fn) b).ins.map (SE fun k=>k);rw[HF]
  conv=>lhs;rw[<-List.map_id (A7 (AB u fn) b).ins]
  exact Rb fun i _=>(qks i).symm
 have Ov:=hg.DN _ (AK ZK) e (AK he);refine⟨⟨I,Ov.2⟩,fun _ _=>trivial,?_⟩;have yW:l[k]?=some e':=Fu;rcases hold k e he with q|⟨i,q1,q2⟩
 ·rw[yW]at q;simp only[AM]at q;rw[q];exact .inl ⟨rfl,by rw[Y9],A6⟩
 rw[yW]at q1;simp only[AM]at q1;have hC:A7 (DD (AB u fn)) e'.block=Gb e:=by
  rw[q1];unfold A7;simp only[BH];rw[tP,q2];rfl
 refine .inr ⟨_,e,rfl,?_,?_,?_,rfl,A6,fun es=>?_⟩
 ·rw[Xt h0 h1,hC];rfl
 ·rw[Xt h0 h1,hC];rfl
 ·rw[Xt h0 h1,hC];rfl
 rw[Xt h0 h1,hC,q1];have:C7 es (Gb e).params (BV es (⟨((AB u fn).blocks.length+i:Nat),[]⟩:Edge).args)=es:=rfl;rw[this,Y9];exact⟨rfl,fun _ _=>rfl⟩
end
theorem fJ:Bi 0:=by unfold Bi;omega
theorem qkI:Bi 1:=by unfold Bi;omega
theorem qfg:Bi 100:=by unfold Bi;omega
theorem qcO{P:Int->Prop}(Bg:P sp){l:List Mv}(hl:∀x∈l,P x.1∧P x.2):(∀x∈(M4 sp l).1,P x.1∧P x.2)∧∀x∈(M4 sp l).2,P x.1∧P x.2:=by
 have hbr:∀v y,(P y.1∧P y.2)->P (Iq v sp y).1∧P (Iq v sp y).2:=fun v y h=>by
  unfold Iq;split
  ·exact⟨h.1,Bg⟩
  exact h
 match l,hl with
 | [],_=>exact⟨fun x h=>NG,fun x h=>NG⟩
 | x0::r,hl =>
  unfold M4;simp only;split
  ·refine⟨fun x hx=>?_,fun x hx=>?_⟩
   ·have Bu:x∈((x0::r).map (Iq x0.1 sp)).tail:=hx;have:=iV Bu;obtain⟨y,hy,e⟩:=List.mem_map.1 this;rw[<-e];exact hbr _ _ (hl y hy)
   simp only[CL,GG,Di]at hx;rcases hx with rfl|rfl
   ·exact⟨Bg,(hl x0 DQ).1⟩
   exact hbr _ _ (hl x0 DQ)
  rename_i h;refine⟨fun x hx=>hl x (zw hx),fun x hx=>?_⟩;rcases Xo (Kv (x0::r)) (x0::r)with⟨e,_⟩|⟨j,y,e,hj,_,_⟩
  ·omega
  rw[e,BH,hj]at hx;simp only[Fp,CL,GG,Di]at hx;rw[hx];exact hl y (AK hj)
theorem tn{P:Int->Prop}{sp:Int}(Bg:P sp):∀(n:Nat) (l:List Mv),(∀x∈l,P x.1∧P x.2)->∀x∈M6 sp n l,P x.1∧P x.2
 | 0,_,_,x,hx=>by simp[M6]at hx
 | n+1,l,hl,x,hx=>by
  unfold M6 at hx;split at hx
  ·simp at hx
  obtain⟨h1,h2⟩:=qcO Bg hl;rcases List.mem_append.1 hx with q|q
  ·exact h2 x q
  exact tn Bg n _ h1 x q
theorem qgN{P:Int->Prop}(Bg:P sp){l:List Mv}(hl:∀x∈l,P x.1∧P x.2):∀x∈Qa l sp,P x.1∧P x.2 :=
 tn Bg _ _ fun x hx=>hl x (List.mem_filter.1 hx).1
theorem W5{Q Q':Nat->Block->Prop}{F:Block->Block}(h:∀j c,L[j]?=some c->Q j c)(h1:∀c,Q k c->Q' k (F c))(h2:∀j c,j≠k->Q j c->Q' j c):∀j c,(OQ L k F)[j]?=some c->Q' j c:=fun j c hj=>by
 unfold OQ at hj;split at hj
 ·rename_i b hb;rw[FD]at hj;split at hj
  ·rename_i e;subst e;rw[A9 (AE hb)]at hj;rw[<-HX hj];exact h1 b (h k b hb)
  rename_i e;exact h2 j c (fun q=>e q.symm) (h j c hj)
 rename_i hb;exact h2 j c (fun q=>by rw[q,hb]at hj;cases hj) (h j c hj)
theorem lZ(L:List Block)(k:Nat)(F:Block->Block):(OQ L k F).length=L.length:=by
 unfold OQ;split
 ·rw[B2]
 rfl
def Ft(c:Block):Prop:=It c.params∧c.params.length<=2 ^ 47∧(∀i∈c.ins,i.fit)∧c.term.fit
def Lq(g:Func)(k n m:Nat)(j:Nat)(c:Block):Prop:=∃b,g.blocks[j]?=some b∧c.term.to.map Edge.block=b.term.to.map Edge.block∧(∀i e,c.term.to[i]?=some e->j<k∨(j=k∧i<n)->e.args=[])∧Ft c∧c.ins.length<=m
variable {x:Edge}
section
variable {g:Func} {sp:Int} {k n m:Nat}
theorem qj0(b:Block)(h:∀j c,L[j]?=some c->Lq g k n m j c):∀j c,(Ii k b L)[j]?=some c->Lq g k n m j c:=by
 unfold Ii;split
 ·refine W5 h (fun c hq=>?_) fun j c _ q=>q;obtain⟨b,h1,h2,h3,⟨f1,f2,f3,t1,t2,t3,t4,t5,t6,t7⟩,h5⟩:=hq;exact⟨b,h1,h2,h3,⟨f1,f2,f3,qkI,fJ,fJ,fun v hv=>YO,H4 _,t6,t7⟩,h5⟩
 exact h
theorem qkz{cp:List Ins}(o:Bool)(hf:∀i∈cp,i.fit)(hl:cp.length<=8192)(h:∀j c,L[j]?=some c->Lq g k n m j c):∀j c,(QK o cp k x L)[j]?=some c->Lq g k n (m+8192) j c:=by
 have hm:∀(k':Nat) j c,j≠k'->Lq g k n m j c->Lq g k n (m+8192) j c:=fun k' j c _ ⟨b,h1,h2,h3,h4,h5⟩=>⟨b,h1,h2,h3,h4,I⟩
 unfold QK;split
 ·refine W5 h (fun c hq=>?_) (hm _);obtain⟨b,h1,h2,h3,⟨f1,f2,f3,f4⟩,h5⟩:=hq;refine⟨b,h1,h2,h3,⟨f1,f2,fun i hi=>?_,f4⟩,by simp[Yl];omega⟩;rcases List.mem_append.1 hi with q|q
  ·exact f3 i q
  exact hf i q
 refine W5 h (fun c hq=>?_) (hm _);obtain⟨b,h1,h2,h3,⟨f1,f2,f3,f4⟩,h5⟩:=hq;refine⟨b,h1,h2,h3,⟨f1,f2,fun i hi=>?_,f4⟩,by simp[Y3];omega⟩;rcases List.mem_append.1 hi with q|q
 ·exact hf i q
 exact f3 i q
theorem qiz(h:∀j c,L[j]?=some c->Lq g k n m j c):∀j c,(OQ L k (bR n))[j]?=some c->Lq g k (n+1) m j c:=by
 refine W5 h (fun c hq=>?_) fun j c hj ⟨b,h1,h2,h3,h4,h5⟩=>⟨b,h1,h2,fun i e he hi=>h3 i e he I,h4,h5⟩
 obtain⟨b,h1,h2,h3,⟨f1,f2,f3,t1,t2,t3,t4,t5,t6,t7⟩,h5⟩:=hq;have Qe:(c.term.to.set n ⟨(c.term.to[n]?.getD ⟨0,[]⟩).block,[]⟩).map Edge.block=c.term.to.map Edge.block:=by
  rw[QM];by_cases hn:n<c.term.to.length
  ·refine Sg ?_;rw[Bv,AY hn];rfl
  exact pf j4
 refine⟨b,h1,Qe.trans h2,fun i e he hi=>?_,⟨f1,f2,f3,t1,t2,t3,t4,t5,by simpa[bR,Dq]using t6,fun e he=>?_⟩,h5⟩
 ·have Fu:(c.term.to.set n ⟨(c.term.to[n]?.getD ⟨0,[]⟩).block,[]⟩)[i]?=some e:=he;rw[FD]at Fu;split at Fu
  ·split at Fu
   ·rw[<-HX Fu]
   cases Fu
  exact h3 i e Fu I
 have Fu:e∈c.term.to.set n ⟨(c.term.to[n]?.getD ⟨0,[]⟩).block,[]⟩:=he;rcases KE Fu with q|q
 ·exact t7 e q
 by_cases hn:n<c.term.to.length
 ·rw[q,AY hn];exact⟨(t7 _ (MG hn)).1,fun v hv=>YO,A6⟩
 rw[pf I]at Fu;exact t7 e Fu
theorem zP{b:Block}(Jq:∀x∈b.term.to,(∀i∈Io g x sp,i.fit)∧(Io g x sp).length<=8192):∀(r:List Edge) {n m:Nat} {L:List Block},(∀x∈r,x∈b.term.to)->(∀j c,L[j]?=some c->Lq g k n m j c)->∀j c,(Mb g sp k b n r L)[j]?=some c->Lq g k (n+r.length) (m+r.length*8192) j c
 | [],n,m,L,_,h=>by simpa[Mb]using h
 | x::r,n,m,L,hr,h=>by
  have hx:=Jq x (hr x DQ);have h1:=zP Jq r (fun y hy=>hr y (Dw _ hy)) (qiz (qkz (x:=x) (decide (b.term.to.length=1)) hx.1 hx.2 h));intro j c hj;have:=h1 j c hj;rw[CE,show n+(r.length+1)=n+1+r.length from I,show m+(r.length+1)*8192=m+8192+r.length*8192 from I];exact Cd
theorem zQ(Jq:∀b∈g.blocks,∀x∈b.term.to,(∀i∈Io g x sp,i.fit)∧(Io g x sp).length<=8192)(DM:∀b∈g.blocks,b.term.to.length<=257):∀(r:List Block) {k m:Nat} {L:List Block},r=g.blocks.drop k->(∀j c,L[j]?=some c->Lq g k 0 m j c)->∀j c,(K0 g sp k r L)[j]?=some c->Lq g (k+r.length) 0 (m+r.length*2105344) j c
 | [],k,m,L,_,h=>by simpa[K0]using h
 | b::r,k,m,L,hr,h=>by
  have hb:g.blocks[k]?=some b:=by
   have:=Dj (fun l=>l[0]?) hr;simp only[Dh,FC,J4]at this;exact this.symm
  have Pl:r=g.blocks.drop (k+1):=by
   rw[D9 hb]at hr;exact(List.cons.inj hr).2
  have C5:=AK hb;have h1:=zP (sp:=sp) (Jq b C5) b.term.to (fun x hx=>hx) (qj0 b h);have hl:=DM b C5;have h2:∀j c,(Mb g sp k b 0 b.term.to (Ii k b L))[j]?=some c->Lq g (k+1) 0 (m+2105344) j c:=fun j c hj=>by
   obtain⟨b',e1,e2,e3,e4,e5⟩:=h1 j c hj;refine⟨b',e1,e2,fun i e he hi=>e3 i e he ?_,e4,I⟩;rcases T3 j k with q|q
   ·exact JV
   have Qv:j=k:=I
   refine .inr ⟨Qv,?_⟩;rw[Qv,hb]at e1;have:=AE he;have hle:=Dj List.length e2;rw[BE,BE,<-HX e1]at hle;omega
  intro j c hj;have:=zQ Jq DM r Pl h2 j c hj;rw[CE,show k+(r.length+1)=k+1+r.length from I,show m+(r.length+1)*2105344=m+2105344+r.length*2105344 from I];exact Cd
end
theorem qj3(k:Nat)(b:Block)(L:List Block):(Ii k b L).length=L.length:=by
 unfold Ii;split
 ·exact lZ _ _ _
 rfl
theorem x6{g:Func}{sp:Int}{k:Nat}{b:Block}:∀(r:List Edge) (n:Nat) (L:List Block),(Mb g sp k b n r L).length=L.length
 | [],_,_=>rfl
 | x::r,n,L=>by
  rw[Mb,x6 r,kU,lZ,QK];split<;>exact lZ _ _ _
theorem m5{g:Func}{sp:Int}:∀(r:List Block) (k:Nat) (L:List Block),(K0 g sp k r L).length=L.length
 | [],_,_=>rfl
 | b::r,k,L=>by rw[K0,m5 r,x6,qj3]
structure RW(g G:Func):Prop where
 len:G.blocks.length=g.blocks.length
 blk:∀(j:Nat) c,G.blocks[j]?=some c->∃b,g.blocks[j]?=some b∧c.term.to.map Edge.block=b.term.to.map Edge.block∧(∀e∈c.term.to,e.args=[])∧(0<j->c.params=[])
 fit:G.fit
theorem qdL(AO:g.fit)(hv:XH g){sp:Int}(Bg:∀v∈G8 g,v<sp)(Of:Bi sp)(OW:∀b∈g.blocks,b.ins.length<=1024):RW g (RS g sp):=by
 have hg:=hv.fn.gr;have Jq:∀b∈g.blocks,∀x∈b.term.to,(∀i∈Io g x sp,i.fit)∧(Io g x sp).length<=8192:=fun b hb x hx=>by
  have hM:=mD hv Bg hb hx;refine⟨fun i hi=>?_,sV hM⟩;unfold Io at hi;obtain⟨y,hy,rfl⟩:=List.mem_map.1 hi;have Em:A7 g x.block∈g.blocks:=M' hM.blk.1 hM.blk.2;have hz:∀x'∈HM g x,Bi x'.1∧Bi x'.2:=fun x' Bu=>by
   have h1:=il (a:=x'.1) (b:=x'.2) Bu;exact⟨(AO.2.2 _ Em).1 _ h1.1,((AO.2.2 _ hb).2.2.2.2.2.2.2.2.2.2 x hx).2.1 _ h1.2⟩
  have:=qgN Of hz y hy;exact⟨this.1,qfg,fJ,fun v hv=>by
   simp only[NV,CL,GG,Di]at hv;rw[hv];exact this.2,by simp[NV]⟩
 have h0:∀j c,g.blocks[j]?=some c->Lq g 0 0 1024 j c:=fun j c hj=>by
  obtain⟨f1,f2,f3,f4,f5⟩:=AO.2.2 c (AK hj);exact⟨c,hj,rfl,fun i e _ hi=>I,⟨f1,f2,f4,f5⟩,OW c (AK hj)⟩
 have hK:=zQ (sp:=sp) Jq hg.to g.blocks (k:=0) A6 h0;have hKl:=m5 (g:=g) (sp:=sp) g.blocks 0 g.blocks;have FP:∀(j:Nat) c,(RS g sp).blocks[j]?=some c->∃c0,(K0 g sp 0 g.blocks g.blocks)[j]?=some c0∧c=if j=0 then c0 else Uw c0:=fun j c hj=>by
  have CK:(M5 0 (K0 g sp 0 g.blocks g.blocks))[j]?=some c:=hj;have Ff:=AE CK;rw[RK]at Ff;have ID:(K0 g sp 0 g.blocks g.blocks)[j]?=some ((K0 g sp 0 g.blocks g.blocks)[j]'Ff):=AY _;have:=kV (k:=0) ID;rw[Db,CK]at this;exact⟨_,ID,HX this⟩
 have NK:=hg.few;exact {
  len:=(RK 0 _).trans hKl
  blk:=fun j c hj=>by
   obtain⟨c0,h1,h2⟩:=FP j c hj;obtain⟨b,e1,e2,e3,e4,e5⟩:=hK j c0 h1;have Ff:=AE e1;have DM:c.term=c0.term:=by
    rw[h2];split<;>rfl
   refine⟨b,e1,by rw[DM];exact e2,fun e he=>?_,fun hj0=>?_⟩
   ·rw[DM]at he;obtain⟨i,hi⟩:=List.mem_iff_getElem?.1 he;exact e3 i e hi (.inl I)
   rw[h2,A4 I];rfl
  fit:=⟨AO.1,by
   show(M5 0 _).length<=_;rw[RK,hKl];omega,fun c hc=>by
   obtain⟨j,hj⟩:=List.mem_iff_getElem?.1 hc;obtain⟨c0,h1,h2⟩:=FP j c hj;obtain⟨b,e1,e2,e3,⟨f1,f2,f3,f4⟩,e5⟩:=hK j c0 h1;have hi:c.ins=c0.ins∧c.term=c0.term:=by
    rw[h2];split<;>exact⟨rfl,rfl⟩
   have hp:It c.params∧c.params.length<=2 ^ 47:=by
    rw[h2];split
    ·exact⟨f1,f2⟩
    exact⟨fun v hv=>YO,by simp[Uw]⟩
   exact⟨hp.1,hp.2,by rw[hi.1];omega,by rw[hi.1];exact f3,by rw[hi.2];exact f4⟩⟩ }
def N2(b:Block):List Edge:=if b.term.to.length=1 then []else b.term.to
def ME(g:Func):List Edge:=g.blocks.flatMap N2
def QY(g:Func)(sp:Int)(done:List Edge)(j:Nat):List Ins:=((done.filter fun e=>decide (e.block.toNat=j)).reverse).flatMap fun e=>Io g e sp
def Wp(g:Func)(sp:Int)(b:Block):List Ins:=if b.term.to.length=1 then Io g (b.term.to[0]?.getD ⟨0,[]⟩) sp else []
def TS(t:Term):Int×Int×Int×List Int:=(t.kind,t.arg,t.n,t.cases)
def V6(b:Block):Int×Int×Int×List Int:=if b.term.kind=3∧b.term.to.length=1 then(1,0,0,[])else TS b.term
def Cq(g:Func)(sp:Int)(done:List Edge)(t p j:Nat)(c:Block):Prop:=∃b,g.blocks[j]?=some b∧c.params=b.params∧c.ins=QY g sp done j++(b.ins++(if j<p then Wp g sp b else [])) ∧
 c.term.to.map Edge.block=b.term.to.map Edge.block∧TS c.term=if j<t then V6 b else TS b.term
section
variable {g:Func} {sp:Int} {done:List Edge} {k t p:Nat}
theorem qhp{b:Block}(hb:g.blocks[k]?=some b)(h:∀j c,L[j]?=some c->Cq g sp done k p j c):∀j c,(Ii k b L)[j]?=some c->Cq g sp done (k+1) p j c:=by
 have AN:∀j c,j≠k->Cq g sp done k p j c->Cq g sp done (k+1) p j c:=fun j c hj ⟨b',h1,h2,h3,h4,h5⟩=>⟨b',h1,h2,h3,h4,by
  rw[h5];by_cases q:j<k
  ·rw[A9 q,A9 I]
  rw[A4 q,A4 I]⟩
 unfold Ii;split
 ·rename_i q;refine W5 h (fun c hq=>?_) AN;obtain⟨b',h1,h2,h3,h4,h5⟩:=hq;rw[hb]at h1;have:=HX h1;subst this;refine⟨b,hb,h2,h3,h4,?_⟩;rw[A9 I,V6,A9 q];rfl
 rename_i q;intro j c hj;by_cases Qv:j=k
 ·subst Qv;obtain⟨b',h1,h2,h3,h4,h5⟩:=h j c hj;rw[hb]at h1;have:=HX h1;subst this;refine⟨b,hb,h2,h3,h4,?_⟩;rw[h5,A4 I,A9 I,V6,A4 q]
 exact AN j c Qv (h j c hj)
theorem wu(h:∀j c,L[j]?=some c->Cq g sp done t p j c):∀j c,(OQ L k (bR n))[j]?=some c->Cq g sp done t p j c:=by
 refine W5 h (fun c hq=>?_) fun j c _ q=>q;obtain⟨b,h1,h2,h3,h4,h5⟩:=hq;refine⟨b,h1,h2,h3,?_,h5⟩;have Qe:(c.term.to.set n ⟨(c.term.to[n]?.getD ⟨0,[]⟩).block,[]⟩).map Edge.block=c.term.to.map Edge.block:=by
  rw[QM];by_cases hn:n<c.term.to.length
  ·refine Sg ?_;rw[Bv,AY hn];rfl
  exact pf j4
 exact Qe.trans h4
theorem qjz{b:Block}(hb:g.blocks[k]?=some b)(hx:b.term.to=[x])(h:∀j c,L[j]?=some c->Cq g sp done t k j c):∀j c,(OQ L k (Yl (Io g x sp)))[j]?=some c->Cq g sp done t (k+1) j c:=by
 refine W5 h (fun c hq=>?_) fun j c hj ⟨b',h1,h2,h3,h4,h5⟩=>⟨b',h1,h2,by
  rw[h3];by_cases q:j<k
  ·rw[A9 q,A9 I]
  rw[A4 q,A4 I],h4,h5⟩
 obtain⟨b',h1,h2,h3,h4,h5⟩:=hq;rw[hb]at h1;have:=HX h1;subst this;refine⟨b,hb,h2,?_,h4,h5⟩;show c.ins++Io g x sp=_;rw[h3,A4 I,A9 I,Wp,hx];simp
theorem qfk(h:∀j c,L[j]?=some c->Cq g sp done t p j c):∀j c,(OQ L x.block.toNat (Y3 (Io g x sp)))[j]?=some c->Cq g sp (done++[x]) t p j c:=by
 refine W5 h (fun c hq=>?_) fun j c hj ⟨b',h1,h2,h3,h4,h5⟩=>⟨b',h1,h2,by
  rw[h3];congr 1;unfold QY;rw[UT,List.filter_cons_of_neg (by simpa using fun q=>hj q.symm)];simp,h4,h5⟩
 obtain⟨b',h1,h2,h3,h4,h5⟩:=hq;refine⟨b',h1,h2,?_,h4,h5⟩;show Io g x sp++c.ins=_;rw[h3];unfold QY;rw[UT,List.filter_cons_of_pos A6];simp
theorem wv{b:Block}(Xf:b.term.to.length≠1):∀(r:List Edge) {n:Nat} {done:List Edge} {L:List Block},(∀j c,L[j]?=some c->Cq g sp done t p j c)->∀j c,(Mb g sp k b n r L)[j]?=some c->Cq g sp (done++r) t p j c
 | [],n,done,L,h=>by simpa[Mb]using h
 | x::r,n,done,L,h=>by
  rw[show done++x::r=(done++[x])++r from A6];refine wv Xf r ?_;refine wu ?_;rw[Ac Xf];exact qfk h
theorem yp:∀(r:List Block) {k:Nat} {done:List Edge} {L:List Block},r=g.blocks.drop k->(∀j c,L[j]?=some c->Cq g sp done k k j c)->∀j c,(K0 g sp k r L)[j]?=some c->Cq g sp (done++r.flatMap N2) (k+r.length) (k+r.length) j c
 | [],k,done,L,_,h=>by simpa[K0]using h
 | b::r,k,done,L,hr,h=>by
  have hb:g.blocks[k]?=some b:=by
   have:=Dj (fun l=>l[0]?) hr;simp only[Dh,FC,J4]at this;exact this.symm
  have Pl:r=g.blocks.drop (k+1):=by
   rw[D9 hb]at hr;exact(List.cons.inj hr).2
  have h1:=qhp hb h;have h2:∀j c,(Mb g sp k b 0 b.term.to (Ii k b L))[j]?=some c->Cq g sp (done++N2 b) (k+1) (k+1) j c:=by
   by_cases q:b.term.to.length=1
   ·obtain⟨x,hx⟩:=List.length_eq_one_iff.1 q;have h3:=wu (k:=k) (n:=0) (qjz hb hx h1);rw[N2,A9 q,F9];intro j c hj;refine h3 j c ?_;rw[hx]at hj;simp only[Mb,kU,QK]at hj;rw[q]at hj;exact hj
   have h3:=wv (k:=k) q b.term.to (n:=0) h1;rw[N2,A4 q];intro j c hj;obtain⟨b',e1,e2,e3,e4,e5⟩:=h3 j c hj;refine⟨b',e1,e2,?_,e4,e5⟩;rw[e3];congr 2;by_cases w:j<k
   ·rw[A9 w,A9 I]
   rw[A4 w];by_cases w2:j<k+1
   ·have Qv:j=k:=I
    subst Qv;rw[hb]at e1;have:=HX e1;subst this;rw[A9 w2,Wp,A4 q]
   rw[A4 w2]
  have h3:=yp r Pl h2;intro j c hj;have:=h3 j c hj;rw[CE,GF,<-Ez,show k+(r.length+1)=k+1+r.length from I];exact Cd
end
theorem qau(hj:(RS g sp).blocks[j]?=some c):∃b,g.blocks[j]?=some b∧c.params=(if j=0 then b.params else [])∧c.ins=QY g sp (ME g) j++(b.ins++Wp g sp b)∧c.term.to.map Edge.block=b.term.to.map Edge.block∧TS c.term=V6 b:=by
 have h0:∀j c,g.blocks[j]?=some c->Cq g sp [] 0 0 j c:=fun j c hj=>⟨c,hj,rfl,by simp[QY],rfl,by rw[A4 I]⟩
 have hK:=yp (sp:=sp) g.blocks (k:=0) A6 h0;have CK:(M5 0 (K0 g sp 0 g.blocks g.blocks))[j]?=some c:=hj;have Ff:=AE CK;rw[RK]at Ff;have ID:(K0 g sp 0 g.blocks g.blocks)[j]?=some ((K0 g sp 0 g.blocks g.blocks)[j]'Ff):=AY _;have:=kV (k:=0) ID;rw[Db,CK]at this;have Hg:=HX this;generalize (K0 g sp 0 g.blocks g.blocks)[j]'Ff=c0 at ID Hg;obtain⟨b,e1,e2,e3,e4,e5⟩:=hK j c0 ID;have hjb:=AE e1;rw[Db,HF,A9 hjb]at e3;rw[Db,A9 hjb]at e5;refine⟨b,e1,?_,?_,?_,?_⟩
 ·rw[Hg];by_cases q:j=0
  ·rw[A9 q,A9 q];exact e2
  rw[A4 q,A4 q];rfl
 ·rw[Hg];split<;>exact e3
 ·rw[Hg];split<;>exact e4
 rw[Hg];split<;>exact e5
def Ux(b:Block):List Edge:=if b.term.to.length=1 then b.term.to else []
theorem uO(t:Int):∀bs:List Block,FY t (bs.flatMap N2)+FY t (bs.flatMap Ux)=Ld t bs
 | []=>rfl
 | b::r=>by
  have ih:=uO t r;have e:Ld t (b::r)=FY t b.term.to+Ld t r:=rfl;have a1:FY t ((b::r).flatMap N2)=FY t (N2 b)+FY t (r.flatMap N2):=by
   rw[GF];exact Zt
  have a2:FY t ((b::r).flatMap Ux)=FY t (Ux b)+FY t (r.flatMap Ux):=by
   rw[GF];exact Zt
  have a3:FY t (N2 b)+FY t (Ux b)=FY t b.term.to:=by
   unfold N2 Ux;by_cases q:b.term.to.length=1
   ·rw[A9 q,A9 q];show 0+_=_;omega
   rw[A4 q,A4 q];show _+0=_;omega
  omega
theorem ql1(hg:FN g)(hs:∀(k:Nat) c,g.blocks[k]?=some c->∀e∈c.term.to,N' g k e=false){k:Nat}{b:Block}(hb:g.blocks[k]?=some b){e:Edge}(he:e∈b.term.to) :
  (b.term.to.length=1->QY g sp (ME g) e.block.toNat=[])∧(b.term.to.length≠1->QY g sp (ME g) e.block.toNat=Io g e sp):=by
 have C5:=AK hb;have hr:=hg.DN b C5 e he;have JK:∀x∈ME g,1<=x.block:=fun x hx=>by
  obtain⟨c,hc,JB⟩:=List.mem_flatMap.1 hx;unfold N2 at JB;split at JB
  ·cases JB
  exact(hg.DN c hc x JB).1
 have yc:(ME g).filter (fun x=>decide (x.block.toNat=e.block.toNat))=(ME g).filter fun x=>decide (x.block=e.block):=by
  refine ia fun x hx=>?_;have:=JK x hx;by_cases q:x.block=e.block
  ·rw[Ar q,Ar (by rw[q])]
  rw[Ac q,Ac I]
 have xa:∀x∈ME g,x.block=e.block->Ld e.block g.blocks<=1:=fun x hx Lu=>by
  obtain⟨c,hc,JB⟩:=List.mem_flatMap.1 hx;unfold N2 at JB;split at JB
  ·cases JB
  rename_i q;obtain⟨j,hj⟩:=List.mem_iff_getElem?.1 hc;have RB:=hs j c hj x JB;unfold N' at RB;have Pf:A7 g (j:Int)=c:=by simp[A7,hj]
  have hl:2<=c.term.to.length:=by
   have:=pH JB;omega
  rw[Pf,Ar hl,PA,Kf,Lu]at RB;rw[kY (fun b hb e he=>qA) I hr.2]at RB;omega
 have VJ:=uO e.block g.blocks;have hlen:((ME g).filter fun x=>decide (x.block=e.block)).length=FY e.block (ME g):=(zm ..).symm;refine⟨fun q=>?_,fun q=>?_⟩
 ·have Pp:1<=FY e.block (g.blocks.flatMap Ux):=by
   have:0<(g.blocks.flatMap Ux).countP fun x=>decide (x.block=e.block):=List.countP_pos_iff.2 ⟨e,List.mem_flatMap.2 ⟨b,C5,by rw[Ux,A9 q];exact he⟩,A6⟩;exact Cd
  have h0:(ME g).filter (fun x=>decide (x.block=e.block))=[]:=by
   rw[aa1];intro x hx Lu;have h1:=xa x hx (by simpa using Lu);have h2:0<FY e.block (ME g):=List.countP_pos_iff.2 ⟨x,hx,Lu⟩;unfold ME at h2;omega
  unfold QY;rw[yc,h0];rfl
 have Lm:e∈ME g:=List.mem_flatMap.2 ⟨b,C5,by rw[N2,A4 q];exact he⟩;have h1:=xa e Lm rfl;have G2:e∈(ME g).filter fun x=>decide (x.block=e.block):=List.mem_filter.2 ⟨Lm,A6⟩;have TQ:(ME g).filter (fun x=>decide (x.block=e.block))=[e]:=by
  have KP:((ME g).filter fun x=>decide (x.block=e.block)).length=1:=by
   have:=pH G2;unfold ME at hlen this ⊢;omega
  obtain⟨y,hy⟩:=List.length_eq_one_iff.1 KP;rw[hy]at G2 ⊢;rw[List.mem_singleton.1 G2]
 unfold QY;rw[yc,TQ];simp
theorem qj8(hg:FN g):QY g sp (ME g) 0=[]:=by
 have h0:(ME g).filter (fun x=>decide (x.block.toNat=0))=[]:=by
  rw[aa1];intro x hx Lu;obtain⟨c,hc,JB⟩:=List.mem_flatMap.1 hx;unfold N2 at JB;split at JB
  ·cases JB
  have:=hg.DN c hc x JB;simp at Lu;omega
 unfold QY;rw[h0];rfl
section
variable {V:Type}
def Qh(e:Int->V)(k:Int)(v:V):Int->V:=fun j=>if j=k then v else e j
def JJ:List Mv->(Int->V)->(Int->V)
 | [],e=>e
 | x::r,e=>JJ r (Qh e x.1 (e x.2))
theorem vI:∀(a b:List Mv) (e:Int->V),JJ (a++b) e=JJ b (JJ a e)
 | [],_,_=>rfl
 | x::a,b,e=>vI a b _
def MvS(spare:Int)(l:List Mv)(e e':Int->V):Prop:=(∀x∈l,e' x.1=e x.2)∧∀k,k≠spare->(∀x∈l,x.1≠k)->e' k=e k
theorem uB:∀{l m:List Int},l.Nodup->(∀x∈l,x∈m)->l.length<=m.length
 | [],_,_,_=>by simp
 | a::r,m,hn,hs=>by
  obtain⟨h1,h2⟩:=List.nodup_cons.1 hn;have ha:=hs a DQ;have:=uB (l:=r) (m:=m.erase a) h2 fun x hx=>(aaB (fun q=>h1 (by rw[<-q];exact hx))).2 (hs x (Dw _ hx));rw[pF ha]at this;have:=pH ha;exact kL
structure fb(spare:Int)(l:List Mv):Prop where
 nodup:(l.map Prod.fst).Nodup
 self:∀x∈l,x.1≠x.2
 sp:∀x∈l,x.1≠spare
theorem qdi{spare:Int}{l:List Mv}(h:fb spare l)(AT:l≠[])(e:Int->V) :
  fb spare (M4 spare l).1∧∀e',MvS spare (M4 spare l).1 (JJ (M4 spare l).2 e) e'->MvS spare l e e':=by
 match l,h,AT with
 | x0::r,h,_ =>
  unfold M4;simp only;split
  ·rename_i hi;rcases Xo (Kv (x0::r)) (x0::r)with⟨_,Qx⟩|⟨j,y,q,_⟩
   ·have qm3:∀x∈x0::r,∃y∈x0::r,y.2=x.1:=fun x hx=>by
     have:=Qx x hx;unfold Kv at this;rw[Bool.not_eq_false',dF]at this;obtain⟨y,hy,q⟩:=this;exact⟨y,hy,dS⟩
    have gI:∀x∈x0::r,x.2≠spare:=fun x hx q=>by
     have ED:spare∈(x0::r).map Prod.snd:=List.mem_map.2 ⟨x,hx,q⟩;have:=uB (l:=(x0::r).map Prod.fst) (m:=((x0::r).map Prod.snd).erase spare) h.nodup fun v hv=>by
      obtain⟨z,hz,rfl⟩:=List.mem_map.1 hv;obtain⟨y,hy,q2⟩:=qm3 z hz;exact(aaB (h.sp z hz)).2 (List.mem_map.2 ⟨y,hy,q2⟩)
     rw[pF ED,BE,BE]at this;simp only[CE]at this;omega
    have Pt:=DQ (a:=x0) (l:=r);have hb0:Iq x0.1 spare x0=x0:=by
     unfold Iq;rw[A4 (fun q=>h.self x0 Pt q.symm)]
    obtain⟨F7,Ib⟩:=List.nodup_cons.1 h.nodup;rw[Bc,iq,hb0];have S5:∀y,(Iq x0.1 spare y).1=y.1:=fun y=>by
     unfold Iq;split<;>rfl
    refine⟨⟨?_,fun x hx=>?_,fun x hx=>?_⟩,fun e' hS=>⟨fun x hx=>?_,fun k hk Fg=>?_⟩⟩
    ·have:(r.map (Iq x0.1 spare)).map Prod.fst=r.map Prod.fst:=by
      rw[HV];exact Rb fun y _=>S5 y
     rw[this];exact Ib
    ·obtain⟨y,hy,rfl⟩:=List.mem_map.1 hx;have H8:=Dw x0 hy;rw[S5];unfold Iq;split
     ·exact h.sp y H8
     exact h.self y H8
    ·obtain⟨y,hy,rfl⟩:=List.mem_map.1 hx;rw[S5];exact h.sp y (Dw x0 hy)
    ·obtain⟨s1,s2⟩:=hS;have h0s:=h.sp x0 Pt;rcases List.mem_cons.1 hx with rfl|hxr
     ·rw[s2 x.1 h0s fun z hz=>by
       obtain⟨y,hy,rfl⟩:=List.mem_map.1 hz;rw[S5];exact fun q=>F7 (List.mem_map.2 ⟨y,hy,q⟩)]
      simp only[JJ,Qh,↓reduceIte];rw[A4 (gI x hx)]
     have h1:=s1 _ (List.mem_map.2 ⟨x,hxr,rfl⟩);rw[S5]at h1;by_cases q:x.2=x0.1
     ·have hb:Iq x0.1 spare x=(x.1,spare):=A9 q;rw[h1,hb];simp only[JJ,Qh];rw[A4 (fun z=>h0s z.symm),q];simp
     have hb:Iq x0.1 spare x=x:=A4 q;rw[h1,hb];simp only[JJ,Qh];rw[A4 q,A4 (gI x hx)]
    obtain⟨s1,s2⟩:=hS;rw[s2 k hk fun z hz=>by
     obtain⟨y,hy,rfl⟩:=List.mem_map.1 hz;rw[S5];exact Fg y (Dw x0 hy)]
    simp only[JJ,Qh];rw[A4 (fun q=>Fg x0 Pt q.symm),A4 hk]
   omega
  rename_i hi;rcases Xo (Kv (x0::r)) (x0::r)with⟨q,_⟩|⟨j,x,q,hj,nT,_⟩
  ·omega
  rw[q,BH,hj];simp only[Fp];have KU:=AK hj;have hnr:∀y∈x0::r,y.2≠x.1:=fun y hy z=>by
   unfold Kv at nT;rw[OI,List.any_eq_false]at nT;exact nT y hy (by simpa using z)
  generalize x0::r=l at *;have Ff:=AE hj;have mr:∀y∈l,y=x∨y∈l.eraseIdx j:=fun y hy=>by
   obtain⟨i,hi⟩:=List.mem_iff_getElem?.1 hy;by_cases F4:i=j
   ·rw[F4,hj]at hi;exact .inl (HX hi).symm
   refine .inr ?_;rcases pR F4 with z|z
   ·exact AK (i:=i) (by rw[pI,A9 z];exact hi)
   exact AK (i:=i-1) (by rw[pI,A4 I,show i-1+1=i from I];exact hi)
  have hxo:∀y∈l.eraseIdx j,y.1≠x.1:=fun y hy z=>by
   obtain⟨i,hi⟩:=List.mem_iff_getElem?.1 hy;rw[pI]at hi;have Oh:(l.map Prod.fst)[j]?=some x.1:=by rw[Bv,hj];rfl
   split at hi
   ·rename_i w;have:(l.map Prod.fst)[i]?=some x.1:=by rw[Bv,hi,<-z];rfl
    have:=(dD (AE this) h.nodup).1 (this.trans Oh.symm);omega
   rename_i w;have:(l.map Prod.fst)[i+1]?=some x.1:=by rw[Bv,hi,<-z];rfl
   have:=(dD (AE this) h.nodup).1 (this.trans Oh.symm);omega
  have HS:∀y∈l.eraseIdx j,y∈l:=fun y hy=>zw hy;refine⟨⟨?_,fun y hy=>h.self y (HS y hy),fun y hy=>h.sp y (HS y hy)⟩,fun e' hS=>⟨fun y hy=>?_,fun k hk Fg=>?_⟩⟩
  ·exact((List.eraseIdx_sublist l j).map Prod.fst).nodup h.nodup
  ·obtain⟨s1,s2⟩:=hS;rcases mr y hy with z|z
   ·rw[z,s2 x.1 (h.sp x KU) hxo];simp[JJ,Qh]
   rw[s1 y z];simp only[JJ,Qh];rw[A4 (hnr y hy)]
  obtain⟨s1,s2⟩:=hS;rw[s2 k hk fun y hy=>Fg y (HS y hy)];simp only[JJ,Qh];rw[A4 (fun z=>Fg x KU z.symm)]
theorem vM{spare:Int}:∀(n:Nat) (l:List Mv),l.length<=n->fb spare l->∀e:Int->V,MvS spare l e (JJ (M6 spare n l) e)
 | 0,l,hn,_,e=>by
  have:l=[]:=List.length_eq_zero_iff.1 I;subst this;exact⟨fun x hx=>WO,fun k _ _=>rfl⟩
 | n+1,l,hn,h,e=>by
  unfold M6;split
  ·rename_i q;subst q;exact⟨fun x hx=>WO,fun k _ _=>rfl⟩
  rename_i AT;obtain⟨w1,w2⟩:=qdi h AT e;have hl:=(aeq spare AT).1;rw[vI];exact w2 _ (vM n _ I w1 _)
theorem qif{spare:Int}{l:List Mv}(hn:(l.map Prod.fst).Nodup)(hs:∀x∈l,x.1≠spare)(e:Int->V):MvS spare l e (JJ (Qa l spare) e):=by
 have hd:∀x∈FK l,x∈l∧x.1≠x.2:=fun x hx=>by
  obtain⟨h1,h2⟩:=List.mem_filter.1 hx;exact⟨h1,KI⟩
 have hW:fb spare (FK l):=⟨(List.filter_sublist.map Prod.fst).nodup hn,fun x hx=>(hd x hx).2,fun x hx=>hs x (hd x hx).1⟩
 obtain⟨s1,s2⟩:=vM l.length (FK l) (cz ..) hW e;refine⟨fun x hx=>?_,fun k hk Fg=>s2 k hk fun x hx=>Fg x (hd x hx).1⟩;by_cases q:x.1=x.2
 ·have Qx:∀y∈FK l,y.1≠x.1:=fun y hy z=>by
   obtain⟨i,hi⟩:=List.mem_iff_getElem?.1 hx;obtain⟨j,hj⟩:=List.mem_iff_getElem?.1 (hd y hy).1;have h1:(l.map Prod.fst)[i]?=some x.1:=jR
   have h2:(l.map Prod.fst)[j]?=some x.1:=by rw[Bv,hj,<-z];rfl
   have F4:=(dD (AE h1) hn).1 (h1.trans h2.symm);rw[F4,hj]at hi;rw[HX hi]at hy;exact(hd x hy).2 q
  show JJ (M6 spare l.length (FK l)) e x.1=e x.2;rw[s2 x.1 (hs x hx) Qx,q]
 exact s1 x (List.mem_filter.2 ⟨hx,dS⟩)
end
section
variable (u v:Ad) (D:Int->Int->Prop) (pre post:Int->Int->List Ins) (c:Int)
def VS(D:Int->Prop)(es es':List (Int×SV)):Prop:=∀k,D k->Bq es' k=Bq es k
structure qkw(fn b:Int):Prop where
 ins:(A7 (AB v fn) b).ins=pre fn b++((A7 (AB u fn) b).ins++post fn b)
 vals:∀i∈(A7 (AB u fn) b).ins,D fn i.to∧∀a∈i.args,D fn a
 VO:(A7 (AB u fn) b).term.kind=4->post fn b=[]∧(A7 (AB v fn) b).term.kind=4∧(A7 (AB v fn) b).term.n=(A7 (AB u fn) b).term.n
 ret:(A7 (AB u fn) b).term.kind=0->post fn b=[]∧(A7 (AB v fn) b).term.kind=0∧(A7 (AB v fn) b).term.arg=(A7 (AB u fn) b).term.arg∧D fn (A7 (AB u fn) b).term.arg
def ff(t:Term)(es:List (Int×SV))(e:Edge):Prop:=(t.kind=1∧t.to[0]?=some e)∨(t.kind≠0∧t.kind≠1∧t.kind≠4∧(Bq es t.arg).kind=0∧t.to[K3 t (Bq es t.arg).n]?=some e)
def Way(fn b:Int):Prop:=∀(es es':List (Int×SV)) (e:Edge),VS (D fn) es es'->ff (A7 (AB u fn) b).term es e->∃(n:Nat) (Rz:List (Int×SV)),1<=n∧(n:Int)<=c ∧
 VS (D fn) (C7 es (A7 (AB u fn) e.block).params (BV es e.args)) Rz∧(0<=e.block∧e.block<(AB u fn).blocks.length) ∧
 ∀(m:Mach) (f':Fr) (r':List Fr) (l:Int),m.over=false->m.short=false->(n:Int)<=l->f'.fn=fn->f'.blk=b->f'.pos=(pre fn b).length+(A7 (AB u fn) b).ins.length->f'.vals=es' ->
  Mach.Steps v n (m.put (f'::r') l) (m.put ({ f' with blk:=e.block,pos:=(pre fn e.block).length,vals:=Rz }::r') (l-n))
structure bQ:Prop where
 len:v.fns.length=u.fns.length
 main:v.main=u.main
 zero:∀fn:Int,0<=fn->fn<u.fns.length->pre fn 0=[]∧(A7 (AB v fn) 0).params=(A7 (AB u fn) 0).params
 S':∀fn b:Int,0<=fn->fn<u.fns.length->0<=b->b<(AB u fn).blocks.length->qkw u v D pre post fn b
 ways:∀fn b:Int,0<=fn->fn<u.fns.length->0<=b->b<(AB u fn).blocks.length->Way u v D pre c fn b
structure FRm(f f':Fr):Prop where
 ids:f'.AW=f.AW∧f'.Ay=f.Ay∧f'.fn=f.fn
 blk:f'.blk=f.blk
 pos:f'.pos=(pre f.fn f.blk).length+f.pos
 vals:VS (D f.fn) f.vals f'.vals
def bp(f f':Fr):List Fr->Prop
 | []=>True
 | g::_=>f'.to=f.to∧D g.fn f.to
def Rv:List Fr->List Fr->Prop
 | [],[]=>True
 | f::r,f'::r'=>FRm D pre f f'∧bp D f f' r∧Rv r r'
 | _,_=>False
def Rx(m m':Mach):Prop:=∃fs l,m'=m.put fs l∧Rv D pre m.frames fs∧c*m.left<=l
end
section
variable {u v:Ad} {D:Int->Int->Prop} {pre post:Int->Int->List Ins} {c:Int}
theorem VS.put{D:Int->Prop}{es es':List (Int×SV)}(h:VS D es es')(k:Int)(x:SV):VS D (CQ es k x) (CQ es' k x):=fun j hj=>by
 rw[Nv,Nv];split
 ·rfl
 exact h j hj
theorem VS.take{D:Int->Prop}{es es':List (Int×SV)}(h:VS D es es'){l:List Int}(hl:∀a∈l,D a):BV es' l=BV es l:=by
 unfold BV;exact Rb fun a ha=>h a (hl a ha)
theorem Rv.cons{f:Fr}{r:List Fr}{fs:List Fr}(h:Rv D pre (f::r) fs):∃f' r',fs=f'::r'∧FRm D pre f f'∧bp D f f' r∧Rv D pre r r':=by
 cases fs with
 | nil=>exact False.elim h
 | cons f' r'=>exact⟨f',r',rfl,h.1,h.2.1,h.2.2⟩
theorem qaC(T:bQ u v D pre post c){m:Mach}{fs':List Fr}{y:Int}{g:Fr}{r:List Fr}(hm:m.frames=g::r)(hR:Rv D pre m.frames fs')(l1:c*m.left<=y)
  {fn:Int} (Cv:0<=fn∧fn<u.fns.length) (args:List SV) {to:Int} (ht:D g.fn to):Rx D pre c (m.enter u fn args to) ((m.put fs' y).enter v fn args to):=by
 obtain⟨z1,z2⟩:=T.zero fn Cv.1 Cv.2;refine⟨⟨m.next+1,m.next,fn,0,0,to,C7 [] (A7 (AB u fn) 0).params args⟩::fs',y,?_,?_,l1⟩
 ·unfold Mach.enter;rw[z2];rfl
 show FRm D pre _ _∧bp D _ _ m.frames∧Rv D pre m.frames fs';refine⟨⟨⟨rfl,rfl,rfl⟩,rfl,by rw[z1];rfl,fun _ _=>rfl⟩,?_,hR⟩;rw[hm];exact⟨rfl,ht⟩
theorem qdP{m:Mach}{f f':Fr}{r r':List Fr}{y:Int}(hm:m.frames=f::r)(hT:bp D f f' r)(hR:Rv D pre r r')(l1:c*m.left<=y)(x:SV):Rx D pre c (m.leave f x) ((m.put (f'::r') y).leave f' x):=by
 unfold Mach.leave;rw[hm];simp only[iq,Mach.put];cases r with
 | nil =>
  cases r' with
  | nil=>exact⟨[],y,rfl,trivial,l1⟩
  | cons g' r'=>exact False.elim hR
 | cons g r =>
  obtain⟨g',r2,rfl,hG,PZ,hR2⟩:=hR.cons;obtain⟨t1,t2⟩:=hT;simp only;refine⟨{ g' with vals:=CQ g'.vals f'.to x }::r2,y,rfl,⟨⟨hG.ids,hG.blk,hG.pos,?_⟩,by cases r<;>exact PZ,hR2⟩,l1⟩;show VS (D g.fn) (CQ g.vals f.to x) (CQ g'.vals f'.to x);rw[t1];exact hG.vals.put _ x
theorem mT(u:Ad){m:Mach}{f:Fr}{r:List Fr}(h:m.frames=f::r):Mach.step u m=match (A7 (AB u f.fn) f.blk).ins[f.pos]? with
  | none=>m.finish u f (A7 (AB u f.fn) f.blk).term
  | some i=>(m.BW { f with pos:=f.pos+1 }).act u { f with pos:=f.pos+1 } i (BV f.vals i.args):=by
 unfold Mach.step;rw[h];rfl
theorem qfQ(T:bQ u v D pre post c)(hu:HL u)(hc:1<=c){m m':Mach}(hm:CY u m)(ho:m.over=false)(h1:1<=m.left)(hs:(Mach.step u { m with left:=m.left-1 }).short=false)
  (h5:¬((Mach.step u { m with left:=m.left-1 }).over=true∧(Mach.step u { m with left:=m.left-1 }).fin=5)) (hr:Rx D pre c m m') :
  ∃n CT,Mach.Steps v (n+1) m' CT∧Rx D pre c (Mach.step u { m with left:=m.left-1 }) CT:=by
 obtain⟨fs,l,rfl,Mj,l1⟩:=hr;obtain⟨AT,D5⟩:=hm.over ho;have B8:1*m.left<=c*m.left:=Sy hc I;have BQ:c*(m.left-1)=c*m.left-c:=qv
 have SN:c*1<=c*m.left:=aa4 h1 I;have one:∀{CT},Rx D pre c (Mach.step u { m with left:=m.left-1 }) CT->Mach.step v (({ m with left:=m.left-1 }:Mach).put fs (l-1))=CT->∃n CT,Mach.Steps v (n+1) (m.put fs l) CT∧Rx D pre c (Mach.step u { m with left:=m.left-1 }) CT:=fun {CT} hR e=>⟨0,CT,.cons ho D5 aJ (by
  have:Mach.step v { m.put fs l with left:=(m.put fs l).left-1 }=CT:=e;rw[this];exact .refl _),hR⟩
 have EJ:CY u { m with left:=m.left-1 }:=by
  have:=(Wg hm ho I).1
  rwa [Mach.WA h1]at this
 obtain⟨f,r,B0⟩:∃f r,m.frames=f::r:=by
  cases hq:m.frames with
  | nil=>exact B3 hq AT
  | cons f r=>exact⟨f,r,rfl⟩
 rw[B0]at Mj;obtain⟨f',r',rfl,hF,hT,hR⟩:=Mj.cons;have F6:=EJ.frames f (by show f∈m.frames;rw[B0];simp);have hb:=hu.blocks _ (Nu F6.fn.1 F6.fn.2) _ (M' F6.blk.1 F6.blk.2);have hB:=T.S' f.fn f.blk F6.fn.1 F6.fn.2 F6.blk.1 F6.blk.2;have hW:=T.ways f.fn f.blk F6.fn.1 F6.fn.2 F6.blk.1 F6.blk.2;have OW:(A7 (AB v f'.fn) f'.blk).ins=pre f.fn f.blk++((A7 (AB u f.fn) f.blk).ins++post f.fn f.blk):=by rw[hF.ids.2.2,hF.blk];exact hB.ins
 have DO:(A7 (AB v f'.fn) f'.blk).ins[f'.pos]?=((A7 (AB u f.fn) f.blk).ins++post f.fn f.blk)[f.pos]?:=by
  rw[OW,hF.pos,Dg I,Sz]
 have BD:=mT u (m:={ m with left:=m.left-1 }) B0;have G6:Mach.step v (({ m with left:=m.left-1 }:Mach).put (f'::r') (l-1))=match (A7 (AB v f'.fn) f'.blk).ins[f'.pos]? with
   | none=>(({ m with left:=m.left-1 }:Mach).put (f'::r') (l-1)).finish v f' (A7 (AB v f'.fn) f'.blk).term
   | some i=>((({ m with left:=m.left-1 }:Mach).put (f'::r') (l-1)).BW { f' with pos:=f'.pos+1 }).act v { f' with pos:=f'.pos+1 } i (BV f'.vals i.args):=rfl
 cases hi:(A7 (AB u f.fn) f.blk).ins[f.pos]? with
 | none =>
  rw[hi]at BD;simp only at BD;have JK:f.pos=(A7 (AB u f.fn) f.blk).ins.length:=by
   have h2:=List.getElem?_eq_none_iff.1 hi;have h3:=F6.pos;omega
  have Ge:post f.fn f.blk=[]->(A7 (AB v f'.fn) f'.blk).ins[f'.pos]?=none:=fun q=>by
   rw[DO,q,F9];exact hi
  have along:∀e,ff (A7 (AB u f.fn) f.blk).term f.vals e->Mach.step u { m with left:=m.left-1 }=({ m with left:=m.left-1 }:Mach).follow u f e->∃n CT,Mach.Steps v (n+1) (m.put (f'::r') l) CT∧Rx D pre c (Mach.step u { m with left:=m.left-1 }) CT:=fun e hte Pp=>by
   obtain⟨n,Rz,n1,n2,n3,n4,n5⟩:=hW f.vals f'.vals e hF.vals hte;have Au:=n5 m f' r' l ho D5 I hF.ids.2.2 hF.blk (by rw[hF.pos,JK]) rfl;refine⟨n-1,_,by rw[show n-1+1=n from I];exact Au,?_⟩;rw[Pp];refine⟨{ f' with blk:=e.block,pos:=(pre f.fn e.block).length,vals:=Rz }::r',l-n,rfl,?_,pr⟩;show Rv D pre (({ m with left:=m.left-1 }:Mach).follow u f e).frames _;have BK:(({ m with left:=m.left-1 }:Mach).follow u f e).frames = { f with blk:=e.block,pos:=0,vals:=C7 f.vals (A7 (AB u f.fn) e.block).params (BV f.vals e.args) }::r:=by
    show _::m.frames.tail=_;rw[B0];rfl
   rw[BK];exact⟨⟨hF.ids,rfl,rfl,n3⟩,dN,hR⟩
  unfold Mach.finish at BD;by_cases q4:(A7 (AB u f.fn) f.blk).term.kind=4
  ·rw[A9 q4]at BD;obtain⟨p1,p2,p3⟩:=hB.VO q4;rw[Ge p1]at G6;simp only at G6;rw[hF.ids.2.2,hF.blk]at G6;unfold Mach.finish at G6;rw[A9 p2,p3]at G6;refine one ?_ G6;rw[BD];exact⟨f'::r',l-1,rfl,by show Rv D pre m.frames _;rw[B0];exact⟨hF,hT,hR⟩,pr⟩
  rw[A4 q4]at BD;by_cases q1:(A7 (AB u f.fn) f.blk).term.kind=1
  ·rw[A9 q1]at BD;have hl:=hb.term.jump q1;obtain⟨e,he⟩:∃e,(A7 (AB u f.fn) f.blk).term.to[0]?=some e:=⟨(A7 (AB u f.fn) f.blk).term.to[0]' I,AY _⟩
   rw[he]at BD;exact along e (.inl ⟨q1,he⟩) BD
  rw[A4 q1]at BD;by_cases q0:(A7 (AB u f.fn) f.blk).term.kind=0
  ·rw[A9 q0]at BD;obtain⟨p1,p2,p3,p4⟩:=hB.ret q0;rw[Ge p1]at G6;simp only at G6;rw[hF.ids.2.2,hF.blk]at G6;unfold Mach.finish at G6;rw[A4 I,A4 I,A9 p2,p3,hF.vals _ p4]at G6;refine one ?_ G6;rw[BD];exact qdP (m:={ m with left:=m.left-1 }) B0 hT hR pr _
  rw[A4 q0]at BD;by_cases qk:(Bq f.vals (A7 (AB u f.fn) f.blk).term.arg).kind≠0
  ·rw[A9 qk]at BD;exact B3 ⟨ja,ja⟩ h5
  rw[A4 qk]at BD;obtain⟨e,he⟩:=cf hb.term q0 q1 q4 (Bq f.vals (A7 (AB u f.fn) f.blk).term.arg).n;rw[he]at BD;exact along e (.inr ⟨q0,q1,q4,I,he⟩) BD
 | some i =>
  rw[hi]at BD;simp only at BD;have Km:=AK hi;have Ia:=hb.ins i Km;have AF:=AE hi;obtain⟨d1,d2⟩:=hB.vals i Km;have GP:BV f'.vals i.args=BV f.vals i.args:=hF.vals.take d2;rw[DO,EV AF,hi]at G6;simp only at G6;rw[GP]at G6;suffices h:Rx D pre c (Mach.step u { m with left:=m.left-1 }) (Mach.step v (({ m with left:=m.left-1 }:Mach).put (f'::r') (l-1))) from one h rfl;have e1:({ m with left:=m.left-1 }:Mach).left=m.left-1:=rfl;have k1:c*({ m with left:=m.left-1 }:Mach).left<=l-1:=dT
  have k0:0<=({ m with left:=m.left-1 }:Mach).left:=dT
  have TP:({ m with left:=m.left-1 }:Mach).frames≠[]:=AT;have V2:({ m with left:=m.left-1 }:Mach).frames=f::r:=B0;rw[BD]at hs ⊢;rw[G6];clear BD G6 one h5 e1;generalize ({ m with left:=m.left-1 }:Mach)=M at *;generalize l-1=y at *;have E8:J' u M { f with pos:=f.pos+1 }:=⟨F6.fn,F6.blk,AF,F6.vals⟩
  have LF:J' u (M.BW { f with pos:=f.pos+1 }) { f with pos:=f.pos+1 }:=E8.of_heap CX;have hM2:=EJ.BW TP E8;have ha:=Y2 LF.vals i.args;have DK:=Zi f.vals i.args;have Jt:FRm D pre { f with pos:=f.pos+1 } { f' with pos:=f'.pos+1 }:=⟨hF.ids,hF.blk,aaf,hF.vals⟩
  have MU:(M.BW { f with pos:=f.pos+1 }).frames = { f with pos:=f.pos+1 }::r:=by
   exact dz V2
  have e2:(M.put (f'::r') y).BW { f' with pos:=f'.pos+1 }=(M.BW { f with pos:=f.pos+1 }).put ({ f' with pos:=f'.pos+1 }::r') y:=rfl;rw[e2];have PZ:bp D { f with pos:=f.pos+1 } { f' with pos:=f'.pos+1 } r:=dN
  have TK:Rv D pre (M.BW { f with pos:=f.pos+1 }).frames ({ f' with pos:=f'.pos+1 }::r'):=by
   rw[MU];exact⟨Jt,PZ,hR⟩
  have k1':c*(M.BW { f with pos:=f.pos+1 }).left<=y:=k1;have hvk:(({ f with pos:=f.pos+1 }:Fr)).vals=f.vals:=rfl;rw[hvk]at ha;unfold Mach.act at hs ⊢;by_cases FO:i.op=13
  ·rw[A9 FO,A9 FO];obtain⟨c1,c2,c3⟩:=Ia.call FO;exact qaC T MU TK k1' ⟨c1,c2⟩ _ d1
  rw[A4 FO]at hs;rw[A4 FO,A4 FO];by_cases GH:i.op=14
  ·rw[A9 GH,A9 GH];by_cases Ig:(BS (BV f.vals i.args) 0).kind=2
   ·have Cv:=SV.Wf.fn (P4 ha 0) Ig;obtain⟨z1,z2⟩:=T.zero _ Cv.1 Cv.2;rw[z2];by_cases IG:(BS (BV f.vals i.args) 0).kind=2∧(A7 (AB u (BS (BV f.vals i.args) 0).n) 0).params.length=(BV f.vals i.args).length
    ·rw[A9 IG,A9 IG];exact qaC T MU TK k1' Cv _ d1
    rw[A4 IG,A4 IG];exact⟨_,y,rfl,TK,k1⟩
   rw[A4 (fun q=>Ig q.1),A4 (fun q=>Ig q.1)];exact⟨_,y,rfl,TK,k1⟩
  rw[A4 GH]at hs;rw[A4 GH,A4 GH];have hx:=ay hM2 Ia DK ha;have GK:=(Mach.gu { f with pos:=f.pos+1 } i.to ((M.BW { f with pos:=f.pos+1 }).exec i (BV f.vals i.args))).1;rw[GK]at hs;have JY:(M.BW { f with pos:=f.pos+1 }).left<=y:=by
   have:1*M.left<=c*M.left:=Sy hc k0;show M.left<=y;omega
  rw[Mach.lg _ _ _ _ _ hs hx.left.1 JY];generalize (M.BW { f with pos:=f.pos+1 }).exec i (BV f.vals i.args)=X at *;obtain⟨E,E2⟩:=X;have hxf:E.frames = { f with pos:=f.pos+1 }::r:=by
   rw[<-MU];exact hx.frames
  have JC:E.left<=M.left:=hx.left.2;obtain⟨w1,w2⟩:=ox E E2 { f with pos:=f.pos+1 } i.to;refine⟨_,_,sn E E2 { f with pos:=f.pos+1 } _ _ i.to _ _,?_,?_⟩
  ·rw[w1,hxf];refine⟨⟨Jt.ids,Jt.blk,Jt.pos,Jt.vals.put _ _⟩,dN,hR⟩
  rw[w2];have:=la hc k1 (a:=M.left-E.left) I;rw[show M.left-(M.left-E.left)=E.left from I]at this;exact Cd
end
section
variable {u v:Ad} {D:Int->Int->Prop} {pre post:Int->Int->List Ins} {c:Int}
theorem wW(T:bQ u v D pre post c)(hu:HL u)(hc:1<=c):∀(k:Nat) (m m':Mach),CY u m->Rx D pre c m m'->(Mach.run u k m).short=false->(Mach.run u k m).fin≠5->∃n CT,Mach.Steps v n m' CT∧Rx D pre c (Mach.run u k m) CT
 | 0,m,m',hm,hr,hs,h5=>⟨0,m',.refl _,hr⟩
 | k+1,m,m',hm,hr,hs,h5=>by
  cases ho:m.over with
  | true =>
   rw[Nr ho]at hs ⊢;exact⟨0,m',.refl _,hr⟩
  | false =>
   have Aj:Mach.run u (k+1) m=if(m.Ae 1).short then m.Ae 1 else Mach.run u k (Mach.step u (m.Ae 1)):=qF
   rw[Aj]at hs h5 ⊢;by_cases hp:m.left<1
   ·rw[cn hp]at hs;simp at hs
   obtain⟨q1,q2,q3,q4,q5⟩:=Wg hm ho hp;rw[A4 df]at hs h5 ⊢;have Gk:(m.Ae 1).frames.length+(m.Ae 1).left+1<=2 ^ 40:=by
    have:=hm.depth;rw[q4,q5];omega
   have Au:=CY.step hu q1 q2 Gk;have GK:(Mach.step u (m.Ae 1)).short=false:=by
    cases hx:(Mach.step u (m.Ae 1)).short with
    | false=>rfl
    | true =>
     have ho:(Mach.step u (m.Ae 1)).over=true:=by
      cases hy:(Mach.step u (m.Ae 1)).over with
      | true=>rfl
      | false=>rw[(Au.over hy).2]at hx;cases hx
     rw[Nr ho,hx]at hs;cases hs
   have hs5:¬((Mach.step u (m.Ae 1)).over=true∧(Mach.step u (m.Ae 1)).fin=5):=fun q=>by
    rw[Nr q.1]at h5;exact h5 q.2
   rw[Mach.WA I]at Au GK hs hs5 h5 ⊢;obtain⟨n,m1,s1,s2⟩:=qfQ T hu hc hm ho I GK hs5 hr;obtain⟨n2,m2,s3,s4⟩:=wW T hu hc k _ m1 Au s2 hs h5;exact⟨n+1+n2,m2,s1.trans s3,s4⟩
theorem tQ{u:Ad}(hu:HL u){fuel:Int}(h0:0<=fuel)(h1:fuel<=2 ^ 39):CY u ((Mach.start fuel).enter u u.main [] 0):=by
 have hs:CY u { Mach.start fuel with over:=true } :=
  ⟨QN,QN,h0,j5,QN,QN,QN,by simp[Mach.start,CR],QN,A6⟩
 have h:=hs.enter hu A6 j5 hu.main (args:=[]) A6 0;exact ac6
theorem qbO(T:bQ u v D pre post c)(hu:HL u)(hv:HL v)(hc:1<=c){F G:Int}(hF:0<=F∧F<=1000000)(hG:G<=2 ^ 39)(CA:c*F<=G)(he:(D2 u F).e=0)(h5:(D2 u F).fin≠5) :
  (D2 v G).e=0∧(D2 v G).out=(D2 u F).out∧(D2 v G).fin=(D2 u F).fin∧(D2 v G).val=(D2 u F).val:=by
 have hcF:1*F<=c*F:=Sy hc hF.1;obtain⟨z1,z2⟩:=T.zero u.main hu.main.1 hu.main.2;have Vr:=eN hu (fuel:=F) hF.1 hF.2;have Nf:=tQ hv (fuel:=G) I hG;have bK:Rx D pre c ((Mach.start F).enter u u.main [] 0) ((Mach.start G).enter v v.main [] 0):=by
  refine⟨[⟨5,4,u.main,0,0,0,C7 [] (A7 (AB u u.main) 0).params []⟩],G,?_,⟨⟨⟨rfl,rfl,rfl⟩,rfl,by rw[z1];rfl,fun _ _=>rfl⟩,trivial,trivial⟩,CA⟩;rw[T.main];unfold Mach.enter;rw[z2];rfl
 unfold D2 at he h5 ⊢;simp only at he h5 ⊢;have hru:=Ut hu (F.toNat+2) _ Vr YH;have GJ:=Ut hv (G.toNat+2) _ Nf YH;have bu:=fun h h5=>wW T hu hc (F.toNat+2) _ _ Vr bK h h5;generalize Mach.run u (F.toNat+2) ((Mach.start F).enter u u.main [] 0)=E at *;cases hs:E.short with
 | true =>
  rw[hs]at he;simp at he
 | false =>
  rw[hs]at h5;simp only[JS,Gf]at h5;obtain⟨n1,m1,S,fs,l,EJ,_,_⟩:=bu hs h5;have hle:n1<=G.toNat+2:=N8 fun q=>by
   have:=S.before (G.toNat+2) I;rw[GJ.1]at this;cases this
  have Ge:Mach.run v (G.toNat+2) ((Mach.start G).enter v v.main [] 0)=m1:=by
   have:=S.run (G.toNat+2-n1);rw[show n1+(G.toNat+2-n1)=G.toNat+2 from I]at this;rw[this];exact Nr abR _
  have b2:m1.short=false:=by rw[EJ];exact hs
  rw[Ge,b2];simp only[JS,Gf];rw[EJ];exact⟨trivial,rfl,rfl,rfl⟩
end
theorem aeo{V:Type}:∀(M:List Mv) {e e':Int->V},(∀k,e k=e' k)->∀k,JJ M e k=JJ M e' k
 | [],_,_,h,k=>h k
 | x::r,e,e',h,k=>aeo r (fun j=>by
  unfold Qh;rw[h x.2,h j]) k
def VP:List Mv->List (Int×SV)->List (Int×SV)
 | [],e=>e
 | x::r,e=>VP r (CQ e x.1 (Bq e x.2))
theorem lY:∀(M:List Mv) (e:List (Int×SV)) (k:Int),Bq (VP M e) k=JJ M (Bq e) k
 | [],_,_=>rfl
 | x::M,e,k=>by
  rw[VP,lY M];show JJ M _ k=JJ M (Qh (Bq e) x.1 (Bq e x.2)) k;refine aeo M (fun j=>?_) k;rw[Nv];unfold Qh;by_cases q:x.1=j
  ·rw[A9 q,A9 q.symm]
  rw[A4 q,A4 (fun z=>q z.symm)]
theorem sm{v:Ad}{fn b:Int}{m:Mach}(ho:m.over=false)(hs:m.short=false){f':Fr}{r':List Fr}(h1:f'.fn=fn)(h2:f'.blk=b) :
  ∀(M:List Mv) (A B:List Ins) (Ek:List (Int×SV)) (l:Int),(A7 (AB v fn) b).ins=A++(M.map NV++B)->(M.length:Int)<=l ->
   Mach.Steps v M.length (m.put ({ f' with pos:=A.length,vals:=Ek }::r') l) (m.put ({ f' with pos:=A.length+M.length,vals:=VP M Ek }::r') (l-M.length))
 | [],A,B,Ek,l,hi,hl=>by
   have:l-(([]:List Mv).length:Int)=l:=A6
   rw[this];exact Uu
 | x::M,A,B,Ek,l,hi,hl=>by
  rw[CE]at hl;have Na:(A7 (AB v fn) b).ins=(A++[NV x])++(M.map NV++B):=by rw[hi];simp
  have q2:=sm ho hs h1 h2 (r':=r') M (A++[NV x]) B (CQ Ek x.1 (Bq Ek x.2)) (l-1) Na I;rw[Bf,IU]at q2;have Au:Mach.step v { m.put ({ f' with pos:=A.length,vals:=Ek }::r') l with left:=l-1 }=m.put ({ f' with pos:=A.length+1,vals:=CQ Ek x.1 (Bq Ek x.2) }::r') (l-1):=by
   unfold Mach.step Mach.put;simp only;rw[h1,h2,hi,Dg (B6 _),FB];simp only[Bc,JR,Dh];rfl
  exact abw Au
theorem qaG{es:List (Int×SV)}:∀(ps ag:List Int),ps.Nodup->ps.length=ag.length->∀(vs:List SV),vs=BV es ag->∀{es0:List (Int×SV)} (k:Int),(∃(i:Nat) (p a:Int),ps[i]?=some p∧ag[i]?=some a∧p=k∧Bq (C7 es0 ps vs) k=Bq es a)∨(k ∉ ps∧Bq (C7 es0 ps vs) k=Bq es0 k)
 | [],[],_,_,vs,_,es0,k=>.inr ⟨A6,by cases vs<;>rfl⟩
 | [],_::_,_,hl,_,_,_,_=>by simp at hl
 | _::_,[],_,hl,_,_,_,_=>by simp at hl
 | p::ps,a::ag,hn,hl,vs,hv,es0,k=>by
  obtain⟨n1,n2⟩:=List.nodup_cons.1 hn;subst hv;have ih:=qaG (es:=es) ps ag n2 OL (BV es ag) rfl (es0:=CQ es0 p (Bq es a)) k;have hb:C7 es0 (p::ps) (BV es (a::ag))=C7 (CQ es0 p (Bq es a)) ps (BV es ag):=rfl;rw[hb];rcases ih with⟨i,p',a',i1,i2,i3,i4⟩|⟨i1,i2⟩
  ·exact .inl ⟨i+1,p',a',by simpa using i1,by simpa using i2,i3,i4⟩
  by_cases hk:p=k
  ·refine .inl ⟨0,p,a,rfl,rfl,hk,?_⟩;rw[i2,Nv,A9 hk]
  refine .inr ⟨?_,?_⟩
  ·rw[CL];rintro(q|q)
   ·exact hk q.symm
   exact i1 q
  rw[i2,Nv,A4 hk]
theorem qe3{ps ag:List Int}(hn:ps.Nodup)(hl:ps.length=ag.length)(hp:∀p∈ps,p≠sp)(ha:∀a∈ag,a≠sp){es es' Rz:List (Int×SV)}(h:VS (fun k=>k≠sp) es es')
  (h2:∀k,Bq Rz k=JJ (Qa (ps.zip ag) sp) (Bq es') k):VS (fun k=>k≠sp) (C7 es ps (BV es ag)) Rz:=fun k hk=>by
 have S5:(ps.zip ag).map Prod.fst=ps:=List.map_fst_zip I;obtain⟨s1,s2⟩:=qif (spare:=sp) (l:=ps.zip ag) (by rw[S5];exact hn) (fun x hx=>hp _ (il (a:=x.1) (b:=x.2) hx).1) (Bq es');rw[h2 k];rcases qaG (es:=es) ps ag hn hl (BV es ag) rfl (es0:=es) k with⟨i,p,a,i1,i2,i3,i4⟩|⟨i1,i2⟩
 ·have hm:(p,a)∈ps.zip ag:=AK (i:=i) (List.getElem?_zip_eq_some.2 ⟨i1,i2⟩);have:=s1 (p,a) hm;simp only at this;rw[i4,<-i3,this];exact h a (ha a (AK i2))
 rw[i2,s2 k hk fun x hx q=>i1 (by rw[<-q];exact(il (a:=x.1) (b:=x.2) hx).1)];exact h k hk
theorem ve{v:Ad}{fn b:Int}{m:Mach}{f':Fr}{r':List Fr}{l:Int}{e2:Edge}(Wl:(A7 (AB v fn) b).ins[f'.pos]?=none)(h1:f'.fn=fn)(h2:f'.blk=b)(hT:ff (A7 (AB v fn) b).term f'.vals e2)(hp:(A7 (AB v fn) e2.block).params=[]) :
  Mach.step v { m.put (f'::r') l with left:=l-1 }=m.put ({ f' with blk:=e2.block,pos:=0 }::r') (l-1):=by
 subst h1;subst h2;have F6:({ m.put (f'::r') l with left:=l-1 }:Mach).follow v f' e2=m.put ({ f' with blk:=e2.block,pos:=0 }::r') (l-1):=by
  unfold Mach.follow;rw[hp];rfl
 rw[mT v (m:={ m.put (f'::r') l with left:=l-1 }) rfl,Wl];simp only;unfold Mach.finish;rcases hT with⟨q1,q2⟩|⟨q0,q1,q4,qk,q2⟩
 ·rw[A4 I,A9 q1,q2];exact F6
 rw[A4 q4,A4 q1,A4 q0,A4 I,q2];exact F6
theorem vS{l l':List Edge}(h:l'.map Edge.block=l.map Edge.block){i:Nat}{e:Edge}(he:l[i]?=some e):∃e2,l'[i]?=some e2∧e2.block=e.block:=by
 have h1:(l'.map Edge.block)[i]?=some e.block:=by rw[h,Bv,he];rfl
 rw[Bv]at h1;cases hq:l'[i]? with
 | none=>rw[hq]at h1;cases h1
 | some e2 =>
  rw[hq]at h1;exact⟨e2,rfl,HX h1⟩
section
variable {u v:Ad} {sp:Int->Int}
structure XJ(u v:Ad)(sp:Int->Int):Prop where
 len:v.fns.length=u.fns.length
 main:v.main=u.main
 fn:∀fn:Int,0<=fn->fn<u.fns.length->AB v fn=RS (AB u fn) (sp fn)
 ok:∀fn:Int,0<=fn->fn<u.fns.length->XH (AB u fn)
 below:∀fn:Int,0<=fn->fn<u.fns.length->∀x∈G8 (AB u fn),x<sp fn
 yq:∀fn:Int,0<=fn->fn<u.fns.length->∀(k:Nat) c,(AB u fn).blocks[k]?=some c->∀e∈c.term.to,N' (AB u fn) k e=false
def Qc(u:Ad)(sp:Int->Int)(fn b:Int):List Ins:=QY (AB u fn) (sp fn) (ME (AB u fn)) b.toNat
def T8(u:Ad)(sp:Int->Int)(fn b:Int):List Ins:=Wp (AB u fn) (sp fn) (A7 (AB u fn) b)
theorem XJ.blk(H:XJ u v sp){fn b:Int}(f0:0<=fn)(f1:fn<u.fns.length)(b0:0<=b)(b1:b<(AB u fn).blocks.length) :
  (A7 (AB v fn) b).params=(if b=0 then(A7 (AB u fn) b).params else [])∧(A7 (AB v fn) b).ins=Qc u sp fn b++((A7 (AB u fn) b).ins++T8 u sp fn b) ∧
  (A7 (AB v fn) b).term.to.map Edge.block=(A7 (AB u fn) b).term.to.map Edge.block∧TS (A7 (AB v fn) b).term=V6 (A7 (AB u fn) b):=by
 rw[H.fn fn f0 f1];have hg:=(H.ok fn f0 f1).fn.gr;have hl:(RS (AB u fn) (sp fn)).blocks.length=(AB u fn).blocks.length:=(RK 0 _).trans (m5 _ _ _);have hj:(RS (AB u fn) (sp fn)).blocks[b.toNat]?=some (A7 (RS (AB u fn) (sp fn)) b):=by
  have:=K2 (f:=RS (AB u fn) (sp fn)) (k:=b) b0 (by rw[hl];exact b1);exact Cd
 obtain⟨B,h1,h2,h3,h4,h5⟩:=qau hj;have hB:A7 (AB u fn) b=B:=by
  unfold A7;rw[h1];rfl
 rw[hB];refine⟨?_,?_,h4,h5⟩
 ·rw[h2];by_cases q:b=0
  ·rw[A9 q,A9 I]
  rw[A4 q,A4 I]
 rw[h3];unfold Qc T8;rw[hB]
theorem XJ.way(H:XJ u v sp){fn b:Int}(f0:0<=fn)(f1:fn<u.fns.length)(b0:0<=b)(b1:b<(AB u fn).blocks.length):Way u v (fun fn k=>k≠sp fn) (Qc u sp) 16385 fn b:=by
 intro es es' e Ma hte;have hV:=H.ok fn f0 f1;have hg:=hV.fn.gr;obtain⟨p1,p2,p3,p4⟩:=H.blk f0 f1 b0 b1;have VH:=K2 (f:=AB u fn) (k:=b) b0 b1;have C5:=AK VH;have hE:=LS (hV.fn.blk _ C5).fin;have Lm:e∈(A7 (AB u fn) b).term.to:=by
  rcases hte with⟨_,q⟩|⟨_,_,_,_,q⟩<;>exact AK q
 have Ov:=hg.DN _ C5 e Lm;obtain⟨t1,t2,t3,t4⟩:=H.blk (b:=e.block) f0 f1 I Ov.2;rw[A4 I]at t1;have hM:=mD hV (H.below fn f0 f1) C5 Lm;have B8:=sV hM;obtain⟨o1,o2⟩:=ql1 (sp:=sp fn) hg (H.yq fn f0 f1) VH Lm;obtain⟨M,hMe⟩:∃M,M=Qa (HM (AB u fn) e) (sp fn):=⟨_,rfl⟩
 have hcM:Io (AB u fn) e (sp fn)=M.map NV:=by rw[hMe];rfl
 rw[hcM,BE]at B8;have htb:(A7 (AB u fn) e.block).params=(A7 (AB u fn) e.block).params:=rfl;have qlP:(A7 (AB u fn) b).term.kind≠1->(A7 (AB u fn) b).term.kind≠4->(A7 (AB u fn) b).term.arg≠sp fn:=fun q1 q4 z=>by
  have:=H.below fn f0 f1 _ (eT (hV.NL.arg b.toNat _ VH q1 q4));omega
 have yA:∀Rz,(∀k,Bq Rz k=JJ M (Bq es') k)->VS (fun k=>k≠sp fn) (C7 es (A7 (AB u fn) e.block).params (BV es e.args)) Rz:=fun Rz h=>by
  have Li:(A7 (AB u fn) e.block).params.Nodup:=by
   have h2:=hV.nodup;unfold G8 List.flatMap at h2;have h3:=(List.pairwise_flatten.1 h2).1 _ (List.mem_map.2 ⟨_,M' (f:=AB u fn) (k:=e.block) I Ov.2,rfl⟩);exact(List.nodup_append.1 h3).1
  have hbt:=M' (f:=AB u fn) (k:=e.block) I Ov.2;refine qe3 Li hM.len.symm (fun p hp z=>?_) (fun a ha z=>?_) Ma (fun k=>by rw[h k,hMe];rfl)
  ·have:=H.below fn f0 f1 _ (List.mem_flatMap.2 ⟨_,hbt,UQ _ hp⟩);omega
  have:=H.below fn f0 f1 _ (eT (hV.NL.args b.toNat _ VH e Lm a ha));omega
 have MO:∀e2:Edge,e2.block=e.block->(A7 (AB v fn) e2.block).params=[]:=fun e2 q=>by rw[q];exact t1
 by_cases hl:(A7 (AB u fn) b).term.to.length=1
 ·obtain⟨x,hx⟩:=List.length_eq_one_iff.1 hl;rw[hx,Fq]at Lm;subst Lm;have fq:T8 u sp fn b=M.map NV:=by
   unfold T8 Wp;rw[A9 hl,hx,<-hcM];rfl
  have gG:Qc u sp fn e.block=[]:=o1 hl;have hk:(A7 (AB v fn) b).term.kind=1:=by
   unfold TS V6 at p4;by_cases q3:(A7 (AB u fn) b).term.kind=3
   ·rw[A9 ⟨q3,hl⟩]at p4;exact Dj Prod.fst p4
   rw[A4 (fun q=>q3 q.1)]at p4;have h1:=Dj Prod.fst p4;have Bh:(A7 (AB v fn) b).term.kind=(A7 (AB u fn) b).term.kind:=h1;rw[Bh];rcases hte with⟨q,_⟩|⟨q0,q1,q4,_,_⟩
   ·exact q
   have:=hE.kind;have h2:(A7 (AB u fn) b).term.kind≠2:=fun q=>by
    have:=hE.cond q;omega
   omega
  obtain⟨e2,g1,g2⟩:=vS p3 (i:=0) (e:=e) (by rw[hx];rfl);refine⟨M.length+1,VP M es',I,I,yA _ (lY M es'),⟨I,Ov.2⟩,fun m f' r' l ho hs J6 h1 h2 h3 h4=>?_⟩;have s1:=sm (v:=v) (fn:=fn) (b:=b) ho hs (r':=r') h1 h2 M (Qc u sp fn b++(A7 (AB u fn) b).ins) [] es' l (by rw[p2,fq];simp) I;have ef:({ f' with pos:=(Qc u sp fn b++(A7 (AB u fn) b).ins).length,vals:=es' }:Fr)=f':=by
   rw[Bf,<-h3,<-h4]
  rw[ef]at s1;have Wl:(A7 (AB v fn) b).ins[(Qc u sp fn b++(A7 (AB u fn) b).ins).length+M.length]?=none:=by
   rw[p2,fq,pe];exact KM
  have BD:=ve (v:=v) (fn:=fn) (b:=b) (m:=m) (r':=r') (l:=l-M.length) (e2:=e2) (f':={ f' with pos:=(Qc u sp fn b++(A7 (AB u fn) b).ins).length+M.length,vals:=VP M es' }) Wl h1 h2 (.inl ⟨hk,g1⟩) (MO e2 g2);rw[g2]at BD;refine s1.trans (.cons ho hs (by show 1<=l-M.length;omega) ?_);show Mach.Steps v 0 (Mach.step v { m.put ({ f' with pos:=(Qc u sp fn b++(A7 (AB u fn) b).ins).length+M.length,vals:=VP M es' }::r') (l-M.length)with left:=l-M.length-1 }) _;rw[BD,gG,show l-((M.length+1:Nat):Int)=l-M.length-1 from I];exact Uu
 have fq:T8 u sp fn b=[]:=by
  unfold T8 Wp;rw[A4 hl]
 have gG:Qc u sp fn e.block=M.map NV:=(o2 hl).trans hcM;rw[V6,A4 (fun q=>hl q.2)]at p4;unfold TS at p4;have k1:(A7 (AB v fn) b).term.kind=(A7 (AB u fn) b).term.kind:=Dj Prod.fst p4;have k2:(A7 (AB v fn) b).term.arg=(A7 (AB u fn) b).term.arg:=Dj (fun q=>q.2.1) p4;have k3:(A7 (AB v fn) b).term.cases=(A7 (AB u fn) b).term.cases:=Dj (fun q=>q.2.2.2) p4;obtain⟨e2,PZ,g2⟩:∃e2,ff (A7 (AB v fn) b).term es' e2∧e2.block=e.block:=by
  rcases hte with⟨q1,_⟩|⟨q0,q1,q4,qk,he⟩
  ·exact B3 (hE.jump q1) hl
  have hga:=Ma _ (qlP q1 q4);obtain⟨e2,g1,g2⟩:=vS p3 he;refine⟨e2,.inr ⟨I,I,I,by rw[k2,hga];exact qk,?_⟩,g2⟩;rw[k2,hga];have F5:K3 (A7 (AB v fn) b).term (Bq es (A7 (AB u fn) b).term.arg).n=K3 (A7 (AB u fn) b).term (Bq es (A7 (AB u fn) b).term.arg).n:=by
   unfold K3;rw[k1,k3]
  rw[F5];exact g1
 refine⟨M.length+1,VP M es',I,I,yA _ (lY M es'),⟨I,Ov.2⟩,fun m f' r' l ho hs J6 h1 h2 h3 h4=>?_⟩;have Wl:(A7 (AB v fn) b).ins[f'.pos]?=none:=by
  rw[p2,fq,h3,pe];simp
 have BD:=ve (v:=v) (fn:=fn) (b:=b) (m:=m) (r':=r') (l:=l) (e2:=e2) (f':=f') Wl h1 h2 (by rw[h4];exact PZ) (MO e2 g2);rw[g2]at BD;have s1:=sm (v:=v) (fn:=fn) (b:=e.block) (m:=m) ho hs (r':=r') (f':={ f' with blk:=e.block,pos:=0 }) h1 rfl M [] ((A7 (AB u fn) e.block).ins++T8 u sp fn e.block) es' (l-1) (by rw[t2,gG];rfl) I;refine .cons ho hs aJ ?_;show Mach.Steps v M.length (Mach.step v { m.put (f'::r') l with left:=l-1 }) _;rw[BD,gG,BE,show l-((M.length+1:Nat):Int)=l-1-M.length from I];have ef:({ f' with blk:=e.block,pos:=0 }:Fr) = { f' with blk:=e.block,pos:=([]:List Ins).length,vals:=es' }:=by
  rw[<-h4];rfl
 rw[ef];have el:([]:List Ins).length+M.length=M.length:=A6
 rw[el]at s1;exact s1
theorem XJ.tm(H:XJ u v sp):bQ u v (fun fn k=>k≠sp fn) (Qc u sp) (T8 u sp) 16385 where
 len:=H.len
 main:=H.main
 zero:=fun fn f0 f1=>by
  have hg:=(H.ok fn f0 f1).fn.gr;have hl:=List.length_pos_iff.2 hg.ne;obtain⟨p1,_⟩:=H.blk (b:=0) f0 f1 I I;exact⟨qj8 hg,by rw[p1,A9 rfl]⟩
 S':=fun fn b f0 f1 b0 b1=>by
  have hV:=H.ok fn f0 f1;obtain⟨p1,p2,p3,p4⟩:=H.blk f0 f1 b0 b1;have VH:=K2 (f:=AB u fn) (k:=b) b0 b1;have C5:=AK VH;have hE:=LS (hV.fn.blk _ C5).fin;have Qx:(A7 (AB u fn) b).term.kind=0∨(A7 (AB u fn) b).term.kind=4->T8 u sp fn b=[]∧TS (A7 (AB v fn) b).term=TS (A7 (AB u fn) b).term:=fun q=>by
   have hl:¬(A7 (AB u fn) b).term.to.length=1:=by
    rw[hE.to q];simp
   refine⟨?_,?_⟩
   ·unfold T8 Wp;rw[A4 hl]
   rw[p4,V6,A4 (fun z=>hl z.2)]
  exact {
   ins:=p2
   vals:=fun i hi=>by
    obtain⟨n,hn⟩:=List.mem_iff_getElem?.1 hi;refine⟨fun z=>?_,fun a ha z=>?_⟩
    ·have:=H.below fn f0 f1 _ (List.mem_flatMap.2 ⟨_,C5,YB _ (List.mem_map.2 ⟨i,hi,rfl⟩)⟩);omega
    have:=H.below fn f0 f1 _ (eT (hV.NL.ins b.toNat _ VH n i hn a ha));omega
   VO:=fun q=>by
    obtain⟨h1,h2⟩:=Qx (.inr q);have h3:(A7 (AB v fn) b).term.kind=(A7 (AB u fn) b).term.kind:=Dj Prod.fst h2;exact⟨h1,by rw[h3];exact q,Dj (fun q=>q.2.2.1) h2⟩
   ret:=fun q=>by
    obtain⟨h1,h2⟩:=Qx (.inl q);have h3:(A7 (AB v fn) b).term.kind=(A7 (AB u fn) b).term.kind:=Dj Prod.fst h2;refine⟨h1,by rw[h3];exact q,Dj (fun q=>q.2.1) h2,fun z=>?_⟩;have:=H.below fn f0 f1 _ (eT (hV.NL.arg b.toNat _ VH I I));omega }
 ways:=fun fn b f0 f1 b0 b1=>H.way f0 f1 b0 b1
end
theorem qdx(l:List Int):(l.map aI).map A2.share=l.map aI:=by
 rw[HV];rfl
theorem sU(l:List Int)(hl:l.length<=2 ^ 43):BR prog 36 [AA l] (AA l):=by
 have hs:=qdx l;refine zf true 0 func36 ntmps36 ?_;refine Cw ?_;refine qfy 0 rfl (fun hn=>?_) ?_
 ·refine Ur ?_;refine E3 ?_;simp -dsimp only[simprocAttr,↓AG,zp,zr,results36];exact⟨trivial,by show A2.A3 1 [] Ec.sh=.A3 1 (l.map aI) .sh;rw[hn]⟩
 refine Ur ?_;refine FE ?_;refine QS hs ?_;refine F3 ?_;simp -dsimp only[simprocAttr,↓AG,zp,zr,results36]
structure Cx where
 k:Nat
 AS:Nat
 ids:List Nat
 O:List A8
structure Ci where
 j:Nat
 O:List A8
structure Ce where
 z:Nat
 tid:Nat
 O:List A8
theorem qbz{l:List Ins}{i:Ins}(h:l[j]?=some i):(l.take (j+1)).map Ins.enc=(l.take j).map Ins.enc++[i.enc]:=by
 rw[Fs,h,Dx];rfl
theorem qby(O:List A8)(C0:List A2):(O++[A8.cells C0]++[A8.spare 0]).set O.length (.cells (C0.set 1 (.A3 4 [] (.tok (O++[A8.cells C0]).length))))=O++[.cells (C0.set 1 (.A3 4 [] (.tok (O.length+1)))),.spare 0]:=by simp
abbrev Sw(id:Nat)(b:Block)(l:List A2)(t:A2):List A2:=[AA b.params,.A3 4 l (.tok id),aI b.term.kind,aI b.term.arg,aI b.term.n,AA b.term.cases,t]
abbrev CS(id:Nat)(b:Block)(l:List Ins)(t:A2):List A2:=[AA b.params,.A3 4 (l.map Ins.enc) (.tok id),aI b.term.kind,aI b.term.arg,aI b.term.n,AA b.term.cases,t]
theorem Q1{id:Nat}(b:Block)(l:List Ins){t:A2}(h:id<n)(ht:t.upto n):AQ n (CS id b l t):=⟨⟨BU _ _,trivial⟩,⟨Ins.AX _ _,h⟩,trivial,trivial,trivial,⟨BU _ _,trivial⟩,ht,trivial⟩
theorem uP(f:Func)(hs:SmW f)(AT:f.blocks≠[]):Aq prog 33 [.gone,.cells [aI 0,.A3 7 [] .ex]] [f.enc] (CpR f):=by
 have B8:=fun(l:List Int) (h:l.length<=4096)=>sU l I;have Oq:=sW f;have hn:=hs.few;obtain⟨N,hN⟩:∃N,N=f.blocks.length:=⟨_,rfl⟩
 rw[<-hN]at hn;refine ac1 ?_ ?_
 ·refine ac3 hN ?_;generalize [A8.gone,.cells [aI 0,.A3 7 [] .ex],.gone,.cells [aI 0,.A3 7 [] .ex],.cells [aI f.name,.A3 7 [] .ex]]=O0 at *;refine Al (BZ (ι:={X:Cx // X.k<=N∧TY f (f.blocks.take X.k) X.AS X.ids X.O}) (fun X=>⟨83,[(1,.ip none [aI f.name,AR f.blocks]),(2,.mp 3 0),(3,.mp 4 0),(15,AR f.blocks),(16,aI N),(17,aI X.1.k)],X.1.O⟩) (fun X=>N-X.1.k) ⟨⟨0,0,[],O0⟩,A6,Oq⟩ ?_ ?_)
  ·refine C6 ?_
   all_goals rfl
  rintro⟨⟨k,AS,ids,O⟩,hk,hS⟩;simp only at hk hS;refine C3 (fun h=>?_) (fun h=>?_)
  ·refine Az ?_;have AF:k<N:=Aa
   obtain⟨b,hb⟩:∃b,f.blocks[k]?=some b:=⟨f.blocks[k]' I,AY _⟩
   have C5:=AK hb;have BA:f.blocks.take (k+1)=f.blocks.take k++[b]:=by rw[Fs,hb];rfl
   have hbp:=hs.params b C5;have hbi:=hs.ins b C5;have ZK:=hs.nf b C5;have hbc:=hs.cases b C5;have hbt:=hs.to b C5;have Mi:=hs.nO b C5;have Jq:=B8 b.params I;have SN:=B8 b.term.cases I;have Xa:=AE hS.r3;have h4l:=AE hS.out;refine abt hb ?_ ?_ ?_
   ·exact hS.up
   ·simp[A2.upto,AQ,BU,Edge.AX,Ins.AX,Block.AX,Xa,h4l]
   refine BM ?_;refine abq ?_;have hI:=NQ.start hS.up (cs:=CS (O.length+1) b [] (An b.term.to)) (Q1 b [] I ⟨Edge.AX _ _,trivial⟩);refine adQ ?_;generalize O++[A8.cells (CS (O.length+1) b [] (An b.term.to)),.spare 0]=O2 at *;refine aby ?_ ?_
   ·refine C6 ?_
    all_goals rfl
   rintro⟨⟨j,O2⟩,hj,hI⟩;simp only at hj hI;have hI2:=hI.len;refine C3 (fun h=>?_) (fun h=>?_)
   ·refine Az ?_;have Hb:j<b.ins.length:=Aa
    obtain⟨i,hi⟩:∃i,b.ins[j]?=some i:=⟨b.ins[j],aP⟩
    have hci:=B8 i.args ab8;have Cg:=hI.cell;have Bg:=hI.sp;have CI:(b.ins.take j).length=j:=NF
    refine DR hi ?_;refine BM ?_;refine zi hci ?_;refine Ak ?_;refine abz ?_ ?_ ?_
    ·exact hI.up
    ·have Tr:=AE Cg;exact acM Tr
    have Mw:∀y,(O2.set (O.length+1) y)[O.length]?=some (.cells (CS (O.length+1) b (b.ins.take j) (An b.term.to))):=fun y=>ab9
    refine Dn ?_;simp -dsimp only[simprocAttr,↓AG,zp,Cg,Mw,Bg,CS,BE,CI]
    refine D1 ?_;have hIn:=(hI.room (j+1)).one (cs':=CS (O.length+1) b (b.ins.take (j+1)) (An b.term.to)) (Q1 b _ I ⟨Edge.AX _ _,trivial⟩);refine ac7 ?_;have hIn:NQ O _ _ ((O2.set (O.length+1) (A8.spare (j+1))).set O.length (.cells (Sw (O.length+1) b ((b.ins.take (j+1)).map Ins.enc) (An b.term.to)))):=hIn;generalize (O2.set (O.length+1) (A8.spare (j+1))).set O.length (.cells (Sw (O.length+1) b ((b.ins.take (j+1)).map Ins.enc) (An b.term.to)))=O5 at *;refine Bw ?_;refine⟨⟨⟨j+1,O5⟩,Hb,hIn⟩,Ai,?_⟩;refine Ba ?_ ?_
    ·exact BY
    rfl
   refine BO ?_;have Ff:b.ins.length<=j:=by
    have:=G0 h;omega
   rw[Cb Ff]at hI;have Cg:=hI.cell;refine NJ Cg ?_;refine .inl ⟨_,SN,MK,B4 ?_⟩;refine Gi Cg ?_;refine Ak ?_;have hIn:=hI.one (cs':=CS (O.length+1) b b.ins (An b.term.to)) (Q1 b _ I ⟨Edge.AX _ _,trivial⟩);refine aca ?_;generalize O2.set O.length (.cells (CS (O.length+1) b b.ins (An b.term.to)))=O5 at *;have Cg:=hIn.cell;refine Ch Cg ?_;have h2l:=hIn.len;have cA:CS (O.length+1) b b.ins (.A3 2 [] .ex)=[AA b.params,.A3 4 (b.ins.map Ins.enc) (.tok (O.length+1)),aI b.term.kind,aI b.term.arg,aI b.term.n,AA b.term.cases,.A3 2 [] .ex]:=rfl;refine Lz O.length (CS (O.length+1) b b.ins (.A3 2 [] .ex)) (Bb I) rfl (fun d hd=>?_) (fun j c d hc hd=>?_) ?_
   ·simp only[CS,Sw,CL,GG,Di]at hd;rcases hd with rfl|rfl|rfl|rfl|rfl|rfl|rfl<;>trivial
   ·match j,hc,hd with
    | 0,hc,hd=>exact Sub.of_eq QP
    | 1,hc,hd=>exact Sub.of_eq QP
    | 2,hc,hd=>exact Sub.of_eq QP
    | 3,hc,hd=>exact Sub.of_eq QP
    | 4,hc,hd=>exact Sub.of_eq QP
    | 5,hc,hd=>exact Sub.of_eq QP
    | 6,hc,hd =>
     simp only[CS,Sw,LY,Dh,AM]at hc hd;subst hc;subst hd;exact Sub.x9 2
    | j+7,hc,hd=>simp at hc
   rw[Hr];have hE:=Oc.start (cs:=CS (O.length+1) b b.ins) (hIn.one (cs':=CS (O.length+1) b b.ins (.A3 2 [] .ex)) (Q1 b _ I ⟨trivial,trivial⟩));generalize O5.set O.length (.cells (CS (O.length+1) b b.ins (.A3 2 [] .ex)))=O6 at *;refine BF ?_;refine Al (BZ (ι:={X:Ce // X.z<=b.term.to.length∧Oc O (CS (O.length+1) b b.ins) X.tid (b.term.to.take X.z) X.O}) (fun X=>⟨83,[(1,.ip none [aI f.name,AR f.blocks]),(2,.mp 3 0),(3,.mp 4 0),(15,AR f.blocks),(16,aI N),(17,aI k),(5,.ip none [AA b.params,B7 b.ins,aI b.term.kind,aI b.term.arg,aI b.term.n,AA b.term.cases,An b.term.to]),(6,.mp O.length 0),(55,An b.term.to),(56,aI b.term.to.length),(57,aI X.1.z)],X.1.O⟩) (fun X=>b.term.to.length-X.1.z) ⟨⟨0,0,O6⟩,A6,hE⟩ ?_ ?_)
   ·refine C6 ?_
    all_goals rfl
   rintro⟨⟨z,tid,O3⟩,hz,hE⟩;simp only at hz hE;have LD:=hE.len;refine C3 (fun h=>?_) (fun h=>?_)
   ·refine Az ?_;have IA:z<b.term.to.length:=Aa
    obtain⟨e,he⟩:∃e,b.term.to[z]?=some e:=⟨b.term.to[z],Uh⟩
    have Hg:=B8 e.args (Mi e (AK he));have Cg:=hE.cell;have XE:b.term.to.take (z+1)=b.term.to.take z++[e]:=by rw[Fs,he];rfl
    have CI:(b.term.to.take z).length=z:=NF
    have Tr:=AE Cg;refine ac0 he ?_ ?_ ?_
    ·exact hE.up
    ·exact acN Tr
    by_cases TT:b.term.to.take z=[]
    ·have XM:Jh tid (b.term.to.take z)=.A3 2 [] .ex:=A9 TT;rw[XM]at Cg;have Mw:∀X,(O3++X)[O.length]?=some (.cells (CS (O.length+1) b b.ins (.A3 2 [] .ex))):=fun X=>D8 Cg;refine acZ Cg Mw Cg Mw ?_;have El:Oc O (CS (O.length+1) b b.ins) O3.length (b.term.to.take z++[e]) ((O3++[A8.cells [aI e.block,AA e.args]]).set O.length (.cells (CS (O.length+1) b b.ins (.os O3.length 1 2)))):=hE.push e (fun v n hv hn=>Q1 b _ I hv) rfl hE.up (fun _ _=>rfl) jP jP;refine acX ?_;generalize (O3++[A8.cells [aI e.block,AA e.args]]).set O.length (.cells (CS (O.length+1) b b.ins (.os O3.length 1 2)))=O7 at *;refine Bw ?_;refine⟨⟨⟨z+1,O3.length,O7⟩,IA,jH⟩,Ai,?_⟩;refine Ba ?_ ?_
     ·exact BY
     rfl
    obtain⟨o1,o2⟩:=hE.own TT;have XM:Jh tid (b.term.to.take z)=.os tid z 2:=by
     unfold Jh;rw[A4 TT,CI]
    rw[XM]at Cg;have Mw:∀X,(O3.set tid .gone++X)[O.length]?=some (.cells (CS (O.length+1) b b.ins (.os tid z 2))):=fun X=>D8 (EY Cg I);have Hv:(B5 (b.term.to.take z)).take (z*2)=B5 (b.term.to.take z):=Cb abL;have IB:=Q5 (b.term.to.take z);rw[CI]at IB;refine Dn ?_;simp -dsimp only[simprocAttr,↓AG,zp,Cg,Mw,CS,o2,Hv,IB,LH,Kq]
    refine Ef ?_
    refine .inl ⟨_,Hg,MK,B4 ?_⟩;simp -dsimp only[simprocAttr,↓AG,zp,Cg,Mw,CS,o2,Hv,IB,LH,Kq]
    refine YZ ?_;refine Gj ?_;have El:Oc O (CS (O.length+1) b b.ins) O3.length (b.term.to.take z++[e]) ((O3.set tid .gone++[A8.cells (B5 (b.term.to.take z)++[aI e.block,AA e.args])]).set O.length (.cells (CS (O.length+1) b b.ins (.os O3.length (z+1) 2)))):=hE.push (O4:=O3.set tid .gone) e (fun v n hv hn=>Q1 b _ I hv) (B2) (DY hE.up trivial) (fun k hk=>abf) (by rw[vj]) (by rw[CI]);refine ac5 ?_;generalize (O3.set tid .gone++[A8.cells (B5 (b.term.to.take z)++[aI e.block,AA e.args])]).set O.length (.cells (CS (O.length+1) b b.ins (.os O3.length (z+1) 2)))=O7 at *;refine Bw ?_;refine⟨⟨⟨z+1,O3.length,O7⟩,IA,jH⟩,Ai,?_⟩;refine Ba ?_ ?_
    ·exact BY
    rfl
   refine BO ?_;have IY:b.term.to.length<=z:=by
    have:=G0 h;omega
   rw[Cb IY]at hE;have Cg:=hE.cell;have Cm:=hS.out;have Ml:=hE.Iu 4 I;rw[Cm]at Ml;have OY:(f.blocks.take k).length=k:=NF
   have IQ:=hE.own;have Tr:=AE Cg;by_cases ES:f.blocks.take k=[]
   ·have Ex:I2 AS (f.blocks.take k)=.A3 7 [] .ex:=A9 ES;rw[Ex]at Ml;have XC:∀X,(O3++X)[4]?=some (.cells [aI f.name,.A3 7 [] .ex]):=fun X=>D8 Ml;refine TW ?_;simp -dsimp only[simprocAttr,↓AG,zp,Cg,CS,Ml,XC,LH,Kq,tx,tw]
    refine Yi ?_;have El:TY f (f.blocks.take k++[b]) O3.length (ids++[tid]) ((O3++[A8.cells (Fx tid b)]).set 4 (.cells [aI f.name,.os O3.length 1 7])):=hS.snoc I hE.up (fun k hk _=>hE.Iu k hk) (fun q=>⟨jD,(IQ q).2⟩) (by rw[tK hS.cp.li,ES];simp[C9]) jQ;show AU prog _ _ _ ⟨_,_,(O3++[A8.cells (Fx tid b)]).set 4 (.cells [aI f.name,.os O3.length 1 7])⟩;generalize (O3++[A8.cells (Fx tid b)]).set 4 (.cells [aI f.name,.os O3.length 1 7])=O7 at *;refine Bw ?_;refine⟨⟨⟨k+1,O3.length,ids++[tid],O7⟩,AF,jC⟩,Ai,?_⟩;refine Ba ?_ ?_
    ·exact BY
    rfl
   obtain⟨b1,b2⟩:=hS.blk ES;have CN:=AE b2;have b3:=hE.Iu AS CN;rw[b2]at b3;have Ex:I2 AS (f.blocks.take k)=.os AS k 7:=by
    unfold I2;rw[A4 ES,OY]
   rw[Ex]at Ml;have XC:∀X,(O3.set AS .gone++X)[4]?=some (.cells [aI f.name,.os AS k 7]):=fun X=>D8 (EY Ml I);have Qd:=UE hS.cp.li;rw[OY]at Qd;have Hv:(C9 ids (f.blocks.take k)).take (k*7)=C9 ids (f.blocks.take k):=Cb I;refine Dn ?_;simp -dsimp only[simprocAttr,↓AG,zp,Cg,CS,Ml,XC,b3,Hv,Qd,LH,Kq,tx,tw]
   refine Yi ?_;have El:TY f (f.blocks.take k++[b]) O3.length (ids++[tid]) ((O3.set AS .gone++[A8.cells (C9 ids (f.blocks.take k)++Fx tid b)]).set 4 (.cells [aI f.name,.os O3.length (k+1) 7])):=by
    have:=hS.snoc (O1:=O3.set AS .gone) (b:=b) (tid:=tid) dY abI (fun k hk Lh=>aat) (fun q=>⟨jD,aao⟩) (tK hS.cp.li tid b).symm rfl;rw[B2,OY]at this;exact Cd
   show AU prog _ _ _ ⟨_,_,(O3.set AS .gone++[A8.cells (C9 ids (f.blocks.take k)++Fx tid b)]).set 4 (.cells [aI f.name,.os O3.length (k+1) 7])⟩;generalize (O3.set AS .gone++[A8.cells (C9 ids (f.blocks.take k)++Fx tid b)]).set 4 (.cells [aI f.name,.os O3.length (k+1) 7])=O7 at *;refine Bw ?_;refine⟨⟨⟨k+1,O3.length,ids++[tid],O7⟩,AF,jC⟩,Ai,?_⟩;refine Ba ?_ ?_
   ·exact BY
   rfl
  refine BO ?_;have SR:k=N:=by
   have:=G0 h;omega
  subst SR;rw[Cb I]at hS;have Cm:=hS.out;have hr3:=hS.r3;have Ex:I2 AS f.blocks=.os AS f.blocks.length 7:=A4 AT;rw[Ex]at Cm;have CN:=AE (hS.blk AT).2;have hR:=hS.done AT (cs:=[aI f.name,.os AS f.blocks.length 7]) ⟨trivial,CN,trivial⟩;have Xa:=AE hr3;have oV:(O.set 3 (.cells [aI f.name,.os AS f.blocks.length 7]))[3]?=some (.cells [aI f.name,.os AS f.blocks.length 7]):=Bb Xa;refine KJ Cm hr3 ?_;exact ad8 oV hR
 exact Be
open Go.Av Go.Sort
def qc0:Go.Shelf.Ren:=⟨fun|125=>68|128=>102|129=>103|189=>40|215=>93|216=>64|257=>67|294=>94|295=>95|296=>96|297=>97|298=>98|299=>99|300=>100|301=>101|328=>122|329=>123|330=>124|331=>125|332=>126|343=>147|n=>n,fun|0=>0|3=>3|4=>4|5=>5|9=>9|28=>41|46=>110|51=>158|53=>140|131=>88|182=>152|183=>153|218=>191|222=>195|228=>211|229=>212|n=>n,fun n=>n⟩
theorem xO:Go.Proofs.Lays.n189 prog qc0:={
 mixed:=CW,
 f125:=Tryz.func68.trans (Dj some CW),
 f128:=Tryz.func102.trans (Dj some CW),
 f129:=Tryz.func103.trans (Dj some CW),
 f189:=Tryz.func40.trans (Dj some CW),
 f215:=Tryz.func93.trans (Dj some CW),
 f216:=Tryz.func64.trans (Dj some CW),
 f257:=Tryz.func67.trans (Dj some CW),
 f294:=Tryz.func94.trans (Dj some CW),
 f295:=Tryz.func95.trans (Dj some CW),
 f296:=Tryz.func96.trans (Dj some CW),
 f297:=Tryz.func97.trans (Dj some CW),
 f298:=Tryz.func98.trans (Dj some CW),
 f299:=Tryz.func99.trans (Dj some CW),
 f300:=Tryz.func100.trans (Dj some CW),
 f301:=Tryz.func101.trans (Dj some CW),
 f328:=Tryz.func122.trans (Dj some CW),
 f329:=Tryz.func123.trans (Dj some CW),
 f330:=Tryz.func124.trans (Dj some CW),
 f331:=Tryz.func125.trans (Dj some CW),
 f332:=Tryz.func126.trans (Dj some CW),
 f343:=Tryz.func147.trans (Dj some CW),
 t0:=Tryz.underlying0,
 a0:=Tryz.isAgg0,
 z0:=Tryz.sizeOf0,
 v0:=Tryz.zeroValue0,
 t3:=Tryz.underlying3,
 a3:=Tryz.isAgg3,
 z3:=Tryz.sizeOf3,
 v3:=Tryz.zeroValue3,
 t4:=Tryz.underlying4,
 a4:=Tryz.isAgg4,
 z4:=Tryz.sizeOf4,
 v4:=Tryz.zeroValue4,
 t5:=Tryz.underlying5,
 a5:=Tryz.isAgg5,
 z5:=Tryz.sizeOf5,
 v5:=Tryz.zeroValue5,
 t9:=Tryz.underlying9,
 a9:=Tryz.isAgg9,
 z9:=Tryz.sizeOf9,
 v9:=Tryz.zeroValue9,
 t28:=Tryz.underlying41,
 a28:=Tryz.isAgg41,
 z28:=Tryz.sizeOf41,
 v28:=Tryz.zeroValue41,
 t46:=Tryz.underlying110,
 a46:=Tryz.isAgg110,
 z46:=Tryz.sizeOf110,
 v46:=Tryz.zeroValue110,
 t51:=Tryz.underlying158,
 a51:=Tryz.isAgg158,
 z51:=Tryz.sizeOf158,
 v51:=Tryz.zeroValue158,
 t53:=Tryz.underlying140,
 a53:=Tryz.isAgg140,
 z53:=Tryz.sizeOf140,
 v53:=Tryz.zeroValue140,
 t131:=Tryz.underlying88,
 a131:=Tryz.isAgg88,
 z131:=Tryz.sizeOf88,
 v131:=Tryz.zeroValue88,
 t182:=Tryz.underlying152,
 a182:=Tryz.isAgg152,
 z182:=Tryz.sizeOf152,
 v182:=Tryz.zeroValue152,
 t183:=Tryz.underlying153,
 a183:=Tryz.isAgg153,
 z183:=Tryz.sizeOf153,
 v183:=Tryz.zeroValue153,
 t218:=Tryz.underlying191,
 a218:=Tryz.isAgg191,
 z218:=Tryz.sizeOf191,
 v218:=Tryz.zeroValue191,
 t222:=Tryz.underlying195,
 a222:=Tryz.isAgg195,
 z222:=Tryz.sizeOf195,
 v222:=Tryz.zeroValue195,
 t228:=Tryz.underlying211,
 a228:=Tryz.isAgg211,
 z228:=Tryz.sizeOf211,
 v228:=Tryz.zeroValue211,
 t229:=Tryz.underlying212,
 a229:=Tryz.isAgg212,
 z229:=Tryz.sizeOf212,
 v229:=Tryz.zeroValue212 }
theorem qdn:ue prog 40:=fun blk off cap zs w h1 h2 h3=>Any.slices_Sort_int xO blk off cap zs w h1 h2 h3
theorem aet:Go.Av.Enters prog 40:=⟨_,func40,CW,CW⟩
theorem qfI{id:Nat}{zs:List Int}(ho:O[id]?=some (.cells (zs.map aI)))(hl:zs.length<=1000) :
  Aq prog 40 O [.os id zs.length 1] (fun r O'=>r=.Ab []∧O'=O.set id (.cells ((Rp zs).map aI))):=qc5 aet qdn ho hl
theorem qag(p:Option Addr)(cap:Nat)(w:World):Calls prog 40 #[.slice p 0 cap] w fun e w'=>e=.returned (.tuple #[])∧w'=w:=Any.slices_Sort_int_none xO p cap w
theorem qhd(O:List A8):Aq prog 40 O [.A3 1 [] .sh] (fun r O'=>r=.Ab []∧O'=O):=by
 refine⟨aet,fun g vs hg Qi Ma=>?_⟩;obtain⟨h1,h2⟩:=Ma;simp only[IU]at h1;have Nh:vs[0]?=some (vs[0]' I):=UO _;have hr:=h2 0 _ _ rfl Nh;have hv:∃p cap,vs = #[.slice p 0 cap]:=by
  have:∃p cap,vs[0]' I=.slice p 0 cap:=by
   generalize vs[0]' I=u at hr;cases hr with
   | nil=>exact⟨_,_,rfl⟩
   | A3=>exact⟨_,_,rfl⟩
  obtain⟨p,cap,e⟩:=this;refine⟨p,cap,?_⟩;apply Array.ext
  ·simpa using h1
  intro i NZ Na;have:i=0:=I
  subst this;exact e
 obtain⟨p,cap,rfl⟩:=hv;refine(qag p cap g.w).mono ?_;rintro e w' ⟨rfl,rfl⟩;exact⟨g,_,.Ab [],rfl,rfl,Le.refl g,hg,.Ab rfl A6,rfl,Qi⟩
theorem qbf(AN:∀o∈O,o.upto O.length)(l:List Bool)(hl:l≠[])(J6:l.length<=2 ^ 40) :
  Aq prog 127 O [.A3 1 (l.map eB) .nn] (fun r O'=>r=.ms O.length 0 l.length l.length∧O'=O++[.cells (l.map eB)]):=by
 have Bh:O.length<=O.length+1:=I
 have Qw:¬l.length=0:=fun e=>hl (List.length_eq_zero_iff.1 e);have hc:=vi l;have hs:=qeT l;have BA:(O++[A8.cells (l.map eB)]).take (O.length+1)=O++[A8.cells (l.map eB)]:=Cb A6;have IX:∀o∈O++[A8.cells (l.map eB)],o.upto (O.length+1):=Zc (fun o ho=>A8.IK I (AN o ho)) (SY _ _);refine Ly hT true (O.length+1) func127 rfl CW (by simp[ntmps127]) I8 ?_;show AU prog _ _ _ ⟨8,_,_⟩;refine Yj ?_;refine FE ?_;refine zm1 ?_;refine Ri hc hs ?_
 refine D1 ?_;refine F3 ?_;simp -dsimp only[simprocAttr,↓AG,zp,zr,results127,BA];exact⟨IX,I⟩
theorem qbV(l m:List Bool):BR prog 105 [.A3 1 (l.map eB) .sh,.A3 1 (m.map eB) .sh] (.v (.bool (decide (l=m)))):=by
 by_cases hlen:l.length=m.length
 ·have DB:decide ((l.length:Int)=m.length)=true:=Ar I;obtain⟨R,hR⟩:∃R,R=decide (l=m):=⟨_,rfl⟩
  rw[<-hR];refine zf true 0 func105 ntmps105 ?_;refine Cw ?_;refine LN 0 rfl (fun J6=>?_);simp only[BE]at J6;refine HZ DB ?_;apply AZ rfl<;>intro h
  ·cases h
  refine Az ?_;refine BF ?_;refine Al (BZ (ι:={k:Nat // k<=l.length∧R=decide (l.drop k=m.drop k)}) (fun k=>⟨26,[(0,.A3 1 (l.map eB) .sh),(1,.A3 1 (m.map eB) .sh),(4,.v (.bool false)),(12,aI l.length),(13,aI k.1)],[]⟩) (fun k=>l.length-k.1) ⟨0,I,hR⟩ ?_ ?_)
  ·exact JU
  rintro⟨k,hk,Af⟩;refine C3 (fun h=>?_) (fun h=>?_)
  ·refine Az ?_;have AF:k<l.length:=Aa
   obtain⟨a,ha⟩:∃a,l[k]?=some a:=⟨l[k],Gu⟩
   obtain⟨b,hb⟩:∃b,m[k]?=some b:=⟨m[k]' I,AY _⟩
   rw[D9 ha,D9 hb]at Af;simp only[WC,Bool.decide_and]at Af;refine PF ?_;refine B9 ?_;simp -dsimp only[simprocAttr,↓AG,zp,ha,hb,eB];refine⟨Tryz.underlying4,?_⟩;refine Gj ?_;apply AZ rfl<;>intro h
   ·refine D7 ?_;simp -dsimp only[simprocAttr,↓AG,zp,zr,results105];rw[Af,Ac (show ¬a=b from Aa)];rfl
   refine H2 ?_;rw[Ar (show a=b from Aa),PA]at Af;refine Bw ?_;refine kM ?_ ?_
   ·exact BY
   rfl
  refine BO ?_;have Bh:k=l.length:=Ee
  subst Bh;rw[F',hlen,F']at Af;refine D7 ?_;simp -dsimp only[simprocAttr,↓AG,zp,zr,results105];rw[Af];rfl
 have DB:decide ((l.length:Int)=m.length)=false:=Ac I;rw[Ac (fun e=>hlen jg)];refine zf true 0 func105 ntmps105 ?_;refine Cw ?_;refine HZ DB ?_;refine E3 ?_;simp -dsimp only[simprocAttr,↓AG,zp,zr,results105]
def Ob(many:Nat)(v:Int):Prop:=0<=v∧v<many
end Go.Proofs.YtjdnhamngpafmaaGreat
namespace Go.Av
end Go.Av
namespace Go.Proofs.YtjdnhamngpafmaaGreat
open Go.Av Tryz
def lL{X:Type}(step:X->Nat->List Bool->X)(l:List Ins):Nat->X->List Bool->X
 | 0,x,s=>step x 0 s
 | n+1,x,s=>match l[n]? with
  | none=>x
  | some i=>lL step l n (step x (n+1) s) (Mz i s)
def Hs(l:List Bool)(v:Nat):Prop:=l[v]?=some true
variable {l:List Bool}{v:Nat}
theorem Hs.lt(h:Hs l v):v<l.length:=(List.getElem?_eq_some_iff.1 h).1
theorem bJ{j:Nat}{b:Bool}:Hs (l.set j b) v↔(v=j∧b=true∧v<l.length)∨(v≠j∧Hs l v):=by
 unfold Hs;rw[FD];by_cases e:j=v
 ·subst e;by_cases h:j<l.length
  ·simp[h]
  simp[h]
 rw[A4 e];have:v≠j:=fun q=>e q.symm;simp[this]
variable {w:Nat}
theorem nA{b:Bool}{x:Int}(hx:x.toNat=v):Hs (JP l x b) w↔(w=v∧b=true∧w<l.length)∨(w≠v∧Hs l w):=by
 rw[JP,hx,bJ]
theorem tE:∀(vs:List Int) (l:List Bool) (w:Nat),Hs (QE l vs) w↔Hs l w∨(w<l.length∧∃a∈vs,w=a.toNat)
 | [],l,w=>by simp[QE]
 | v::r,l,w=>by
  have ih:=tE r (JP l v true) w;rw[Y',nA rfl]at ih;have e:QE l (v::r)=QE (JP l v true) r:=rfl;rw[e,ih];constructor
  ·rintro((⟨h1,_,h2⟩|⟨_,h1⟩)|⟨h1,a,h2,h3⟩)
   ·exact .inr ⟨h2,v,A6,h1⟩
   ·exact .inl h1
   exact .inr ⟨h1,a,Ud,h3⟩
  rintro(h|⟨h1,a,h2,h3⟩)
  ·by_cases q:w=v.toNat
   ·exact .inl (.inl ⟨q,rfl,h.lt⟩)
   exact .inl (.inr ⟨q,h⟩)
  rcases List.mem_cons.1 h2 with q|q
  ·subst q;exact .inl (.inl ⟨h3,rfl,h1⟩)
  exact .inr ⟨h1,a,q,h3⟩
theorem lG(i:Ins)(s:List Bool)(w:Nat):Hs (Mz i s) w↔(w≠i.to.toNat∧Hs s w)∨(w<s.length∧∃a∈i.args,w=a.toNat):=by
 rw[Mz,tE,Y',nA rfl];simp
theorem vt(ps:List Int):∀(S:List Bool) (v:Nat) (out:List Bool) (w:Nat),Hs (QJ ps v S out) w↔Hs out w∨(w<out.length∧Lf ps w=false∧∃j,Hs S j∧w=v+j)
 | [],v,out,w=>by simp[QJ,Hs]
 | is::r,v,out,w=>by
  have ih:=vt ps r (v+1) (if is&&!Lf ps v then out.set v true else out) w;have hl:(if is&&!Lf ps v then out.set v true else out).length=out.length:=by split<;>simp
  rw[QJ,ih,hl];constructor
  ·rintro(h|⟨h1,h2,j,h3,h4⟩)
   ·split at h
    ·rename_i hc;rcases bJ.1 h with⟨h1,_,h2⟩|⟨_,h1⟩
     ·simp only[F0,OI]at hc;subst h1;exact .inr ⟨h2,hc.2,0,by simp[Hs,hc.1],I⟩
     exact .inl h1
    exact .inl h
   exact .inr ⟨h1,h2,j+1,qG,I⟩
  rintro(h|⟨h1,h2,j,h3,h4⟩)
  ·refine .inl ?_;split
   ·by_cases q:w=v
    ·exact bJ.2 (.inl ⟨q,rfl,h.lt⟩)
    exact bJ.2 (.inr ⟨q,h⟩)
   exact h
  cases j with
  | zero =>
   have h3':is=true:=qG
   have h4':w=v:=I
   subst h4';refine .inl ?_;rw[A9 (by simp[h3',h2])];exact bJ.2 (.inl ⟨rfl,rfl,h1⟩)
  | succ j=>exact .inr ⟨h1,h2,j,qG,I⟩
theorem lj(f:Func)(first:List (List Bool)):∀(l:List Edge) (out:List Bool) (w:Nat),Hs (l.foldl (MB f first) out) w↔Hs out w∨(w<out.length∧∃e∈l,Hs (G5 first e.block) w∧Lf (A7 f e.block).params w=false)
 | [],out,w=>by simp
 | e::r,out,w=>by
  have ih:=lj f first r (MB f first out e) w
  rw[HG,ih];rw[show(MB f first out e).length=out.length from kT ..];unfold MB;rw[vt];constructor
  ·rintro((h|⟨h1,h2,j,h3,h4⟩)|⟨h1,x,h2,h3,h4⟩)
   ·exact .inl h
   ·have:w=j:=I
    subst this;exact .inr ⟨h1,e,A6,h3,h2⟩
   exact .inr ⟨h1,x,Ud,h3,h4⟩
  rintro(h|⟨h1,x,h2,h3,h4⟩)
  ·exact .inl (.inl h)
  rcases List.mem_cons.1 h2 with q|q
  ·subst q;exact .inl (.inr ⟨h1,h4,w,h3,I⟩)
  exact .inr ⟨h1,x,q,h3,h4⟩
theorem vr:∀(l:List Edge) (out:List Bool) (w:Nat),Hs (l.foldl (fun o e=>QE o e.args) out) w↔Hs out w∨(w<out.length∧∃e∈l,∃a∈e.args,w=a.toNat)
 | [],out,w=>by simp
 | e::r,out,w=>by
  have ih:=vr r (QE out e.args) w;rw[HG,ih,jS,tE];constructor
  ·rintro((h|⟨h1,h2⟩)|⟨h1,x,h2,h3⟩)
   ·exact .inl h
   ·exact .inr ⟨h1,e,A6,h2⟩
   exact .inr ⟨h1,x,Ud,h3⟩
  rintro(h|⟨h1,x,h2,h3⟩)
  ·exact .inl (.inl h)
  rcases List.mem_cons.1 h2 with q|q
  ·subst q;exact .inl (.inr ⟨h1,h3⟩)
  exact .inr ⟨h1,x,q,h3⟩
variable {n:Nat}
theorem lh:¬Hs (List.replicate n false) w:=by
 unfold Hs;rw[YA];split<;>simp
theorem lk(f:Func)(many:Nat)(first:List (List Bool))(t:Term)(w:Nat):Hs (OC f many first t) w↔w<many∧((∃e∈t.to,Hs (G5 first e.block) w∧Lf (A7 f e.block).params w=false)∨(IL t=true∧w=t.arg.toNat)∨∃e∈t.to,∃a∈e.args,w=a.toNat):=by
 have hl:(t.to.foldl (MB f first) (List.replicate many false)).length=many:=by rw[kp,OG]
 rw[OC,Z1,vr];have key:Hs (if IL t then JP (t.to.foldl (MB f first) (List.replicate many false)) t.arg true else t.to.foldl (MB f first) (List.replicate many false)) w↔w<many∧((∃e∈t.to,Hs (G5 first e.block) w∧Lf (A7 f e.block).params w=false)∨(IL t=true∧w=t.arg.toNat)):=by
  split
  ·rename_i hu;rw[nA rfl,lj,OG,hl];constructor
   ·rintro(⟨h1,_,h2⟩|⟨_,h|⟨h1,h2⟩⟩)
    ·exact⟨h2,.inr ⟨hu,h1⟩⟩
    ·exact B3 h lh
    exact⟨h1,.inl h2⟩
   rintro⟨h1,h2|⟨_,h2⟩⟩
   ·by_cases q:w=t.arg.toNat
    ·exact .inl ⟨q,rfl,h1⟩
    exact .inr ⟨q,.inr ⟨h1,h2⟩⟩
   exact .inl ⟨h2,rfl,h1⟩
  rename_i hu;rw[lj,OG];constructor
  ·rintro(h|⟨h1,h2⟩)
   ·exact B3 h lh
   exact⟨h1,.inl h2⟩
  rintro⟨h1,h2|⟨q,_⟩⟩
  ·exact .inr ⟨h1,h2⟩
  exact B3 q hu
 have Ju:(if IL t then JP (t.to.foldl (MB f first) (List.replicate many false)) t.arg true else t.to.foldl (MB f first) (List.replicate many false)).length=many:=by
  split
  ·rw[Y',hl]
  exact hl
 rw[key,Ju];constructor
 ·rintro(⟨h1,h2|h2⟩|⟨h1,h2⟩)
  ·exact⟨h1,.inl h2⟩
  ·exact⟨h1,.inr (.inl h2)⟩
  exact⟨h1,.inr (.inr h2)⟩
 rintro⟨h1,h2|h2|h2⟩
 ·exact .inl ⟨h1,.inl h2⟩
 ·exact .inl ⟨h1,.inr h2⟩
 exact .inr ⟨h1,h2⟩
def Ta(a b:List Bool):Prop:=∀v,Hs a v->Hs b v
theorem xQ:∀(a b:List Bool),a.length=b.length->Ta a b->a.countP id<=b.countP id∧(a≠b->a.countP id<b.countP id)
 | [],[],_,_=>by simp
 | [],_::_,h,_=>by simp at h
 | _::_,[],h,_=>by simp at h
 | x::a,y::b,hl,h=>by
  have ih:=xQ a b OL (fun v hv=>by
   have:=h (v+1) (by simpa[Hs]using hv);simpa[Hs]using this)
  have h0:=h 0;simp only[Hs,Dh,AM]at h0;rw[YE,YE];cases x<;>cases y<;>simp at h0 ⊢
  ·exact ih
  ·omega
  exact ih
theorem qa6:∀(l:List Ins) {a b:List Bool},a.length=b.length->Ta a b->Ta (HP l a) (HP l b)
 | [],_,_,_,h=>h
 | i::r,a,b,hl,h=>by
  have ih:=qa6 r hl h;have Ju:(HP r a).length=(HP r b).length:=by rw[ca,ca,hl]
  intro v hv;have e:∀s,HP (i::r) s=Mz i (HP r s):=fun s=>rfl;rw[e,lG]at hv;rw[e,lG];rcases hv with⟨h1,h2⟩|⟨h1,h2⟩
  ·exact .inl ⟨h1,ih v h2⟩
  exact .inr ⟨I,h2⟩
variable {f:Func}
theorem qdJ{many:Nat}{A B:List (List Bool)}(h:∀k,Ta (G5 A k) (G5 B k))(t:Term):Ta (OC f many A t) (OC f many B t):=fun v hv=>by
 rw[lk]at hv ⊢;obtain⟨h1,h2⟩:=hv;refine⟨h1,?_⟩;rcases h2 with⟨e,he,h3,h4⟩|h2
 ·exact .inl ⟨e,he,h _ v h3,h4⟩
 exact .inr h2
theorem kW{v:Int}:∀(l:List Bool) (n:Nat),v∈DC n l->∃j:Nat,Hs l j∧v=n+j
 | [],n,h=>by simp[DC]at h
 | is::r,n,h=>by
  simp only[DC]at h;split at h
  ·rename_i hc;rcases List.mem_cons.1 h with q|q
   ·exact⟨0,by simp[Hs,hc],I⟩
   obtain⟨j,h1,h2⟩:=kW r (n+1) q;exact⟨j+1,by simpa[Hs]using h1,I⟩
  obtain⟨j,h1,h2⟩:=kW r (n+1) h;exact⟨j+1,by simpa[Hs]using h1,I⟩
theorem iQ(to op n:Int)(l:List Int):BR prog 56 [aI to,aI op,aI n,AA l] (.agg [aI to,aI op,aI n,AA l]):=by
 refine zf true 0 func56 ntmps56 ?_;refine Cw ?_;refine D7 ?_;simp -dsimp only[simprocAttr,↓AG,zp,zr,results56];simp[AQ,A2.upto,BU]
theorem aem(k:Int)(l:List Int):BR prog 57 [aI k,AA l] (.agg [aI 1,aI 0,aI 0,AA [],.A3 2 [.agg [aI k,AA l]] .sh]):=by
 refine zf true 0 func57 ntmps57 ?_;refine Cw ?_;refine D7 ?_;simp -dsimp only[simprocAttr,↓AG,zp,zr,results57];simp[AQ,A2.upto,BU]
theorem tI(to op n:Int):BR prog 56 [aI to,aI op,aI n,.v (.slice none 0 0)] (.agg [aI to,aI op,aI n,AA []]):=by
 have h:=iQ to op n [];exact⟨h.1,fun g vs hg ho ha=>h.2 g vs hg ho ⟨ha.1,fun i c u hc hu=>by
  match i,hc,hu with
  | 0,hc,hu=>exact ha.2 0 c u hc hu
  | 1,hc,hu=>exact ha.2 1 c u hc hu
  | 2,hc,hu=>exact ha.2 2 c u hc hu
  | 3,hc,hu =>
   simp only[LY,Dh,AM]at hc;subst hc;have:=(ha.2 3 _ u rfl hu).D0.1;subst this;exact rm
  | i+4,hc,_=>simp at hc⟩⟩
def bD:Ad:=⟨[⟨-1,[
 ⟨[],[⟨0,0,0,[]⟩],⟨1,0,0,[],[⟨1,[0]⟩]⟩⟩,
 ⟨[1],[⟨2,0,3,[]⟩,⟨3,6,0,[1,2]⟩],⟨2,3,0,[],[⟨2,[]⟩,⟨3,[]⟩]⟩⟩,
 ⟨[],[⟨4,15,0,[1]⟩,⟨5,0,1,[]⟩,⟨6,1,0,[1,5]⟩],⟨1,0,0,[],[⟨1,[6]⟩]⟩⟩,
 ⟨[],[],⟨0,1,0,[],[]⟩⟩]⟩],0⟩
theorem qeQ:runM bD 27=⟨[0,1,2],0,3,27,0⟩:=by kernel_rfl
theorem qcm:BR prog 29 [] bD.enc:=by
 refine zf true 0 func29 ntmps29 ?_;refine Cw ?_;refine Cc ?_;refine Cc ?_;refine BM ?_;refine zi ((tI 0 0 0)) ?_;refine zi ((aem 1 [0])) ?_;refine zi ((tI 2 0 3)) ?_;refine zi ((iQ 3 6 0 [1,2])) ?_;refine zi ((iQ 4 15 0 [1])) ?_;refine zi ((tI 5 0 1)) ?_;refine zi ((iQ 6 1 0 [1,5])) ?_;refine zi ((aem 1 [6])) ?_;refine E9 ?_;simp -dsimp only[simprocAttr,↓AG,zp,zr,results29];exact⟨jN,rfl⟩
theorem qcl:bD.fit:=by
 simp[bD,Ad.fit,Func.fit,Block.fit,Ins.fit,Term.fit,Edge.fit,Bi,It]
theorem qdb:BR prog 8 [] (.v (.bool true)):=by
 have Aj:=lC bD qcl 27;rw[qeQ]at Aj;have J5:=zk [0,1,2] [0,1,2] 0 0 3 3;have VJ:=qcm;unfold TX.enc at Aj;unfold ZC at J5;simp only[Bc,Ed,decide_true,Bool.and_self]at Aj J5;generalize bD=u at *;refine zf true 0 func8 ntmps8 ?_;refine LZ ?_;refine zi VJ ?_;refine zi Aj ?_;refine Ak ?_;refine BM ?_;refine zi J5 ?_;refine E9 ?_;simp -dsimp only[simprocAttr,↓AG,zp,zr,results8]
theorem tG{j:Nat}:∀(l:List Bool) (n:Nat),Hs l j->((n+j:Nat):Int)∈DC n l
 | [],n,h=>by simp[Hs]at h
 | is::r,n,h=>by
  simp only[DC];cases j with
  | zero =>
   simp only[Hs,Dh,AM]at h;rw[A9 h];exact DQ
  | succ j =>
   have ih:=tG r (n+1) (j:=j) (by simpa[Hs]using h);rw[show n+1+j=n+(j+1) from I]at ih;split
   ·exact Dw _ ih
   exact ih
theorem aey{X:Type}{step:X->Nat->List Bool->X}{l:List Ins}{J:Nat->X->List Bool->Prop}(hs:∀n x s i,l[n]?=some i->J (n+1) x s->J n (step x (n+1) s) (Mz i s)):∀n x s,n<=l.length->J n x s->∃x' s',J 0 x' s'∧lL step l n x s=step x' 0 s'
 | 0,x,s,_,h=>⟨x,s,h,rfl⟩
 | n+1,x,s,hn,h=>by
  obtain⟨i,hi⟩:∃i,l[n]?=some i:=⟨l[n],AY _⟩
  obtain⟨x',s',h1,h2⟩:=aey hs n _ _ I (hs n x s i hi h);refine⟨x',s',h1,?_⟩;simp only[lL,hi];exact h2
def setAt(f:Func)(S:List (List Bool))(k n:Nat):List Bool:=HP ((A7 f k).ins.drop n) (S[k]?.getD [])
variable {k:Nat}
theorem qdj{S:List (List Bool)}{i:Ins}(h:(A7 f k).ins[n]?=some i):setAt f S k n=Mz i (setAt f S k (n+1)):=by
 unfold setAt;rw[D9 h];rfl
theorem Xk:∀(l:List Bool) (n:Nat),(DC n l).length=l.countP id
 | [],_=>rfl
 | a::r,n=>by
  have:=Xk r (n+1);cases a<;>simp[DC,this]
def ni(v w:Nat)(s:List Bool):Bool:=s[v]?.getD false&&s[w]?.getD false
def fG(v w:Nat)(x:Bool)(_:Nat)(s:List Bool):Bool:=x ||ni v w s
theorem inBlock{S:List (List Bool)}{s0:List Bool}(Of:S[k]?=some s0)(x0:Bool) :
  lL (fG v w) (A7 f k).ins (A7 f k).ins.length x0 s0=true↔x0=true∨∃n,n<=(A7 f k).ins.length∧ni v w (setAt f S k n)=true:=by
 obtain⟨x',s',⟨j1,j2,j3⟩,he⟩:=aey (step:=fG v w) (l:=(A7 f k).ins) (J:=fun n x s=>s=setAt f S k n∧n<=(A7 f k).ins.length∧(x=true↔x0=true∨∃m,n<m∧m<=(A7 f k).ins.length∧ni v w (setAt f S k m)=true)) (fun n x s i hi ⟨j1,j2,j3⟩=>by
   subst j1;refine⟨(qdj hi).symm,I,?_⟩;rw[fG,Hq,j3];constructor
   ·rintro((q|⟨m,q1,q2,q3⟩)|q)
    ·exact JV
    ·exact .inr ⟨m,I,q2,q3⟩
    exact .inr ⟨n+1,I,j2,q⟩
   rintro(q|⟨m,q1,q2,q3⟩)
   ·exact .inl (.inl q)
   by_cases e:m=n+1
   ·subst e;exact .inr q3
   exact .inl (.inr ⟨m,I,q2,q3⟩))
  (A7 f k).ins.length x0 s0 (B6 _) ⟨by simp[setAt,Of,HP],B6 _,⟨fun q=>.inl q,fun q=>by
   rcases q with q|⟨m,q1,q2,_⟩
   ·exact q
   omega⟩⟩
 subst j1;rw[he,fG,Hq,j3];constructor
 ·rintro((q|⟨m,q1,q2,q3⟩)|q)
  ·exact JV
  ·exact .inr ⟨m,q2,q3⟩
  exact .inr ⟨0,I,q⟩
 rintro(q|⟨m,q2,q3⟩)
 ·exact .inl (.inl q)
 by_cases e:m=0
 ·subst e;exact .inr q3
 exact .inl (.inr ⟨m,I,q2,q3⟩)
theorem qee(f:Func)(AO:f.fit)(hc:Cj f=0):∃(O:List A8) (oid:Nat),O[oid]?=some (.cells ((Cf f).map aI))∧(∀o∈O,o.upto O.length) ∧
  Aq prog 52 [] [f.enc] (fun r O'=>r=.Ab [.os oid (Cf f).length 1,aI 0]∧O'=O):=by
 have Jo:=gi f AO;rw[hc]at Jo;have hg:=(Mp AO hc).gr;have J5:=aep f hg;obtain⟨f1,f2,_⟩:=gy hg;have hXS:(N4 f 100000 (QA f)).S=Kb f 100000 (Hi f):=mS f 100000 (QA f);have hX:=lp (f:=f) 100000 _ (kN f);obtain⟨X,hXe⟩:∃X,X=N4 f 100000 (QA f):=⟨_,rfl⟩
 rw[<-hXe]at J5 hX hXS;have Cm:X.S.out=Q9 f:=by rw[hXS];rfl
 unfold Cf;obtain⟨l,hl⟩:∃l,l=Q9 f:=⟨_,rfl⟩
 rw[<-hl]at f1 f2 Cm ⊢;have h1:=hX.out;rw[Cm,cI,A4 f1]at h1;obtain⟨h2,h3,h4⟩:=hX.outs (by rw[Cm];exact f1);rw[Cm]at h2;have AN:=hX.up;obtain⟨S,sid,oid,O⟩:=X;simp only at h1 h2 h3 h4 AN J5;have Jx:=AE h2;have yN:=ads AN h2 I;have Om:(O.set oid (.cells (l.reverse.map aI)))[1]?=some (.cells [.os oid l.length 1]):=EY h1 I;have Qz:(O.set oid (.cells (l.reverse.map aI)))[oid]?=some (.cells (l.reverse.map aI)):=Wh h2;have EC:∀o∈O.set oid (.cells (l.reverse.map aI)),o.upto O.length:=DY AN (BU _ _);have J6:(O.set oid (.cells (l.reverse.map aI))).length=O.length:=A6
 have BA:(O.set oid (.cells (l.reverse.map aI))).take O.length=O.set oid (.cells (l.reverse.map aI)):=LI;refine⟨O.set oid (.cells (l.reverse.map aI)),oid,Qz,by rw[J6];exact EC,?_⟩;rw[List.length_reverse];generalize O.set oid (.cells (l.reverse.map aI))=O2 at *;have Bh:([]:List A8).length<=O.length:=H4 _;refine Ly hT true (O.length) func52 rfl CW (by simp[ntmps52]) I8 ?_;show AU prog _ _ _ ⟨17,_,_⟩;refine KK ?_ ?_
 ·refine ac2 h1 Om ?_;refine F3 ?_;simp -dsimp only[simprocAttr,↓AG,zp,zr,results52,BA,J6];exact⟨EC,⟨Jx,trivial,trivial⟩,rfl⟩
 exact Be
def oe(f:Func):A2:=if Cj f=0 then .Ab [AA (DP f),aI 0]else .Ab [AA [],aI (Cj f)]
theorem qaO(f:Func)(AO:f.fit):BR prog 23 [f.enc] (oe f):=by
 unfold oe;by_cases hc:Cj f=0
 ·rw[A9 hc];obtain⟨O,oid,h1,h2,Pk⟩:=qee f AO hc;have NK:=(Kx (Mp AO hc).gr).few;have Pq:=qfI (O:=O) (id:=oid) (zs:=Cf f) h1 I;have h3:(O.set oid (.cells ((Rp (Cf f)).map aI)))[oid]?=some (.cells ((Rp (Cf f)).map aI)):=Wh h1;have EH:=(cZ (Cf f)).length_eq;unfold DP;generalize O.set oid (.cells ((Rp (Cf f)).map aI))=O2 at *;obtain⟨l,hl⟩:∃l,l=Rp (Cf f):=⟨_,rfl⟩
  rw[<-hl]at h3 EH ⊢;rw[<-EH]at Pq Pk;refine zf true 0 func23 ntmps23 ?_;refine KK ?_ ?_
  ·refine Ei 0 [(1,.ip none [aI f.name,AR f.blocks])] I I [] ?_ ?_ ?_ ?_ ?_
   ·rfl
   ·simp[A8.upto]
   ·exact Es
   ·exact I9
   refine BM ?_;refine .inr (.inl ⟨_,_,Pk,.inl (B4 (zj ?_))⟩);refine Ak ?_;refine BM ?_;refine .inr (.inl ⟨_,_,Pq,.inl (B4 (zj ?_))⟩);refine Ak ?_;refine Cc ?_;refine Cz 2 oid (o:=.cells (l.map aI)) (AA l) h3 Bd trivial rfl (Eh.os (cs:=l.map aI) h3 ?_ ?_ ?_) ?_
   ·intro x hx;obtain⟨c,_,rfl⟩:=List.mem_map.1 hx;rfl
   ·simp
   ·rw[I7,Cb A6];exact sM _
   refine BL ?_;refine F3 ?_;simp -dsimp only[simprocAttr,↓AG,zp,zr,results23];exact adM
  exact Be
 rw[A4 hc];have Pk:=tv f AO;unfold fX at Pk;rw[A4 hc]at Pk;generalize Cj f=e at *;refine zf true 0 func23 ntmps23 ?_;refine KK ?_ ?_
 ·refine BM ?_;refine zi Pk ?_;refine Ak ?_;refine BM ?_;refine .inr (.inl ⟨_,_,(qhd _),.inl (B4 (zj ?_))⟩);refine Ak ?_;refine D7 ?_;simp -dsimp only[simprocAttr,↓AG,zp,zr,results23];exact WZ
 exact Be
theorem qcI(n:Nat):(List.replicate n [A2.v (.int .i64 0)]).flatten=(List.replicate n 0).map aI:=by
 induction n with
 | zero=>rfl
 | succ n ih=>rw[KG,UW,ih,KG];rfl
theorem qk7{l:List Int}{j:Nat}(h:j<l.length)(b:Int):As (l.map aI) j [.v (.int .i64 b)]=(l.set j b).map aI:=by
 rw[LK _ Aa,QM]
theorem qff{l:List Int}{x y:Int}(hl:l.length=k)(hk:k<n):(l++List.replicate (n-k) x).set k y=(l++[y])++List.replicate (n-(k+1)) x:=by
 rw[OF _ _ I,hl,FB,show n-k=(n-(k+1))+1 from I,KG,OH,Ez];rfl
theorem og(AO:f.fit)(hc:Cj f=0):SmW f:=by
 have hw:=Mp AO hc;have hg:=hw.gr;have MO:∀b∈f.blocks,b.params.length<=4096:=fun b hb=>by
  have:=(hw.blk b hb).few;omega
 exact {
  few:=hw.few
  params:=MO
  ins:=hw.ins
  nf:=fun b hb i hi=>(ew ((hw.blk b hb).Yv i hi)).len
  cases:=fun b hb=>(LS (hw.blk b hb).fin).cases
  to:=fun b hb=>hg.to b hb
  nO:=fun b hb e he=>by
   have h1:=(LS (hw.blk b hb).fin).DN e he;rw[h1.2];have hr:=hg.DN b hb e he;have hx:f.blocks[e.block.toNat]?=some (f.blocks[e.block.toNat]' I):=AY _;have:A7 f e.block=f.blocks[e.block.toNat]' I:=by simp[A7,hx]
   rw[this];exact MO _ (MG _) }
def mq(f:Func):A2:=if Cj f=0 then .Ab [(Bj f).enc,AA (FG f),aI 0]else .Ab [.agg [aI 0,.A3 7 [] .sh],.A3 1 [] .sh,aI (Cj f)]
structure Px where
 i:Nat
 oid:Nat
 O:List A8
theorem qdG(f:Func)(AO:f.fit):BR prog 70 [f.enc] (mq f):=by
 have hrr:=qaO f AO;unfold oe at hrr;unfold mq;by_cases hc:Cj f=0
 ·rw[A9 hc]at hrr ⊢;have hg:=(Mp AO hc).gr;have hw:=Kx hg;have Lg:=og AO hc;have hn:f.blocks.length<=128:=hg.few;have Jq:=uP f Lg hg.ne;have hLl:(DP f).length<=128:=by rw[wQ];exact hw.few
  have hLn:=sj hw;have hL0:DP f≠[]:=List.ne_nil_of_mem (LL.2 (by rw[hw.zero];omega:0<=CD f 0));have hLr:∀k∈DP f,0<=k∧k<f.blocks.length:=fun k hk=>hw.range k (LL.1 hk);obtain⟨N,hN⟩:∃N,N=f.blocks.length:=⟨_,rfl⟩
  obtain⟨L,hL⟩:∃L,L=DP f:=⟨_,rfl⟩
  obtain⟨A,hA⟩:∃A,A=FG f:=⟨_,rfl⟩
  have hpm:(Bj f).enc=.agg [aI f.name,AR (FU f A L)]:=by rw[hA,hL];rfl
  rw[hpm,<-hA];unfold FG at hA;rw[<-hL]at hrr hLl hLn hL0 hLr hA;rw[<-hN]at hn hA hLr;have Mf:A.length=N:=by rw[hA];simp
  refine zf true 0 func70 ntmps70 ?_;refine KK ?_ ?_
  ·refine BM ?_;refine zi hrr ?_;refine Ak ?_;refine BF ?_;apply AZ rfl<;>intro h
   ·cases h
   refine Az ?_;refine B9 ?_;simp -dsimp only[simprocAttr,↓AG,zp,qcI,<-hN]
   refine D1 ?_;refine BF ?_;refine Al (BZ (ι:={k:Nat // k<=N}) (fun k=>⟨89,[(1,.ip none [aI f.name,AR f.blocks]),(2,.mp 1 0),(5,AA L),(7,.ms 2 0 N N),(29,aI N),(30,aI k.1)],[.gone,.cells [aI 0,.A3 7 [] .ex],.cells ((A.take k.1++List.replicate (N-k.1) 0).map aI)]⟩) (fun k=>N-k.1) ⟨0,I⟩ ?_ ?_)
   ·refine C6 ?_
    all_goals rfl
   rintro⟨k,hk⟩;refine C3 (fun h=>?_) (fun h=>?_)
   ·refine Az ?_;have AF:k<N:=Aa
    have Ph:=sd L (k:Int);have hAk:A[k]?=some (I5 L (k:Int)):=by
     rw[hA,Bv,J3 AF];rfl
    have CI:(A.take k).length=k:=NF
    have El:As ((A.take k++List.replicate (N-k) 0).map aI) k [.v (.int .i64 (I5 L (k:Int)))]=(A.take (k+1)++List.replicate (N-(k+1)) 0).map aI:=by
     rw[qk7 (by rw[Bf,CI,OG];omega),qff CI AF,Fs,hAk];rfl
    refine PF ?_;refine HA ?_;refine .inl ⟨_,Ph,MK,B4 ?_⟩;refine kK El ?_
    refine Ef ?_
    refine⟨by rw[CI,OG];omega,?_⟩;refine Ak ?_;refine Bw ?_;refine⟨⟨k+1,AF⟩,Ai,?_⟩;refine Ba ?_ ?_
    ·exact BY
    rfl
   refine BO ?_;have SR:N=k:=by
    have:=G0 h;omega
   subst SR;rw[FB,iW,F9,Cb I];refine Cz 7 2 (o:=.cells (A.map aI)) (AA A) rfl Bd trivial rfl (Eh.ms (cs:=A.map aI) rfl (fun x hx=>by obtain⟨v,_,rfl⟩:=List.mem_map.1 hx;rfl) (by simpa using Mf) (by rw[I7,Cb Ai,sM])) ?_;refine BL ?_;refine Ei 2 [(1,.ip none [aI f.name,AR f.blocks]),(2,.mp 1 0),(5,AA L),(7,AA A)] A6 I [.gone,.cells [aI 0,.A3 7 [] .ex]] ?_ ?_ ?_ ?_ ?_
   ·rfl
   ·exact MN
   ·exact Es
   ·exact YV
   refine rQ ?_;refine⟨CpR f,ZS rfl A6 rfl rfl Jq,fun r O' hR=>?_⟩;obtain⟨ids,AS,hr,AN,Qu,DJ,⟨NP,hbO⟩,hco,AT⟩:=hR;subst hr;refine Ki ?_;rw[<-hN];have CN:=AE hbO;refine G4 9 ([aI f.name,.os AS N 7]) [(1,.ip none [aI f.name,AR f.blocks]),(2,.mp 1 0),(5,AA L),(7,AA A),(9,.ip none [aI f.name,.os AS N 7])] Dc CX I Dc ?_ ?_ ?_
   ·exact AN
   ·simp[A2.upto,AQ,BU,Edge.AX,Ins.AX,Block.AX,CN,AE DJ]
   have hP0:=Qk.start A AN DJ ⟨NP,hbO⟩ hco AT;refine Cc ?_;generalize O'++[A8.cells [aI f.name,.A3 7 [] .ex]]=O0 at *;generalize O'.length=X0 at *;refine BF ?_;refine Al (BZ (ι:={X:Px // X.i<=L.length∧Qk f A ids AS X0 (L.take X.i) X.oid X.O}) (fun X=>⟨89,[(1,.ip none [aI f.name,AR f.blocks]),(2,.mp 1 0),(5,AA L),(7,AA A),(9,.ip none [aI f.name,.os AS N 7]),(10,.mp X0 0),(45,AA L),(46,aI L.length),(47,aI X.1.i)],X.1.O⟩) (fun X=>L.length-X.1.i) ⟨⟨0,0,O0⟩,A6,hP0⟩ ?_ ?_)
   ·refine C6 ?_
    all_goals rfl
   rintro⟨⟨i,oid,O⟩,hi,hP⟩;simp only at hi hP;refine C3 (fun h=>?_) (fun h=>?_)
   ·refine Az ?_;have AF:i<L.length:=Aa
    obtain⟨kk,Bh⟩:∃kk,L[i]?=some kk:=⟨L[i],Gu⟩
    have Lo:=hLr kk (AK Bh);obtain⟨k,hk⟩:∃k:Nat,kk=(k:Int):=⟨kk.toNat,I⟩
    subst hk;have BA:L.take (i+1)=L.take i++[(k:Int)]:=by rw[Fs,Bh];rfl
    have OY:(L.take i).length=i:=NF
    have EG:(k:Int) ∉ L.take i:=fun q=>by
     have h1:(L.take i++[(k:Int)]).Nodup:=by
      rw[<-BA];exact(List.take_sublist _ _).nodup hLn
     rw[Rc]at h1;exact h1.2.2 _ q _ A6 rfl
    obtain⟨b,hb⟩:∃b,f.blocks[k]?=some b:=⟨f.blocks[k]' I,AY _⟩
    obtain⟨id,BN⟩:∃id,ids[k]?=some id:=⟨ids[k]'(by rw[hP.li];omega),AY _⟩
    have hbt:=hg.to b (AK hb);have Mi:=hg.DN b (AK hb);have CN:=hP.bl.2;have FP:=m8 BN hb;have qoi:=UE hP.li;have Pd:=AE hP.out;have On:=AE CN;have Mc:=AE hP.r1;refine DR Bh ?_;by_cases DM:b.term.to=[]
    ·have TF:Fx id b=[AA b.params,B7 b.ins,aI b.term.kind,aI b.term.arg,aI b.term.n,AA b.term.cases,.A3 2 [] .sh]:=by
      unfold Fx Iz;rw[A9 DM]
     rw[TF]at FP;refine B9 ?_;simp -dsimp only[simprocAttr,↓AG,zp,CN,FP,BH]
     refine D1 ?_;refine G4 13 ([AA b.params,B7 b.ins,aI b.term.kind,aI b.term.arg,aI b.term.n,AA b.term.cases,.A3 2 [] .sh]) [(1,.ip none [aI f.name,AR f.blocks]),(2,.mp 1 0),(5,AA L),(7,AA A),(9,.ip none [aI f.name,.os AS N 7]),(10,.mp X0 0),(45,AA L),(46,aI L.length),(47,aI i),(12,aI k),(13,.ip none [AA b.params,B7 b.ins,aI b.term.kind,aI b.term.arg,aI b.term.n,AA b.term.cases,.A3 2 [] .sh])] Dc CX I Dc ?_ ?_ ?_
     ·exact hP.up
     ·simp[A2.upto,AQ,BU,Edge.AX,Ins.AX,Block.AX,Pd,On,Mc]
     refine BF ?_;refine Al (BZ (ι:=Unit) (fun _=>⟨89,[(1,.ip none [aI f.name,AR f.blocks]),(2,.mp 1 0),(5,AA L),(7,AA A),(9,.ip none [aI f.name,.os AS N 7]),(10,.mp X0 0),(45,AA L),(46,aI L.length),(47,aI i),(13,.ip none [AA b.params,B7 b.ins,aI b.term.kind,aI b.term.arg,aI b.term.n,AA b.term.cases,.A3 2 [] .sh]),(59,aI 0),(60,aI 0)],O⟩) (fun _=>0) () ?_ ?_)
     ·refine C6 ?_
      all_goals rfl
     rintro⟨⟩;refine Cc ?_;refine zu1 rfl ?_;refine BO ?_;by_cases ES:L.take i=[]
     ·have Ex:I2 oid (FU f A (L.take i))=.A3 7 [] .ex:=by
       rw[ES];rfl
      have Cm:=hP.out;rw[Ex]at Cm;have DT:(O)[X0]?=some (.cells [aI f.name,.A3 7 [] .ex]):=Cm;have XB:∀Y,(O++Y)[X0]?=some (.cells [aI f.name,.A3 7 [] .ex]):=fun Y=>D8 DT;have TL:(O).length=O.length:=rfl;refine TW ?_;simp -dsimp only[simprocAttr,↓AG,zp,DT,XB,LH,Kq,TF]
      refine Yi ?_;have El:Qk f A ids AS X0 (L.take i++[(k:Int)]) O.length ((O++[A8.cells ([AA b.params,B7 b.ins,aI b.term.kind,aI b.term.arg,aI b.term.n,AA b.term.cases,.A3 2 [] .sh])]).set X0 (.cells [aI f.name,.os O.length 1 7])):=hP.snoc hb BN EG TL (hP.up) (fun _ _ _=>rfl) (fun q=>B3 DM q) abF jQ;show AU prog _ _ _ ⟨_,_,(O++[A8.cells ([AA b.params,B7 b.ins,aI b.term.kind,aI b.term.arg,aI b.term.n,AA b.term.cases,.A3 2 [] .sh])]).set X0 (.cells [aI f.name,.os (O).length 1 7])⟩;rw[TL];generalize (O++[A8.cells ([AA b.params,B7 b.ins,aI b.term.kind,aI b.term.arg,aI b.term.n,AA b.term.cases,.A3 2 [] .sh])]).set X0 (.cells [aI f.name,.os O.length 1 7])=O7 at *;refine jy ?_ ?_
      ·exact BY
      rfl
     obtain⟨l1,l2,l3,l4⟩:=hP.A3 ES;have Ex:I2 oid (FU f A (L.take i))=.os oid i 7:=by
      unfold I2;rw[A4 (by simpa[FU]using ES),Xx,OY]
     have Cm:=hP.out;rw[Ex]at Cm;have DT:(O)[X0]?=some (.cells [aI f.name,.os oid i 7]):=Cm;have l5:(O)[oid]?=some (.cells (C9 (IJ ids (L.take i)) (FU f A (L.take i)))):=l4;have XB:∀Y,((O).set oid .gone++Y)[X0]?=some (.cells [aI f.name,.os oid i 7]):=fun Y=>D8 (EY DT I);have TL:((O).set oid .gone).length=O.length:=B2;have na:(O).length=O.length:=rfl;have Qd:=UE (ids:=IJ ids (L.take i)) (bs:=FU f A (L.take i)) qx;rw[Xx,OY]at Qd;have Hv:(C9 (IJ ids (L.take i)) (FU f A (L.take i))).take (i*7)=C9 (IJ ids (L.take i)) (FU f A (L.take i)):=Cb I;refine Dn ?_;simp -dsimp only[simprocAttr,↓AG,zp,DT,XB,l5,Hv,Qd,LH,Kq,TF]
     refine Yi ?_;have El:Qk f A ids AS X0 (L.take i++[(k:Int)]) O.length (((O).set oid .gone++[A8.cells (C9 (IJ ids (L.take i)) (FU f A (L.take i))++([AA b.params,B7 b.ins,aI b.term.kind,aI b.term.arg,aI b.term.n,AA b.term.cases,.A3 2 [] .sh]))]).set X0 (.cells [aI f.name,.os O.length (i+1) 7])):=hP.snoc hb BN EG TL (DY (hP.up) trivial) (fun j h1 h2=>by rw[Ap (Ne.symm (h2 ES))];skip) (fun q=>B3 DM q) (by rw[sq BN hb,TF]) (by rw[OY]);show AU prog _ _ _ ⟨_,_,((O).set oid .gone++[A8.cells (C9 (IJ ids (L.take i)) (FU f A (L.take i))++([AA b.params,B7 b.ins,aI b.term.kind,aI b.term.arg,aI b.term.n,AA b.term.cases,.A3 2 [] .sh]))]).set X0 (.cells [aI f.name,.os (O).length (i+1) 7])⟩;rw[na];generalize ((O).set oid .gone++[A8.cells (C9 (IJ ids (L.take i)) (FU f A (L.take i))++([AA b.params,B7 b.ins,aI b.term.kind,aI b.term.arg,aI b.term.n,AA b.term.cases,.A3 2 [] .sh]))]).set X0 (.cells [aI f.name,.os O.length (i+1) 7])=O7 at *;refine jy ?_ ?_
     ·exact BY
     rfl
    obtain⟨o1,o2,o3,o4,o5⟩:=hP.own k id b BN hb DM;rw[A4 EG]at o5;have TF:Fx id b=[AA b.params,B7 b.ins,aI b.term.kind,aI b.term.arg,aI b.term.n,AA b.term.cases,.os id b.term.to.length 2]:=by
     unfold Fx Iz;rw[A4 DM]
    rw[TF]at FP;have Fv:=AE o5;refine B9 ?_;simp -dsimp only[simprocAttr,↓AG,zp,CN,FP,BH]
    refine D1 ?_;refine G4 13 ([AA b.params,B7 b.ins,aI b.term.kind,aI b.term.arg,aI b.term.n,AA b.term.cases,.os id b.term.to.length 2]) [(1,.ip none [aI f.name,AR f.blocks]),(2,.mp 1 0),(5,AA L),(7,AA A),(9,.ip none [aI f.name,.os AS N 7]),(10,.mp X0 0),(45,AA L),(46,aI L.length),(47,aI i),(12,aI k),(13,.ip none [AA b.params,B7 b.ins,aI b.term.kind,aI b.term.arg,aI b.term.n,AA b.term.cases,.os id b.term.to.length 2])] Dc CX I Dc ?_ ?_ ?_
    ·exact hP.up
    ·simp[A2.upto,AQ,BU,Edge.AX,Ins.AX,Block.AX,Pd,On,Mc,Fv]
    have hO0:O.set id (.cells (B5 (Kg A b.term.to 0)))=O:=by
     rw[qfC];apply Gg;intro j;rw[FD];split
     ·rename_i e;rw[<-e,o5]
     rfl
    refine BF ?_;refine Al (BZ (ι:={n:Nat // n<=b.term.to.length}) (fun n=>⟨89,[(1,.ip none [aI f.name,AR f.blocks]),(2,.mp 1 0),(5,AA L),(7,AA A),(9,.ip none [aI f.name,.os AS N 7]),(10,.mp X0 0),(45,AA L),(46,aI L.length),(47,aI i),(13,.ip none [AA b.params,B7 b.ins,aI b.term.kind,aI b.term.arg,aI b.term.n,AA b.term.cases,.os id b.term.to.length 2]),(59,aI b.term.to.length),(60,aI n.1)],O.set id (.cells (B5 (Kg A b.term.to n.1)))⟩) (fun n=>b.term.to.length-n.1) ⟨0,I⟩ ?_ ?_)
    ·refine C6 ?_
     all_goals exact hO0.symm
    rintro⟨z,hz⟩;refine C3 (fun h=>?_) (fun h=>?_)
    ·refine Az ?_;have IA:z<b.term.to.length:=Aa
     obtain⟨e,he⟩:∃e,b.term.to[z]?=some e:=⟨b.term.to[z],Uh⟩
     have Ov:=Mi e (AK he);have FM:(O.set id (.cells (B5 (Kg A b.term.to z))))[id]?=some (.cells (B5 (Kg A b.term.to z))):=Bb Fv;obtain⟨c1,c2⟩:=xV (qj9 A he);have qmK:=qfB A he;have qn4:(B5 (Kg A b.term.to z)).length=b.term.to.length*2:=by rw[Q5,wA]
     obtain⟨x,hx⟩:∃x:Nat,e.block=(x:Int):=⟨e.block.toNat,I⟩
     have hAx:A[x]?=some (MZ A e.block):=by
      unfold MZ;rw[hx,BH,AY I];rfl
     refine PF ?_;refine Dn ?_;simp -dsimp only[simprocAttr,↓AG,zp,FM,c1,hx,hAx,qn4,BH]
     refine Gv ?_;rw[<-hx,qmK,Hr];refine Bw ?_;refine⟨⟨z+1,IA⟩,Ai,?_⟩;refine Ba ?_ ?_
     ·exact BY
     rfl
    refine BO ?_;have IY:b.term.to.length<=z:=by
     have:=G0 h;omega
    rw[qgu A IY];by_cases ES:L.take i=[]
    ·have Ex:I2 oid (FU f A (L.take i))=.A3 7 [] .ex:=by
      rw[ES];rfl
     have Cm:=hP.out;rw[Ex]at Cm;have DT:(O.set id (.cells (B5 (b.term.to.map (Fl A)))))[X0]?=some (.cells [aI f.name,.A3 7 [] .ex]):=EY Cm o3;have XB:∀Y,(O.set id (.cells (B5 (b.term.to.map (Fl A))))++Y)[X0]?=some (.cells [aI f.name,.A3 7 [] .ex]):=fun Y=>D8 DT;have TL:(O.set id (.cells (B5 (b.term.to.map (Fl A))))).length=O.length:=B2;refine TW ?_;simp -dsimp only[simprocAttr,↓AG,zp,DT,XB,LH,Kq,TF]
     refine Yi ?_;have El:Qk f A ids AS X0 (L.take i++[(k:Int)]) O.length ((O.set id (.cells (B5 (b.term.to.map (Fl A))))++[A8.cells ([AA b.params,B7 b.ins,aI b.term.kind,aI b.term.arg,aI b.term.n,AA b.term.cases,.os id b.term.to.length 2])]).set X0 (.cells [aI f.name,.os O.length 1 7])):=hP.snoc hb BN EG TL (DY hP.up (show A8.upto O.length (.cells (B5 (b.term.to.map (Fl A)))) from lD _ _)) (fun j h1 _=>abg) (fun _=>Bb (AE o5)) abF jQ;show AU prog _ _ _ ⟨_,_,(O.set id (.cells (B5 (b.term.to.map (Fl A))))++[A8.cells ([AA b.params,B7 b.ins,aI b.term.kind,aI b.term.arg,aI b.term.n,AA b.term.cases,.os id b.term.to.length 2])]).set X0 (.cells [aI f.name,.os (O.set id (.cells (B5 (b.term.to.map (Fl A))))).length 1 7])⟩;rw[TL];generalize (O.set id (.cells (B5 (b.term.to.map (Fl A))))++[A8.cells ([AA b.params,B7 b.ins,aI b.term.kind,aI b.term.arg,aI b.term.n,AA b.term.cases,.os id b.term.to.length 2])]).set X0 (.cells [aI f.name,.os O.length 1 7])=O7 at *;refine jy ?_ ?_
     ·exact BY
     rfl
    obtain⟨l1,l2,l3,l4⟩:=hP.A3 ES;have Ex:I2 oid (FU f A (L.take i))=.os oid i 7:=by
     unfold I2;rw[A4 (by simpa[FU]using ES),Xx,OY]
    have Cm:=hP.out;rw[Ex]at Cm;have DT:(O.set id (.cells (B5 (b.term.to.map (Fl A)))))[X0]?=some (.cells [aI f.name,.os oid i 7]):=EY Cm o3;have l5:(O.set id (.cells (B5 (b.term.to.map (Fl A)))))[oid]?=some (.cells (C9 (IJ ids (L.take i)) (FU f A (L.take i)))):=EY l4 (o4 ES);have XB:∀Y,((O.set id (.cells (B5 (b.term.to.map (Fl A))))).set oid .gone++Y)[X0]?=some (.cells [aI f.name,.os oid i 7]):=fun Y=>D8 (EY DT I);have TL:((O.set id (.cells (B5 (b.term.to.map (Fl A))))).set oid .gone).length=O.length:=by rw[B2];exact B2
    have na:(O.set id (.cells (B5 (b.term.to.map (Fl A))))).length=O.length:=B2;have Qd:=UE (ids:=IJ ids (L.take i)) (bs:=FU f A (L.take i)) qx;rw[Xx,OY]at Qd;have Hv:(C9 (IJ ids (L.take i)) (FU f A (L.take i))).take (i*7)=C9 (IJ ids (L.take i)) (FU f A (L.take i)):=Cb I;refine Dn ?_;simp -dsimp only[simprocAttr,↓AG,zp,DT,XB,l5,Hv,Qd,LH,Kq,TF]
    refine Yi ?_;have El:Qk f A ids AS X0 (L.take i++[(k:Int)]) O.length (((O.set id (.cells (B5 (b.term.to.map (Fl A))))).set oid .gone++[A8.cells (C9 (IJ ids (L.take i)) (FU f A (L.take i))++([AA b.params,B7 b.ins,aI b.term.kind,aI b.term.arg,aI b.term.n,AA b.term.cases,.os id b.term.to.length 2]))]).set X0 (.cells [aI f.name,.os O.length (i+1) 7])):=hP.snoc hb BN EG TL (DY (DY hP.up (show A8.upto O.length (.cells (B5 (b.term.to.map (Fl A)))) from lD _ _)) trivial) (fun j h1 h2=>by rw[Ap (Ne.symm (h2 ES))];exact(fun j h1 _=>abg) j h1 h2) (fun q=>by rw[Ap (Ne.symm (o4 ES))];exact(fun _=>Bb (AE o5)) q) (by rw[sq BN hb,TF]) (by rw[OY]);show AU prog _ _ _ ⟨_,_,((O.set id (.cells (B5 (b.term.to.map (Fl A))))).set oid .gone++[A8.cells (C9 (IJ ids (L.take i)) (FU f A (L.take i))++([AA b.params,B7 b.ins,aI b.term.kind,aI b.term.arg,aI b.term.n,AA b.term.cases,.os id b.term.to.length 2]))]).set X0 (.cells [aI f.name,.os (O.set id (.cells (B5 (b.term.to.map (Fl A))))).length (i+1) 7])⟩;rw[na];generalize ((O.set id (.cells (B5 (b.term.to.map (Fl A))))).set oid .gone++[A8.cells (C9 (IJ ids (L.take i)) (FU f A (L.take i))++([AA b.params,B7 b.ins,aI b.term.kind,aI b.term.arg,aI b.term.n,AA b.term.cases,.os id b.term.to.length 2]))]).set X0 (.cells [aI f.name,.os O.length (i+1) 7])=O7 at *;refine jy ?_ ?_
    ·exact BY
    rfl
   refine BO ?_;have hiL:L.length<=i:=by
    have:=G0 h;omega
   rw[Cb hiL]at hP;obtain⟨l1,l2,l3,l4⟩:=hP.A3 hL0;have Ex:I2 oid (FU f A L)=.os oid L.length 7:=by
    unfold I2;rw[A4 (by simpa[FU]using hL0),Xx]
   have Cm:=hP.out;have GW:=hP.r1;have Mc:=AE GW;have Ko:=hP.x5;rw[Ex]at Cm;refine Jm Cm GW ?_;have hlen:(IJ ids L).length=(FU f A L).length:=qx
   have IB:∀(j id:Nat) (c:Block),(IJ ids L)[j]?=some id->(FU f A L)[j]?=some c->c.term.to≠[]->∃(k:Nat) (b:Block),L[j]?=some (k:Int)∧f.blocks[k]?=some b∧ids[k]?=some id∧c=PM A b∧b.term.to≠[]:=fun j id c h1 h2 h3=>by
    unfold IJ at h1;unfold FU at h2;rw[Bv,PB]at h1 h2;obtain⟨kk,e1,e2⟩:=h1;obtain⟨k2,e3,e4⟩:=h2;rw[e1]at e3;simp only[AM]at e3;subst e3;have Lo:=hLr kk (AK e1);have Em:f.blocks[kk.toNat]?=some (f.blocks[kk.toNat]' I):=AY _;have Pf:A7 f kk=f.blocks[kk.toNat]' I:=by
     unfold A7;rw[Em];rfl
    have Tm:ids[kk.toNat]?=some id:=by
     rw[AY (by rw[hP.li];omega)]at e2 ⊢;exact Dj some e2
    refine⟨kk.toNat,A7 f kk,by rw[e1];congr 1;omega,by rw[Pf];exact Em,Tm,e4.symm,fun q=>h3 ?_⟩;rw[<-e4,Q8,q];rfl
   refine qcz (ids:=IJ ids L) (bs:=FU f A L) (X:=1) (oid:=oid) (name:=f.name) hlen I (by rw[Xx];exact Bb Mc) (by rw[Ap I];exact l4) (fun j id c h1 h2 h3=>?_) (fun i j id c d h1 h2 h3 h4 h5 h6=>?_) fun O1 Bn X6=>?_
   ·obtain⟨k,b,q1,q2,q3,q4,q5⟩:=IB j id c h1 h2 h3;obtain⟨o1,o2,o3,o4,o5⟩:=hP.own k id b q3 q2 q5;rw[A9 (AK q1)]at o5;exact⟨o4 hL0,I,by rw[Ap I,q4];exact o5⟩
   ·obtain⟨k,b,q1,q2,q3,q4,q5⟩:=IB i id c h1 h3 h5;obtain⟨k',b',r1,r2,r3,r4,r5⟩:=IB j id d h2 h4 h6;have Bh:=hP.inj k k' id b b' q3 r3 q2 r2 q5 r5;subst Bh;have F4:=List.pairwise_iff_getElem.1 hLn;have e1:=List.getElem?_eq_some_iff.1 q1;have e2:=List.getElem?_eq_some_iff.1 r1;obtain⟨p1,p2⟩:=e1;obtain⟨p3,p4⟩:=e2;refine N8 fun q=>?_;rcases pR q with q|q
    ·exact F4 i j p1 p3 q (p2.trans p4.symm)
    exact F4 j i p3 p1 q (p4.trans p2.symm)
   refine F3 ?_;simp -dsimp only[simprocAttr,↓AG,zp,zr,results70,X6];exact ry
  exact Be
 rw[A4 hc]at hrr ⊢;obtain⟨e,he⟩:∃e,e=Cj f:=⟨_,rfl⟩
 rw[<-he]at hc hrr ⊢;have Ca:decide (e=0)=false:=Ac hc;refine zf true 0 func70 ntmps70 ?_;refine KK ?_ ?_
 ·refine BM ?_;refine zi hrr ?_;refine Rm Ca ?_;refine E3 ?_;simp -dsimp only[simprocAttr,↓AG,zp,zr,results70];exact WZ
 exact Be
def nF(f:Func):A2:=if Cj f=0 then(if 128<f.blocks.length+(DI f).news.length then .Ab [.agg [aI 0,.A3 7 [] .sh],aI 2]else .Ab [(DD f).enc,aI 0])else .Ab [.agg [aI 0,.A3 7 [] .sh],aI (Cj f)]
structure Sx where
 k:Nat
 S:Sp
 AS:Nat
 O:List A8
theorem qc6(f:Func)(k n:Nat)(S:Sp):(QH f k n S).news.length<=S.news.length+1:=by
 unfold QH;split
 ·omega
 split
 ·simp
 omega
theorem qiH(n:Nat)(l:List (List Int)):AQ n (l.map AA):=by
 rw[CF];intro c hc;obtain⟨x,_,rfl⟩:=List.mem_map.1 hc;exact ai
theorem qdq(f:Func)(AO:f.fit):BR prog 84 [f.enc] (nF f):=by
 have Gn:=u9 f AO;unfold fZ at Gn;unfold nF;by_cases hc:Cj f=0
 ·rw[A9 hc]at Gn ⊢;have hg:=(Mp AO hc).gr;have Lg:=og AO hc;have hn:f.blocks.length<=128:=hg.few;have Jq:=uP f Lg hg.ne;have qmP:=vF f;obtain⟨R,SL⟩:∃R,R=DI f:=⟨_,rfl⟩
  have Bg:DD f=⟨f.name,List.zipWith Dq f.blocks R.tos++R.news⟩:=by rw[SL];rfl
  rw[Bg,<-SL];unfold DI at SL;refine zf true 0 func84 ntmps84 ?_;refine KK ?_ ?_
  ·refine BM ?_;refine zi Gn ?_;refine Ak ?_;refine BF ?_;apply AZ rfl<;>intro h
   ·cases h
   refine Az ?_;refine rQ ?_;refine⟨CpR f,ZS rfl A6 rfl rfl Jq,fun r O' hR=>?_⟩;obtain⟨ids,AS,hr,AN,Qu,DJ,⟨NP,hbO⟩,hco,AT⟩:=hR;subst hr;refine Ki ?_;have Oq:=PW.start AN DJ ⟨NP,hbO⟩ hco AT;generalize O'++[A8.cells [aI f.name,.os AS f.blocks.length 7]]=O0 at *;generalize O'.length=X0 at *;refine BF ?_;refine Al (BZ (ι:={X:Sx // X.k<=f.blocks.length∧PW f ids X0 X.S X.AS X.O∧R=spK f (f.blocks.length-X.k) X.k X.S∧X.S.news.length<=X.k*257∧∀(j:Nat) b,X.k<=j->f.blocks[j]?=some b->X.S.tos[j]?=some b.term.to}) (fun X=>⟨78,[(1,.ip none [aI f.name,AR f.blocks]),(2,.mp 1 0),(4,.A3 1 ((Eb f).map AA) .sh),(6,.mp X0 0),(23,AR f.blocks),(24,aI f.blocks.length),(25,aI X.1.k)],X.1.O⟩) (fun X=>f.blocks.length-X.1.k) ⟨⟨0,Kp f,AS,O0⟩,A6,Oq,by simpa using SL,by simp[Kp],fun j b _ h=>by simp[Kp,h]⟩ ?_ ?_)
   ·refine C6 ?_
    all_goals rfl
   rintro⟨⟨k,S,AS,O⟩,hk,hS,Af,Ls,D3⟩;simp only at hk hS Af Ls D3;refine C3 (fun h=>?_) (fun h=>?_)
   ·refine Az ?_;have AF:k<f.blocks.length:=Aa
    obtain⟨b,hb⟩:∃b,f.blocks[k]?=some b:=⟨_,AY AF⟩
    obtain⟨id,BN⟩:∃id,ids[k]?=some id:=⟨ids[k]'(by rw[hS.li];omega),AY _⟩
    have Pf:A7 f (k:Int)=b:=by simp[A7,hb]
    have DM:Ea f (k:Int)=b.term.to:=by unfold Ea;rw[Pf]
    have hbt:=hg.to b (AK hb);have Mi:=hg.DN b (AK hb);rw[show f.blocks.length-k=(f.blocks.length-(k+1))+1 from I]at Af;simp only[spK]at Af;rw[DM]at Af;obtain⟨S1,Tw⟩:∃S1,S1=Vg f k b.term.to.length 0 S:=⟨_,rfl⟩
    rw[<-Tw]at Af;have Cm:=hS.out;have CN:=hS.bl.2;have Cg:=qi9 (T:=AP (S.news.map Block.enc)) BN hb;have B8:(C9 ids f.blocks++AP (S.news.map Block.enc)).length=(f.blocks.length+S.news.length)*7:=by
     rw[Bf,UE hS.li,iC];omega
    refine PF ?_;by_cases Pr:b.term.to=[]
    ·have SU:Iz id b.term.to=.A3 2 [] .sh:=A9 Pr;rw[SU]at Cg;refine B9 ?_;simp -dsimp only[simprocAttr,↓AG,zp,Cm,CN,Cg,B8,BH]
     refine D1 ?_;refine Cc ?_;refine Al (BZ (ι:=Unit) (fun _=>⟨78,[(1,.ip none [aI f.name,AR f.blocks]),(2,.mp 1 0),(4,.A3 1 ((Eb f).map AA) .sh),(6,.mp X0 0),(23,AR f.blocks),(24,aI f.blocks.length),(25,aI k),(36,aI 0),(37,aI 0)],O⟩) (fun _=>0) () ?_ ?_)
     ·refine C6 ?_
      all_goals rfl
     rintro⟨⟩;refine Cc ?_;refine zu1 rfl ?_;refine BO ?_;have qm2:S1=S:=by
      rw[Tw,Pr];rfl
     rw[qm2]at Af;refine Bw ?_;refine⟨⟨⟨k+1,S,AS,O⟩,AF,hS,Af,D6,fun j b hj=>D3 j b (by simp only at hj;omega)⟩,Ai,?_⟩;refine Ba ?_ ?_
     ·exact BY
     rfl
    have SU:Iz id b.term.to=.os id b.term.to.length 2:=A4 Pr;rw[SU]at Cg;refine B9 ?_;simp -dsimp only[simprocAttr,↓AG,zp,Cm,CN,Cg,B8,BH]
    refine D1 ?_;refine Cc ?_;refine Al (BZ (ι:={X:Sx // X.k<=b.term.to.length∧PW f ids X0 X.S X.AS X.O∧S1=Vg f k (b.term.to.length-X.k) X.k X.S∧X.S.news.length<=k*257+X.k∧(∀(j:Nat) c,k+1<=j->f.blocks[j]?=some c->X.S.tos[j]?=some c.term.to)∧∃l,X.S.tos[k]?=some l∧l.length=b.term.to.length∧l.drop X.k=b.term.to.drop X.k}) (fun X=>⟨78,[(1,.ip none [aI f.name,AR f.blocks]),(2,.mp 1 0),(4,.A3 1 ((Eb f).map AA) .sh),(6,.mp X0 0),(23,AR f.blocks),(24,aI f.blocks.length),(25,aI k),(8,.os id b.term.to.length 2),(35,.os id b.term.to.length 2),(36,aI b.term.to.length),(37,aI X.1.k)],X.1.O⟩) (fun X=>b.term.to.length-X.1.k) ⟨⟨0,S,AS,O⟩,A6,hS,by simpa using Tw,by simpa using Ls,fun j c hj=>D3 j c I,b.term.to,D3 k b (B6 _) hb,rfl,rfl⟩ ?_ ?_)
    ·refine C6 ?_
     all_goals rfl
    rintro⟨⟨n,S,AS,O⟩,hz,hS,CJ,Ls,D3,l,hl,J6,hld⟩;simp only at hz hS CJ Ls D3 hl hld;refine C3 (fun h=>?_) (fun h=>?_)
    ·refine Az ?_;have IA:n<b.term.to.length:=Aa
     obtain⟨x,hx⟩:∃x,b.term.to[n]?=some x:=⟨b.term.to[n],Uh⟩
     have XW:l[n]?=some x:=by
      have h1:(l.drop n)[0]?=(b.term.to.drop n)[0]?:=by rw[hld]
      rw[FC,FC,J4,hx]at h1;exact h1
     have Lu:=Mi x (AK hx);obtain⟨o1,o2,o3,o4⟩:=hS.own k id b l BN hb hl Pr;have h2:=wj XW;have IB:=Q5 l;have Fv:=AE o4;have Pd:=AE hS.out;have On:=AE hS.bl.2;have Mc:=AE hS.r1;rw[show b.term.to.length-n=(b.term.to.length-(n+1))+1 from I]at CJ;simp only[Vg]at CJ;obtain⟨p,hp⟩:∃p,p=UH f x.block:=⟨_,rfl⟩
     have hpp:(Eb f)[x.block.toNat]?=some p:=by
      rw[hp];unfold UH;rw[AY (by rw[qmP];omega)];rfl
     have Au:QH f k n S=if N' f k x then⟨S.tos.set k (l.set n ⟨((f.blocks.length+S.news.length:Nat):Int),[]⟩),S.news++[Gb x]⟩else S:=by
      unfold QH;rw[DM,hx,hl];rfl
     have RB:N' f k x=(decide (2<=b.term.to.length)&&decide (2<=p.length)):=by
      unfold N';rw[Pf,hp]
     rw[Au]at CJ;have Jw:=qc6 f k n S;refine Ui ?_;refine QR o4 h2 IB ?_
     refine D1 ?_;refine G4 10 ([aI x.block,AA x.args]) [(1,.ip none [aI f.name,AR f.blocks]),(2,.mp 1 0),(4,.A3 1 ((Eb f).map AA) .sh),(6,.mp X0 0),(23,AR f.blocks),(24,aI f.blocks.length),(25,aI k),(8,.os id b.term.to.length 2),(35,.os id b.term.to.length 2),(36,aI b.term.to.length),(37,aI n),(9,aI n),(10,.ip none [aI x.block,AA x.args])] Dc CX I Dc ?_ ?_ ?_
     ·exact hS.up
     ·simp[A2.upto,AQ,BU,Edge.AX,Ins.AX,Block.AX,qiH,Pd,On,Mc,Fv]
     by_cases c1:2<=b.term.to.length
     ·have g1:decide ((b.term.to.length:Int)<2)=false:=Ac I;by_cases c2:2<=p.length
      ·have g2:decide ((p.length:Int)<2)=false:=Ac I;rw[A9 (by rw[RB,Ar c1,Ar c2];rfl)]at CJ;refine L5 g1 hpp g2 ?_
       refine D1 ?_;apply AZ rfl<;>intro h
       ·cases h
       refine Az ?_;have Cm:=hS.out;refine B9 ?_;simp -dsimp only[simprocAttr,↓AG,zp,Cm,o4,IB,BH]
       refine D1 ?_;have HS:=fun(j:Nat) c d=>kP (O:=O.set id (.cells (As (B5 l) (n*2) [aI ((f.blocks.length+S.news.length:Nat):Int),.A3 1 [] .ex]))) (cs:=B5 l) (xs:=[aI ((f.blocks.length+S.news.length:Nat):Int),.A3 1 [] .ex]) (ys:=[aI ((f.blocks.length+S.news.length:Nat):Int),AA []]) (i:=n*2) rfl aB (fun j c d h1 h2=>by
        match j,h1,h2 with
        | 0,h1,h2=>exact Sub.of_eq dR
        | 1,h1,h2 =>
         simp only[LY,Dh,AM]at h1 h2;subst h1;subst h2;exact fun _ _ _ h=>h.Xq
        | j+2,h1,h2=>simp at h1) j c d
       have El:=wi (es:=l) (n:=n) I ⟨((f.blocks.length+S.news.length:Nat):Int),[]⟩;have fu:As (B5 l) (n*2) [aI ((f.blocks.length+S.news.length:Nat):Int),AA []]=B5 (l.set n ⟨((f.blocks.length+S.news.length:Nat):Int),[]⟩):=El;rw[fu]at HS;refine Lz id (B5 (l.set n ⟨((f.blocks.length+S.news.length:Nat):Int),[]⟩)) (Bb Fv) (by rw[<-fu,P' aB,P' aB]) (qaA _) HS ?_;rw[Hr];have R4:=hS.S4 BN hb hl Pr (m:=l.set n ⟨((f.blocks.length+S.news.length:Nat):Int),[]⟩) (B2);generalize O.set id (.cells (B5 (l.set n ⟨((f.blocks.length+S.news.length:Nat):Int),[]⟩)))=O5 at *;have yG:=R4.out;have qlb:=R4.bl.2;have Lt:=R4.xb;have qkA:∀Y,(O5.set AS .gone++Y)[X0]?=some (.cells [aI f.name,.os AS (f.blocks.length+S.news.length) 7]):=fun Y=>D8 (EY yG Lt);have oB:(C9 ids f.blocks++AP (S.news.map Block.enc)).length=(f.blocks.length+S.news.length)*7:=by
        rw[Bf,UE hS.li,iC];omega
       have Hv:(C9 ids f.blocks++AP (S.news.map Block.enc)).take ((f.blocks.length+S.news.length)*7)=C9 ids f.blocks++AP (S.news.map Block.enc):=Cb I;refine Dn ?_;simp -dsimp only[simprocAttr,↓AG,zp,yG,qkA,qlb,oB,Hv,LH,Kq]
       refine Yi ?_;have hS3:PW f ids X0 ⟨S.tos.set k (l.set n ⟨((f.blocks.length+S.news.length:Nat):Int),[]⟩),S.news++[Gb x]⟩ O5.length ((O5.set AS .gone++[A8.cells (C9 ids f.blocks++(AP (S.news.map Block.enc)++[.A3 1 [] .sh,.A3 4 [] .sh,aI 1,aI 0,aI 0,.A3 1 [] .sh,.A3 2 [x.enc] .sh]))]).set X0 (.cells [aI f.name,.os O5.length (f.blocks.length+S.news.length+1) 7])):=by
        have:=R4.block (Gb x) rfl rfl;rw[Ez]at this;exact Cd
       show AU prog _ _ _ ⟨_,_,(O5.set AS .gone++[A8.cells (C9 ids f.blocks++(AP (S.news.map Block.enc)++[.A3 1 [] .sh,.A3 4 [] .sh,aI 1,aI 0,aI 0,.A3 1 [] .sh,.A3 2 [x.enc] .sh]))]).set X0 (.cells [aI f.name,.os O5.length (f.blocks.length+S.news.length+1) 7])⟩;generalize (O5.set AS .gone++[A8.cells (C9 ids f.blocks++(AP (S.news.map Block.enc)++[.A3 1 [] .sh,.A3 4 [] .sh,aI 1,aI 0,aI 0,.A3 1 [] .sh,.A3 2 [x.enc] .sh]))]).set X0 (.cells [aI f.name,.os O5.length (f.blocks.length+S.news.length+1) 7])=O7 at *;refine Bw ?_;refine⟨⟨⟨n+1,_,O5.length,O7⟩,IA,hS3,CJ,by simp only[Bf,IU];omega,fun j c hj hc=>by
        simp only at hj ⊢;rw[Ap I];exact D3 j c hj hc,l.set n ⟨((f.blocks.length+S.news.length:Nat):Int),[]⟩,by simp only;rw[Bb (AE hl)],by rw[B2,J6],by
        simp only;rw[List.drop_set_of_lt I,<-WD,hld,WD]⟩,Ai,?_⟩
       refine Ba ?_ ?_
       ·exact BY
       rfl
      have g2:decide ((p.length:Int)<2)=true:=Ar I;rw[A4 (by rw[RB,Ac c2];simp)]at CJ;refine L5 g1 hpp g2 ?_
      refine D1 ?_;refine acG ?_;refine Ba ?_ ?_
      ·exact BY
      rfl
     have g1:decide ((b.term.to.length:Int)<2)=true:=Ar I;rw[A4 (by rw[RB,Ac c1];simp)]at CJ;refine Ej ?_;refine PG g1 ?_;refine acG ?_;refine Ba ?_ ?_
     ·exact BY
     rfl
    refine BO ?_;have IY:b.term.to.length<=n:=by
     have:=G0 h;omega
    rw[show b.term.to.length-n=0 from I]at CJ;simp only[Vg]at CJ;subst CJ;refine Bw ?_;refine⟨⟨⟨k+1,S1,AS,O⟩,AF,hS,Af,D6,D3⟩,Ai,?_⟩;refine Ba ?_ ?_
    ·exact BY
    rfl
   refine BO ?_;have SR:f.blocks.length<=k:=by
    have:=G0 h;omega
   rw[show f.blocks.length-k=0 from I]at Af;simp only[spK]at Af;subst Af;have Cm:=hS.out;have GW:=hS.r1;have Mc:=AE GW;have Ko:=hS.x5;by_cases hm:128<f.blocks.length+R.news.length
   ·have g1:decide ((128:Int)<((f.blocks.length+R.news.length:Nat):Int))=true:=Ar I;rw[A9 hm];refine L7 Cm g1 ?_;refine FF ?_;have qmQ:(O.set 1 (.cells [aI 0,.A3 7 [] .ex]))[1]?=some (.cells [aI 0,.A3 7 [] .ex]):=Bb Mc;refine Ch GW ?_;refine F3 ?_;simp -dsimp only[simprocAttr,↓AG,zp,zr,results84,qmQ];exact WZ
   have g1:decide ((128:Int)<((f.blocks.length+R.news.length:Nat):Int))=false:=Ac I;rw[A4 hm];have IY:(List.zipWith Dq f.blocks R.tos).length=f.blocks.length:=by
    rw[iX,hS.w.len];omega
   have XO:=vn (ids:=ids) hS.w.len hS.w.each;have IB:∀(j id:Nat) (c:Block),ids[j]?=some id->(List.zipWith Dq f.blocks R.tos)[j]?=some c->c.term.to≠[]->∃b l,f.blocks[j]?=some b∧R.tos[j]?=some l∧c=Dq b l∧b.term.to≠[]:=fun j id c h1 h2 h3=>by
    rw[iM]at h2;cases hb:f.blocks[j]? with
    | none=>rw[hb]at h2;cases h2
    | some b =>
     cases hl:R.tos[j]? with
     | none=>rw[hb,hl]at h2;cases h2
     | some l =>
      rw[hb,hl]at h2;simp only[AM]at h2;refine⟨b,l,rfl,rfl,h2.symm,fun q=>h3 ?_⟩;have:=hS.w.each j b l hb hl;rw[q]at this;rw[<-h2];exact kC
   refine L7 Cm g1 ?_;refine FE ?_;refine Jm Cm GW ?_;refine aex (ids:=ids) (bs:=List.zipWith Dq f.blocks R.tos) (T:=R.news) (X:=1) (oid:=AS) (name:=f.name) (by rw[IY,hS.li]) abb (by rw[IY];exact Bb Mc) (by rw[XO,Ap abb];exact hS.bl.2) (fun j id c h1 h2 h3=>?_) (fun i j id c d h1 h2 h3 h4 h5 h6=>?_) fun O1 Bn X6=>?_
   ·obtain⟨b,l,q1,q2,q3,q4⟩:=IB j id c h1 h2 h3;obtain⟨o1,o2,o3,o4⟩:=hS.own j id b l h1 q1 q2 q4;exact⟨o2,I,by rw[Ap I,q3];exact o4⟩
   ·obtain⟨b,l,q1,q2,q3,q4⟩:=IB i id c h1 h3 h5;obtain⟨b',l',r1,r2,r3,r4⟩:=IB j id d h2 h4 h6;exact hS.inj i j id b b' h1 h2 q1 r1 q4 r4
   generalize List.zipWith Dq f.blocks R.tos++R.news=GB at X6 ⊢;refine F3 ?_;simp -dsimp only[simprocAttr,↓AG,zp,zr,results84,X6];refine⟨?_,rfl⟩;exact ry
  exact Be
 rw[A4 hc]at Gn ⊢;obtain⟨e,he⟩:∃e,e=Cj f:=⟨_,rfl⟩
 rw[<-he]at hc Gn ⊢;have Ca:decide (e=0)=false:=Ac hc;refine zf true 0 func84 ntmps84 ?_;refine KK ?_ ?_
 ·refine BM ?_;refine zi Gn ?_;refine Rm Ca ?_;refine E3 ?_;simp -dsimp only[simprocAttr,↓AG,zp,zr,results84];exact WZ
 exact Be
theorem qb2{O:List A8}(AN:∀o∈O,o.upto O.length)(g:Func)(e:Edge)(spare:Int)(hW:MvW g e spare)(EH:(Qa (HM g e) spare).length<=2 ^ 40) :
  Aq prog 85 O [g.enc,e.enc,aI spare] fun r O1=>r=.A3 4 ((Io g e spare).map Ins.enc) (.tok (O.length+3))∧O1=O++[.gone,.gone,.spare (HM g e).length,.spare (Io g e spare).length]:=by
 obtain⟨b0,b1⟩:=hW.blk;have hB:=K2 (f:=g) (k:=e.block) b0 I;have hlen:=hW.len;have NK:=hW.few;have JY:(HM g e).length=(A7 g e.block).params.length:=by
  unfold HM;rw[List.length_zip];omega
 have hsq:BR prog 116 [.A3 2 ((HM g e).map eM) .sh,aI spare] (.Ab [.A3 2 ((Qa (HM g e) spare).map eM) .sh,aI 0]):=by
  by_cases AT:HM g e=[]
  ·rw[AT];exact qig spare
  exact qgP _ spare AT I hW.pos hW.dis hW.sp
 unfold Io;rw[BE];have FP:∀(k:Nat) (v a:Int),(A7 g e.block).params[k]?=some v->e.args[k]?=some a->(HM g e).take (k+1)=(HM g e).take k++[(v,a)]:=fun k v a h1 h2=>by
  rw[Fs];congr 1;unfold HM;have hz:((A7 g e.block).params.zip e.args)[k]?=some (v,a):=List.getElem?_zip_eq_some.2 ⟨h1,h2⟩;rw[hz];rfl
 generalize Qa (HM g e) spare=out at *;generalize HM g e=M at *;generalize A7 g e.block=B at *;clear hW;refine U5 hT func85 rfl CW (by simp[ntmps85]) ?_;show AU prog _ _ _ ⟨60,_,_⟩;refine Cw ?_;refine U2 3 0 ([aI g.name,AR g.blocks]) rfl rfl CX ?_;refine BL ?_;refine U2 4 1 ([aI e.block,AA e.args]) rfl rfl CX ?_;refine BL ?_;refine Cc ?_;refine lW 7 rfl ?_;refine BL ?_;show AU prog _ _ _ ⟨_,_,O++[.gone,.gone,.spare 0]⟩;refine Ej ?_;refine PG hB ?_;refine Al (BZ (ι:={k:Nat // k<=B.params.length}) (fun k=>⟨60,[(2,aI spare),(4,.ip none [aI e.block,AA e.args]),(7,.A3 2 ((M.take k.1).map eM) (.tok (O.length+2))),(19,AA B.params),(20,aI B.params.length),(21,aI k.1)],O++[.gone,.gone,.spare (M.take k.1).length]⟩) (fun k=>B.params.length-k.1) ⟨0,I⟩ ?_ ?_)
 ·refine C6 ?_
  all_goals rfl
 rintro⟨k,hk⟩;refine C3 (fun h=>?_) (fun h=>?_)
 ·refine Az ?_;have AF:k<B.params.length:=Aa
  obtain⟨v,hv⟩:∃v,B.params[k]?=some v:=⟨B.params[k],AY AF⟩
  obtain⟨a,ha⟩:∃a,e.args[k]?=some a:=⟨e.args[k]' I,AY _⟩
  have BA:=FP k v a hv ha;have CI:(M.take k).length=k:=NF
  have Qe:(M.take k).map eM++[.agg [aI v,aI a]]=(M.take (k+1)).map eM:=by rw[BA];simp
  have bw:(M.take (k+1)).length=k+1:=NF
  refine Ui ?_;refine PG hv ?_;refine Dn ?_;refine Ri ha CI ?_
  refine D1 ?_;rw[Qe];refine Bw ?_;refine⟨⟨k+1,AF⟩,by show B.params.length-(k+1)<B.params.length-k;omega,?_⟩;refine Ba ?_ ?_
  ·exact BY
  show O++[A8.gone,A8.gone,A8.spare _]=O++[A8.gone,A8.gone,A8.spare _]
  rw[bw]
 refine BO ?_;have Fg:k=B.params.length:=by
  have:=G0 h;omega
 subst Fg;rw[Cb I];refine BM ?_;refine .inl ⟨_,hsq,jB,B4 ?_⟩;refine Ki ?_;refine Cc ?_;refine lW 10 rfl ?_;refine BL ?_;show AU prog _ _ _ ⟨_,_,O++[.gone,.gone,.spare M.length,.spare 0]⟩;refine BF ?_;refine Al (BZ (ι:={k:Nat // k<=out.length}) (fun k=>⟨60,[(10,.A3 4 (((out.take k.1).map NV).map Ins.enc) (.tok (O.length+3))),(43,.A3 2 (out.map eM) .sh),(44,aI out.length),(45,aI k.1)],O++[.gone,.gone,.spare M.length,.spare (out.take k.1).length]⟩) (fun k=>out.length-k.1) ⟨0,I⟩ ?_ ?_)
 ·refine C6 ?_
  all_goals rfl
 rintro⟨k,hk⟩;refine C3 (fun h=>?_) (fun h=>?_)
 ·refine Az ?_;have AF:k<out.length:=Aa
  obtain⟨x,hx⟩:∃x,out[k]?=some x:=⟨out[k],AY AF⟩
  have BA:out.take (k+1)=out.take k++[x]:=by rw[Fs,hx];rfl
  have CI:(out.take k).length=k:=NF
  have bw:(out.take (k+1)).length=k+1:=NF
  have Qe:((out.take k).map NV).map Ins.enc++[.agg [aI x.1,aI 100,aI 0,.A3 1 [aI x.2] .sh]]=((out.take (k+1)).map NV).map Ins.enc:=by
   rw[BA];simp;rfl
  refine Ui ?_;refine PG hx ?_;refine WX CI ?_;rw[Qe];have VG:∀o∈O++[A8.gone,.gone,.spare M.length,.spare (k+1)],o.upto (O.length+4):=fun o ho=>by
   rcases List.mem_append.1 ho with q|q
   ·exact Ul
   simp only[CL,GG,Di]at q;rcases q with rfl|rfl|rfl|rfl<;>trivial
  refine Ei (O.length+4) [(10,.A3 4 (((out.take (k+1)).map NV).map Ins.enc) (.tok (O.length+3))),(43,.A3 2 (out.map eM) .sh),(44,aI out.length),(45,aI k)] A6 I (O++[.gone,.gone,.spare M.length,.spare (k+1)]) ?_ VG ?_ ?_ ?_
  ·simp[YD];exact Cb I
  ·exact Es
  ·intro p hp;simp only[CL,GG,Di]at hp;rcases hp with rfl|rfl|rfl|rfl
   ·exact⟨Ins.AX _ _,show O.length+3<O.length+4 from I⟩
   ·exact⟨cU _ _,trivial⟩
   ·trivial
   trivial
  refine Bw ?_;refine⟨⟨k+1,AF⟩,by show out.length-(k+1)<out.length-k;omega,?_⟩;refine Ba ?_ ?_
  ·exact BY
  show O++[A8.gone,A8.gone,A8.spare _,A8.spare _]=O++[A8.gone,A8.gone,A8.spare _,A8.spare _]
  rw[bw]
 refine BO ?_;have Fg:k=out.length:=by
  have:=G0 h;omega
 subst Fg;rw[Cb (B6 _)];refine D7 ?_;simp -dsimp only[simprocAttr,↓AG,zp,Sf,results85,JG,Mq,Hl,RE,RG,RF]
end Go.Proofs.YtjdnhamngpafmaaGreat
namespace Go.Av
variable {P:Program}{AD:Cn}
theorem qn6(hT:CH P AD){o:Oper}{σ:St}{t e:TypeId}{len:Nat}{parts:Array (Nat×Operand)}{ti te:CU}{ps:List (Nat×A2)}{xs:List A2}
  (ho:o.op=.buildSlice t len parts) (hd:∀d,o.dst=some d->d<σ.n) (ht:AD t=some ti) (Ah:ti.desc=.slice e) (he:AD e=some te) (JK:0<te.size) (Hd:σ.K4 parts.toList=some ps) (Bt:∀p∈ps,p.2.flat)
  (XD:Q4 0 ps=some xs) (hlen:xs.length=len) (Ag:∀x∈xs,x.cells.length=te.size) (Lg:len*te.size<=2 ^ 24):Cert P o σ (.A3 te.size xs .ex) .pure :=
 Cert.IP hd fun base Bl a g Ax h _=>by
  have hg:=Ax.good;have Gn:=ZT (a:=a) (g:=g) (fun x hx y hy=>h x dP y hy) Hd Bt;have hu:=GZ hT ht Ah;obtain⟨⟨i,z,h1,h2,h3,h4,h5,h6,h7,h8,h9⟩,_⟩:=hT e te he;have GS:=gz XD;have B1:∀x∈xs,∀c∈x.cells,c.scalar:=by
   have aux:∀{ps:List (Nat×A2)} {vs:List (Nat×Value)},VB g ps vs->∀p∈ps,∀c∈p.2.cells,c.scalar:=by
    intro ps vs hr;induction hr with
    | nil=>intro p hp;cases hp
    | cons hx hf r ih =>
     intro p hp;rcases List.mem_cons.1 hp with hp|hp
     ·subst hp;exact hx.ZQ hf
     exact ih p hp
   intro x hx c hc;have ED:∃k,(k,x)∈ps:=by
    obtain⟨k,hk⟩:=MF hx;exact rD GS
   obtain⟨k,hk⟩:=ED;exact aux Gn _ hk c hc
  by_cases hz:len=0
  ·subst hz;have II:xs=[]:=List.length_eq_zero_iff.1 hlen;subst II;have ny:ps=[]:=by rw[GS];rfl
   subst ny;have nZ:parts.toList=[]:=by
    cases hp:parts.toList with
    | nil=>rfl
    | cons p r =>
     obtain⟨i,x⟩:=p;rw[hp]at Hd;simp only[St.K4]at Hd;cases hx:σ.ev x with
     | none=>simp[hx]at Hd
     | some y =>
      cases hr:σ.K4 r with
      | none=>simp[hx,hr]at Hd
      | some ys=>simp[hx,hr]at Hd
   have n7:parts = #[]:=Array.toList_eq_nil_iff.1 nZ;subst n7;refine⟨.slice (some ⟨g.w.heap.size,0,none⟩) 0 0,g.push (.cells #[] e),.inl ?_,Le.push g hg _,hg.push _,rfl,?_⟩
   ·have er:WK 0 = #[]:=rfl;exact acu ho h1 er
   exact RV.newRow (xs:=[]) hg A6 A6 A6 ⟨Rh,Rh⟩
  have AT:¬len*i.size=0:=by
   rw[h2];intro e0;rcases Nat.mul_eq_zero.1 e0 with q|q<;>omega
  obtain⟨zs,JX⟩:∃zs:Array Value,zs=(WK (len*i.size)).map (z.cells[· % z.cells.size]!):=⟨_,rfl⟩
  have TR:zs.size=len*te.size:=qf
  obtain⟨zc,hzc,Nj,IY⟩:∃zc:List A2,(∀c∈zc,c.scalar)∧Co g zc zs∧zc.length=len*te.size:=by
   refine⟨(List.range (len*te.size)).map fun j=>te.zero.getD (j % te.size) (.v (.bool false)),fun c hc=>?_,⟨by simp[TR],fun j c u hj Ox=>?_⟩,A6⟩
   ·rw[JQ]at hc;obtain⟨j,_,e⟩:=hc;subst e;have AF:j % te.size<te.zero.length:=aH
    rw[KC,AY AF];exact h9 _ (MG AF)
   have CK:=AE hj;simp only[BE,N7]at CK;rw[Bv,J3 CK]at hj;simp only[FV,AM]at hj;subst hj;have AF:j % te.size<te.zero.length:=aH
   have HR:j % te.size<z.cells.size:=qg
   rw[JX]at Ox;simp only[UU,h2,WH,A9 CK,FV,AM]at Ox;subst Ox;exact rS h5 h6 HR
  have bc:∃cs',JH (fun i=>some (i*te.size,te.size)) zc ps=some cs':=by
   have aux:∀(ys:List A2) (k:Nat) (cs:List A2),(∀y∈ys,y.cells.length=te.size)->(k+ys.length)*te.size<=cs.length->∃cs',JH (fun i=>some (i*te.size,te.size)) cs ((ys.zipIdx k).map fun p=>(p.2,p.1))=some cs':=by
    intro ys;induction ys with
    | nil=>intro k cs _ _;exact⟨cs,rfl⟩
    | cons y ys ih =>
     intro k cs hy hl;simp only[T0,Bc,JH];simp only[CE]at hl;have Mk:(k+1)*te.size=k*te.size+te.size:=RZ k te.size;have bg:(k+1)*te.size<=(k+(ys.length+1))*te.size:=OE _ I;have hc:y.cells.length=te.size∧k*te.size+te.size<=cs.length:=⟨hy y A6,I⟩
     exact r6 hl
   rw[GS];exact aux xs 0 zc Ag a6
  obtain⟨cs',V5⟩:=bc;obtain⟨BJ,q1,q2,_⟩:=ck (fun i=>some (i*te.size,te.size)) Gn Nj V5;obtain⟨e1,_⟩:=kl xs 0 zc cs' qH a6;have e2:cs'=AP xs:=by
   rw[e1];exact rT
  subst e2;have Aj:(Instr.buildSlice t len (parts.map fun(i,x)=>(i,a.eval x))).run P g.w=.ok (.slice (some ⟨g.w.heap.size,0,none⟩) len len) (g.w.alloc (.cells BJ e)):=by
   have TE:¬len*i.size > 2 ^ 24:=qP
   rw[JX,<-h2]at q1;have SB:Instr.fill (fun i_1=>some (i_1*i.size,i.size)) ((WK (len*i.size)).map (z.cells[· % z.cells.size]!)) (parts.map fun(i,x)=>(i,a.eval x)).toList=some BJ:=by
    rw[Zy];exact q1
   exact qq h1 h1 h4 SB
  refine acK ?_;have:=RV.newRow (xs:=xs) (sz:=te.size) (arr:=BJ) (t:=e) hg Ag B1 (by
   have:len<=len*te.size:=iK _ JK;omega) q2
  rw[hlen]at this;exact Cd
theorem qn7(hT:CH P AD){o:Oper}{σ:St}{t e:TypeId}{x y:Operand}{ti te:CU}{sz:Nat}{xs ys:List A2}{ow:Ec}
  (ho:o.op=.call ⟨.builtin .append,#[x,y],#[t,t]⟩) (hd:∀d,o.dst=some d->d<σ.n) (ht:AD t=some ti) (Ah:ti.desc=.slice e) (he:AD e=some te) (Ag:te.size=sz) (hx:σ.ev x=some (.A3 sz xs .ex)) (hy:σ.ev y=some (.A3 sz ys ow))
  (hn:ys.length≠0) (hlen:xs.length+ys.length<=2 ^ 62) (hb:(xs.length+ys.length)*te.bytes<=2 ^ 47) :
  Cert P o σ (.os σ.objs.length (xs.length+ys.length) sz) (.write (σ.objs++[.cells (AP (xs++ys))])) :=
 Cert.IP hd fun base Bl a g Ax h CO=>by
  have hO:g.objs=σ.objs:=CO.resolve_left A6;have hg:=Ax.good;have hu:=GZ hT ht Ah;subst Ag;have Bu:=h x Gh _ hx;have H8:=h y Gh _ hy;obtain⟨L9,Iv,Dt,ex,Oh,L8,Qq,Oi,Ko,OZ⟩:=Bu.Ms (P:=P);obtain⟨XK,Wz,news,ey,JD,PN,Im,Lv,KV,IW⟩:=H8.Ms (P:=P);obtain⟨⟨i,z,h1,h2,h3,h4,h5,h6,h7,h8,h9⟩,_⟩:=hT e te he;have Rt:Iv=xs.length:=by
   rcases Bu.LP with⟨q1,q2⟩|⟨ad,cap,f,q1,_,_,_,_,_,_,_,q2⟩
   ·rw[ex]at q1;cases q2;simp at q1;simp[q1]
   rw[ex]at q1;simp only[Value.slice.injEq]at q1;exact Ye
  subst Rt;have D4:=Lw (P:=P) ho a g.w;simp only[builtin,QL,Bc,Ed]at D4;have Aj:=Xj (P:=P) g.w t o.type e i z hu h1 h4 L9 xs.length xs.length ys.length (a.eval y) Dt news JD YG dI I hlen Ua;rw[<-ex]at Aj;obtain⟨cap,C1⟩:∃cap,cap=grownCap g.w (xs.length+ys.length) xs.length e:=⟨_,rfl⟩
  obtain⟨rest,D3⟩:∃rest,rest=Builtin.zeroCells z.cells (cap-(xs.length+ys.length)):=⟨_,rfl⟩
  have FM:=grownCap_ge g.w (xs.length+ys.length) xs.length e;rw[<-C1]at Aj FM;rw[<-D3]at Aj;have Ie:rest.size=(cap-(xs.length+ys.length))*te.size:=YI
  obtain⟨arr,ER⟩:∃arr,arr=Dt.toArray++news.toArray++rest:=⟨_,rfl⟩
  rw[<-ER]at Aj;have Du:=hg.heap (w':=g.w.drew) rfl rfl rfl rfl;have Iy:=Le.heap (g:=g) (w':=g.w.drew) rfl rfl rfl rfl;obtain⟨g1,DJ⟩:∃g1:G,g1=⟨g.w.drew,g.fr,g.env,g.objs⟩:=⟨_,rfl⟩
  rw[<-DJ]at Du Iy;have Ha:g1.w=g.w.drew:=WM
  have DT:g1.objs=σ.objs:=WL
  have Ks:=Qq.append Im;rw[<-Pw]at Ks;have B8:(AP (xs++ys)).length=(xs.length+ys.length)*te.size:=by
   rw[Ja (sz:=te.size) (fun x hx=>by
    rcases List.mem_append.1 hx with q|q
    ·exact Oi x q
    exact Lv x q)]
   simp
  have OD:arr.size=cap*te.size:=by
   rw[ER];simp only[RX,Jj,OZ,IW,Ie,<-LX];exact acE
  have hle:=Iy.trans (Le.alloc Du (.cells arr e) 0 (.cells (AP (xs++ys))));have FZ:Fits (g1.alloc (.cells arr e) 0 (.cells (AP (xs++ys)))) (.cells arr e) (.cells (AP (xs++ys))):=by
   refine⟨arr,e,rfl,abh,fun j c u hj hu=>?_,fun c hc=>?_⟩
   ·have AF:=AE hj;rw[B8]at AF;rw[ER]at hu;have IX:=U4 hu dL;exact(Ks.2 j c u hj Ub).mono hle
   rw[Pw]at hc;rcases List.mem_append.1 hc with q|q
   ·exact Ko c q
   exact KV c q
  have EA:=Good.alloc Du (.cells arr e) 0 (.cells (AP (xs++ys))) (.inr rfl) FZ;refine jw ?_ ?_ ?_
  ·rw[D4];simp[Aj,G.alloc,Ha]
  ·exact Rl DT
  rw[<-DT];have e1:(g.w.heap.size)=g1.w.heap.size:=YQ
  rw[e1];exact acP
theorem qnV(hT:CH P AD){o:Oper}{σ:St}{t e:TypeId}{x y:Operand}{ti te:CU}{id len sz:Nat}{cs ys:List A2}{ow:Ec}
  (ho:o.op=.call ⟨.builtin .append,#[x,y],#[t,t]⟩) (hd:∀d,o.dst=some d->d<σ.n) (ht:AD t=some ti) (Ah:ti.desc=.slice e) (he:AD e=some te) (Ag:te.size=sz) (hx:σ.ev x=some (.os id len sz)) (Ex:σ.objs[id]?=some (.cells cs)) (hy:σ.ev y=some (.A3 sz ys ow))
  (G2:len*sz<=cs.length) (hn:ys.length≠0) (hlen:len+ys.length<=2 ^ 62) (hb:(len+ys.length)*te.bytes<=2 ^ 47) :
  Cert P o σ (.os σ.objs.length (len+ys.length) sz) (.write (σ.objs.set id .gone++[.cells (cs.take (len*sz)++AP ys)])) :=
 Cert.IP hd fun base Bl a g Ax h CO=>by
  have hO:g.objs=σ.objs:=CO.resolve_left A6;have hg:=Ax.good;have hu:=GZ hT ht Ah;subst Ag;have Bu:=h x Gh _ hx;have H8:=h y Gh _ hy;obtain⟨l,o1,cap,q1,q2,q3,Lp,Lk,Bm,eu⟩:=Bu.Yo;obtain⟨XK,Wz,news,ey,JD,PN,Im,Lv,KV,IW⟩:=H8.Ms (P:=P);obtain⟨⟨i,z,h1,h2,h3,h4,h5,h6,h7,h8,h9⟩,_⟩:=hT e te he;have Fz:g.objs[id]?=some (.cells cs):=Rf
  have ez:=AE Fz;obtain⟨arr,t',CA,CV,qlU,BQ,Iw,TO⟩:=hg.row Fz q1;have D4:=Lw (P:=P) ho a g.w;simp only[builtin,QL,Bc,Ed]at D4;have D5:=Im;have B8:(AP ys).length=ys.length*te.size:=Ja Lv;obtain⟨m,hm⟩:∃m,m=len*te.size:=⟨_,rfl⟩
  obtain⟨Dt,Jx⟩:∃Dt,Dt=arr.toList.take m:=⟨_,rfl⟩
  obtain⟨ds,H6⟩:∃ds,ds=cs.take (len*te.size)++AP ys:=⟨_,rfl⟩
  rw[<-hm]at H6 G2;have V4:Dt.length=m:=by rw[Jx];exact KM
  have holds:Co g (cs.take m) Dt.toArray:=by
   refine⟨by simp[V4];omega,fun j c u hj hu=>?_⟩;have AF:=AE hj;simp only[Dy]at AF;rw[GC,A9 I]at hj;refine BQ j c u hj ?_;simp only[Zq,Jx]at hu;rw[GC,A9 I]at hu;simpa using hu
  have Br:Co g ds (Dt++news).toArray:=by
   rw[H6];exact holds.append D5
  have DB:ds.length=m+ys.length*te.size:=by
   rw[H6,Bf,Dy,B8];omega
  have cG:∀c∈ds,c.scalar:=fun c hc=>by
   rw[H6]at hc;rcases List.mem_append.1 hc with hc|hc
   ·exact Iw c (KF hc)
   exact KV c hc
  have JY:(len+ys.length)*te.size=m+ys.length*te.size:=by rw[LX,hm]
  rw[<-hm,<-H6];by_cases LU:len+ys.length<=cap
  ·have AO:m+ys.length*te.size<=arr.size:=by
    have:=OE te.size LU;omega
   obtain⟨BJ,HB⟩:∃BJ,BJ=(arr.toList.take m++news++arr.toList.drop (m+news.length)).toArray:=⟨_,rfl⟩
   have Au:=run_storeCells_at P l.block m t' news 0 arr g.w CV qS (fun u hu=>by
    obtain⟨j,hj⟩:=MF hu;have AF:=AE hj;have Ag:=Im.1;simp only[Jj]at Ag;rw[Ag]at AF;have hc:=AY AF;exact((Im.2 j _ u hc QO).Vy (KV _ (AK hc))).1)
   simp only[J4]at Au;rw[<-HB]at Au;have Aj:=Xi (P:=P) g.w (g.w.setRow l.block BJ) t o.type e i hu h1 ⟨l.block,0,none⟩ len cap ys.length (a.eval y) news JD j9 I aam;rw[<-eu]at Aj;have Ew:=ZV (cs':=ds) Fz q1 CA BJ;have hle:=Le.Am hg Ew;have OD:BJ.size=arr.size:=by
    rw[HB];simp only[Jj,Bf,Dy,ND,WG,IW];omega
   have EA:=Good.Am hg Ew (by
    refine⟨l,BJ,t',rfl,CA,setRow_heap g.w l.block arr BJ t' (0,0) CV,by rw[DB,OD];exact AO,fun j c u hj G'=>?_,cG,by rw[OD];exact TO⟩;have AF:=AE hj;rw[DB]at AF;have e1:BJ=Dt.toArray++news.toArray++(arr.toList.drop (m+news.length)).toArray:=by
     rw[HB,Jx];simp
    rw[e1]at G';have IX:=U4 G' j7;exact(Br.2 j c u hj Ub).mono hle) (fun l1 h1 _=>by
    simp only[AM]at h1;subst h1;rw[setRow_size];exact Gq CV)
   obtain⟨g1,DJ⟩:∃g1:G,g1=g.Am id (some l) (.cells ds) (g.w.setRow l.block BJ):=⟨_,rfl⟩
   rw[<-DJ]at hle EA;have Gw:g1.env[id]?=some (some l):=by
    rw[DJ];simp only[G.Am];rw[Bb (Q6 hg Fz)]
   have DT:g1.objs[id]?=some (.cells ds):=by
    rw[DJ];simp only[G.Am];rw[Bb ez]
   have Gs:g1.objs.length=σ.objs.length:=by
    rw[DJ,<-hO];simp[G.Am]
   refine adO ?_ ?_ ?_
   ·rw[D4,DJ];simp[Aj,G.Am,G.ET]
   ·simp only[G.ET,DJ,G.Am,Mode.post,Hr,hO]
   refine .os (l:=l) (o:=.cells ds) ?_ ?_ Bd LU Lk hlen
   ·simp only[G.ET];rw[<-Gs,<-EA.len];simp
   simp only[G.ET];rw[<-Gs];simp
  have Aj:=Xj (P:=P) g.w t o.type e i z hu h1 h4 (some ⟨l.block,0,none⟩) len cap ys.length (a.eval y) Dt news JD YG (by
   rw[h2];simp only[Builtin.firstCells];rw[<-hm];have:=run_loadCells (P:=P) g.w.drew ⟨l.block,0,none⟩ m (fun j=>arr.getD j undef) (fun j hj=>by
    rw[addr_add,Db];have:g.w.drew.cell? ⟨l.block,j,none⟩=arr[j]?:=cell_of_row (w:=g.w.drew) CV j;rw[this];simp[HU,show j<arr.size from I])
   rw[ou Dt m _ V4 (fun j hj=>by
    rw[Jx,GC,A9 hj];simp[HU,show j<arr.size from I])]at this
   exact this) I hlen Ua
  rw[<-eu]at Aj;obtain⟨Kc,C1⟩:∃Kc,Kc=grownCap g.w (len+ys.length) cap e:=⟨_,rfl⟩
  obtain⟨rest,D3⟩:∃rest,rest=Builtin.zeroCells z.cells (Kc-(len+ys.length)):=⟨_,rfl⟩
  have FM:=grownCap_ge g.w (len+ys.length) cap e;rw[<-C1]at Aj FM;rw[<-D3]at Aj;have Ie:rest.size=(Kc-(len+ys.length))*te.size:=YI
  obtain⟨J2,ER⟩:∃J2,J2=Dt.toArray++news.toArray++rest:=⟨_,rfl⟩
  rw[<-ER]at Aj;have Du:=hg.heap (w':=g.w.drew) rfl rfl rfl rfl;have Iy:=Le.heap (g:=g) (w':=g.w.drew) rfl rfl rfl rfl;obtain⟨g1,DJ⟩:∃g1:G,g1=⟨g.w.drew,g.fr,g.env,g.objs⟩:=⟨_,rfl⟩
  rw[<-DJ]at Du Iy;have Ha:g1.w=g.w.drew:=WM
  have DT:g1.objs=σ.objs:=WL
  have OD:J2.size=Kc*te.size:=by
   rw[ER];simp only[RX,Jj,V4,IW,Ie];have:(len+ys.length)*te.size+(Kc-(len+ys.length))*te.size=Kc*te.size:=by
    exact ad3
   omega
  have hle:=Iy.trans (Le.alloc Du (.cells J2 e) 0 (.cells ds));have FZ:Fits (g1.alloc (.cells J2 e) 0 (.cells ds)) (.cells J2 e) (.cells ds):=by
   refine⟨J2,e,rfl,aaz,fun j c u hj hu=>?_,cG⟩;have AF:=AE hj;rw[DB]at AF;rw[ER]at hu;have IX:=U4 hu j7;exact(Br.2 j c u hj Ub).mono hle
  have EA:=Good.alloc Du (.cells J2 e) 0 (.cells ds) (.inr rfl) FZ;obtain⟨g2,Kl⟩:∃g2:G,g2=g1.alloc (.cells J2 e) 0 (.cells ds):=⟨_,rfl⟩
  rw[<-Kl]at hle EA;have nR:g2.env[id]?=some (some l):=by
   rw[Kl];simp only[G.alloc];rw[Gt,A9 abn,DJ];exact q1
  have bh:g2.objs[id]?=some (.cells cs):=by
   rw[Kl];simp only[G.alloc];rw[Gt,A9 jJ,DJ];exact Fz
  have Ew:=kQ bh nR Bd trivial;have Qp:g2.w=g.w.drew.alloc (.cells J2 e):=by rw[Kl,<-Ha];rfl
  refine acF ?_ ?_ ?_
  ·rw[D4];simp[Aj,G.Am,Qp]
  ·exact ace Kl DT
  have e1:(g.w.heap.size)=g1.w.heap.size:=YQ
  have qkD:id<g1.objs.length:=jJ
  rw[e1,<-DT];refine .os (l:=⟨g1.w.heap.size,0,J2.size⟩) (o:=.cells ds) ?_ ?_ Bd FM q8 hlen
  ·simp only[G.Am,Kl,G.alloc];rw[Ap I];exact RO Du
  simp only[G.Am,Kl,G.alloc];rw[Ap I];exact Nq
end Go.Av
namespace Go.Proofs.YtjdnhamngpafmaaGreat
open Go.Av Tryz
structure Cy where
 k:Nat
 AS:Nat
 ids:List Nat
 ss:List Nat
 O:List A8
theorem qck(f:Func)(hs:SmW f)(AT:f.blocks≠[]):Aq prog 33 [.gone,.cells [aI 0,.A3 7 [] .ex]] [f.enc] (nt f):=by
 have B8:=fun(l:List Int) (h:l.length<=4096)=>sU l I;have Oq:=qbh f;have hn:=hs.few;obtain⟨N,hN⟩:∃N,N=f.blocks.length:=⟨_,rfl⟩
 rw[<-hN]at hn;refine ac1 ?_ ?_
 ·refine ac3 hN ?_;generalize [A8.gone,.cells [aI 0,.A3 7 [] .ex],.gone,.cells [aI 0,.A3 7 [] .ex],.cells [aI f.name,.A3 7 [] .ex]]=O0 at *;refine Al (BZ (ι:={X:Cy // X.k<=N∧TI f (f.blocks.take X.k) X.AS X.ids X.ss X.O}) (fun X=>⟨83,[(1,.ip none [aI f.name,AR f.blocks]),(2,.mp 3 0),(3,.mp 4 0),(15,AR f.blocks),(16,aI N),(17,aI X.1.k)],X.1.O⟩) (fun X=>N-X.1.k) ⟨⟨0,0,[],[],O0⟩,A6,Oq⟩ ?_ ?_)
  ·refine C6 ?_
   all_goals rfl
  rintro⟨⟨k,AS,ids,ss,O⟩,hk,hS⟩;simp only at hk hS;refine C3 (fun h=>?_) (fun h=>?_)
  ·refine Az ?_;have AF:k<N:=Aa
   obtain⟨b,hb⟩:∃b,f.blocks[k]?=some b:=⟨f.blocks[k]' I,AY _⟩
   have C5:=AK hb;have BA:f.blocks.take (k+1)=f.blocks.take k++[b]:=by rw[Fs,hb];rfl
   have hbp:=hs.params b C5;have hbi:=hs.ins b C5;have ZK:=hs.nf b C5;have hbc:=hs.cases b C5;have hbt:=hs.to b C5;have Mi:=hs.nO b C5;have Jq:=B8 b.params I;have SN:=B8 b.term.cases I;have Xa:=AE hS.r3;have h4l:=AE hS.out;refine abt hb ?_ ?_ ?_
   ·exact hS.up
   ·simp[A2.upto,AQ,BU,Edge.AX,Ins.AX,Block.AX,Xa,h4l]
   refine BM ?_;refine abq ?_;have hI:=NQ.start hS.up (cs:=CS (O.length+1) b [] (An b.term.to)) (Q1 b [] I ⟨Edge.AX _ _,trivial⟩);refine adQ ?_;generalize O++[A8.cells (CS (O.length+1) b [] (An b.term.to)),.spare 0]=O2 at *;refine aby ?_ ?_
   ·refine C6 ?_
    all_goals rfl
   rintro⟨⟨j,O2⟩,hj,hI⟩;simp only at hj hI;have hI2:=hI.len;refine C3 (fun h=>?_) (fun h=>?_)
   ·refine Az ?_;have Hb:j<b.ins.length:=Aa
    obtain⟨i,hi⟩:∃i,b.ins[j]?=some i:=⟨b.ins[j],aP⟩
    have hci:=B8 i.args ab8;have Cg:=hI.cell;have Bg:=hI.sp;have CI:(b.ins.take j).length=j:=NF
    refine DR hi ?_;refine BM ?_;refine zi hci ?_;refine Ak ?_;refine abz ?_ ?_ ?_
    ·exact hI.up
    ·have Tr:=AE Cg;exact acM Tr
    have Mw:∀y,(O2.set (O.length+1) y)[O.length]?=some (.cells (CS (O.length+1) b (b.ins.take j) (An b.term.to))):=fun y=>ab9
    refine Dn ?_;simp -dsimp only[simprocAttr,↓AG,zp,Cg,Mw,Bg,CS,BE,CI]
    refine D1 ?_;have hIn:=(hI.room (j+1)).one (cs':=CS (O.length+1) b (b.ins.take (j+1)) (An b.term.to)) (Q1 b _ I ⟨Edge.AX _ _,trivial⟩);refine ac7 ?_;have hIn:NQ O _ _ ((O2.set (O.length+1) (A8.spare (j+1))).set O.length (.cells (Sw (O.length+1) b ((b.ins.take (j+1)).map Ins.enc) (An b.term.to)))):=hIn;generalize (O2.set (O.length+1) (A8.spare (j+1))).set O.length (.cells (Sw (O.length+1) b ((b.ins.take (j+1)).map Ins.enc) (An b.term.to)))=O5 at *;refine Bw ?_;refine⟨⟨⟨j+1,O5⟩,Hb,hIn⟩,Ai,?_⟩;refine Ba ?_ ?_
    ·exact BY
    rfl
   refine BO ?_;have Ff:b.ins.length<=j:=by
    have:=G0 h;omega
   rw[Cb Ff]at hI;have Cg:=hI.cell;refine NJ Cg ?_;refine .inl ⟨_,SN,MK,B4 ?_⟩;refine Gi Cg ?_;refine Ak ?_;have hIn:=hI.one (cs':=CS (O.length+1) b b.ins (An b.term.to)) (Q1 b _ I ⟨Edge.AX _ _,trivial⟩);refine aca ?_;generalize O2.set O.length (.cells (CS (O.length+1) b b.ins (An b.term.to)))=O5 at *;have Cg:=hIn.cell;have zH:=hIn.sp;have qmy:j=b.ins.length:=I
   rw[qmy]at zH;refine Ch Cg ?_;have h2l:=hIn.len;have cA:CS (O.length+1) b b.ins (.A3 2 [] .ex)=[AA b.params,.A3 4 (b.ins.map Ins.enc) (.tok (O.length+1)),aI b.term.kind,aI b.term.arg,aI b.term.n,AA b.term.cases,.A3 2 [] .ex]:=rfl;refine Lz O.length (CS (O.length+1) b b.ins (.A3 2 [] .ex)) (Bb I) rfl (fun d hd=>?_) (fun j c d hc hd=>?_) ?_
   ·simp only[CS,Sw,CL,GG,Di]at hd;rcases hd with rfl|rfl|rfl|rfl|rfl|rfl|rfl<;>trivial
   ·match j,hc,hd with
    | 0,hc,hd=>exact Sub.of_eq QP
    | 1,hc,hd=>exact Sub.of_eq QP
    | 2,hc,hd=>exact Sub.of_eq QP
    | 3,hc,hd=>exact Sub.of_eq QP
    | 4,hc,hd=>exact Sub.of_eq QP
    | 5,hc,hd=>exact Sub.of_eq QP
    | 6,hc,hd =>
     simp only[CS,Sw,LY,Dh,AM]at hc hd;subst hc;subst hd;exact Sub.x9 2
    | j+7,hc,hd=>simp at hc
   rw[Hr];have hE:=Oc.start (cs:=CS (O.length+1) b b.ins) (hIn.one (cs':=CS (O.length+1) b b.ins (.A3 2 [] .ex)) (Q1 b _ I ⟨trivial,trivial⟩));have qmb:(O5.set O.length (.cells (CS (O.length+1) b b.ins (.A3 2 [] .ex))))[O.length+1]?=some (.spare b.ins.length):=by
    rw[Ap I];exact zH
   generalize O5.set O.length (.cells (CS (O.length+1) b b.ins (.A3 2 [] .ex)))=O6 at *;refine BF ?_;refine Al (BZ (ι:={X:Ce // X.z<=b.term.to.length∧Oc O (CS (O.length+1) b b.ins) X.tid (b.term.to.take X.z) X.O∧X.O[O.length+1]?=some (.spare b.ins.length)}) (fun X=>⟨83,[(1,.ip none [aI f.name,AR f.blocks]),(2,.mp 3 0),(3,.mp 4 0),(15,AR f.blocks),(16,aI N),(17,aI k),(5,.ip none [AA b.params,B7 b.ins,aI b.term.kind,aI b.term.arg,aI b.term.n,AA b.term.cases,An b.term.to]),(6,.mp O.length 0),(55,An b.term.to),(56,aI b.term.to.length),(57,aI X.1.z)],X.1.O⟩) (fun X=>b.term.to.length-X.1.z) ⟨⟨0,0,O6⟩,A6,hE,qmb⟩ ?_ ?_)
   ·refine C6 ?_
    all_goals rfl
   rintro⟨⟨z,tid,O3⟩,hz,hE,Bg⟩;simp only at hz hE Bg;have LD:=hE.len;refine C3 (fun h=>?_) (fun h=>?_)
   ·refine Az ?_;have IA:z<b.term.to.length:=Aa
    obtain⟨e,he⟩:∃e,b.term.to[z]?=some e:=⟨b.term.to[z],Uh⟩
    have Hg:=B8 e.args (Mi e (AK he));have Cg:=hE.cell;have XE:b.term.to.take (z+1)=b.term.to.take z++[e]:=by rw[Fs,he];rfl
    have CI:(b.term.to.take z).length=z:=NF
    have Tr:=AE Cg;refine ac0 he ?_ ?_ ?_
    ·exact hE.up
    ·exact acN Tr
    by_cases TT:b.term.to.take z=[]
    ·have XM:Jh tid (b.term.to.take z)=.A3 2 [] .ex:=A9 TT;rw[XM]at Cg;have Mw:∀X,(O3++X)[O.length]?=some (.cells (CS (O.length+1) b b.ins (.A3 2 [] .ex))):=fun X=>D8 Cg;refine acZ Cg Mw Cg Mw ?_;have El:Oc O (CS (O.length+1) b b.ins) O3.length (b.term.to.take z++[e]) ((O3++[A8.cells [aI e.block,AA e.args]]).set O.length (.cells (CS (O.length+1) b b.ins (.os O3.length 1 2)))):=hE.push e (fun v n hv hn=>Q1 b _ I hv) rfl hE.up (fun _ _=>rfl) jP jP;refine acX ?_;have oW:((O3++[A8.cells [aI e.block,AA e.args]]).set O.length (.cells (CS (O.length+1) b b.ins (.os O3.length 1 2))))[O.length+1]?=some (.spare b.ins.length):=by
      rw[Ap I];exact D8 Bg
     generalize (O3++[A8.cells [aI e.block,AA e.args]]).set O.length (.cells (CS (O.length+1) b b.ins (.os O3.length 1 2)))=O7 at *;refine Bw ?_;refine⟨⟨⟨z+1,O3.length,O7⟩,IA,jH,oW⟩,Ai,?_⟩;refine Ba ?_ ?_
     ·exact BY
     rfl
    obtain⟨o1,o2⟩:=hE.own TT;have XM:Jh tid (b.term.to.take z)=.os tid z 2:=by
     unfold Jh;rw[A4 TT,CI]
    rw[XM]at Cg;have Mw:∀X,(O3.set tid .gone++X)[O.length]?=some (.cells (CS (O.length+1) b b.ins (.os tid z 2))):=fun X=>D8 (EY Cg I);have Hv:(B5 (b.term.to.take z)).take (z*2)=B5 (b.term.to.take z):=Cb abL;have IB:=Q5 (b.term.to.take z);rw[CI]at IB;refine Dn ?_;simp -dsimp only[simprocAttr,↓AG,zp,Cg,Mw,CS,o2,Hv,IB,LH,Kq]
    refine Ef ?_
    refine .inl ⟨_,Hg,MK,B4 ?_⟩;simp -dsimp only[simprocAttr,↓AG,zp,Cg,Mw,CS,o2,Hv,IB,LH,Kq]
    refine YZ ?_;refine Gj ?_;have El:Oc O (CS (O.length+1) b b.ins) O3.length (b.term.to.take z++[e]) ((O3.set tid .gone++[A8.cells (B5 (b.term.to.take z)++[aI e.block,AA e.args])]).set O.length (.cells (CS (O.length+1) b b.ins (.os O3.length (z+1) 2)))):=hE.push (O4:=O3.set tid .gone) e (fun v n hv hn=>Q1 b _ I hv) (B2) (DY hE.up trivial) (fun k hk=>abf) (by rw[vj]) (by rw[CI]);refine ac5 ?_;have oW:((O3.set tid .gone++[A8.cells (B5 (b.term.to.take z)++[aI e.block,AA e.args])]).set O.length (.cells (CS (O.length+1) b b.ins (.os O3.length (z+1) 2))))[O.length+1]?=some (.spare b.ins.length):=by
     rw[Ap I];exact D8 (EY Bg I)
    generalize (O3.set tid .gone++[A8.cells (B5 (b.term.to.take z)++[aI e.block,AA e.args])]).set O.length (.cells (CS (O.length+1) b b.ins (.os O3.length (z+1) 2)))=O7 at *;refine Bw ?_;refine⟨⟨⟨z+1,O3.length,O7⟩,IA,jH,oW⟩,Ai,?_⟩;refine Ba ?_ ?_
    ·exact BY
    rfl
   refine BO ?_;have IY:b.term.to.length<=z:=by
    have:=G0 h;omega
   rw[Cb IY]at hE;have Cg:=hE.cell;have Cm:=hS.out;have Ml:=hE.Iu 4 I;rw[Cm]at Ml;have OY:(f.blocks.take k).length=k:=NF
   have IQ:=hE.own;have Tr:=AE Cg;have oM:=hS.ls;have qmc:f.blocks.take k=[]->ss=[]:=fun q=>List.length_eq_zero_iff.1 (by rw[oM,q];rfl);by_cases ES:f.blocks.take k=[]
   ·have Ex:I2 AS (f.blocks.take k)=.A3 7 [] .ex:=A9 ES;rw[Ex]at Ml;have XC:∀X,(O3++X)[4]?=some (.cells [aI f.name,.A3 7 [] .ex]):=fun X=>D8 Ml;have El:TI f (f.blocks.take k++[b]) O3.length (ids++[tid]) (ss++[O.length+1]) ((O3++[A8.cells (H' (O.length+1) tid b)]).set 4 (.cells [aI f.name,.os O3.length 1 7])):=hS.snoc ⟨I,Bg⟩ I hE.up (fun k hk _=>hE.Iu k hk) (fun q=>⟨jD,(IQ q).2⟩) (by rw[qaH hS.ls hS.cp.li,ES,qmc ES];simp[Ct]) jQ;refine ac9 Cg Ml ?_;refine GA.op rfl rfl (qn7 hT rfl A6 bC rfl bB rfl rfl rfl A6 A6 A6) ?_;refine BL ?_;refine GA.PR ⟨true,true⟩ hT 2 rfl rfl A6 ?_;simp -dsimp only[simprocAttr,↓AG,zp,XC,LH,Kq]
    refine YZ ?_;refine GA.fin rfl ?_;refine Ak ?_;show AU prog _ _ _ ⟨_,_,(O3++[A8.cells (H' (O.length+1) tid b)]).set 4 (.cells [aI f.name,.os O3.length 1 7])⟩;generalize (O3++[A8.cells (H' (O.length+1) tid b)]).set 4 (.cells [aI f.name,.os O3.length 1 7])=O7 at *;refine acs ?_;refine Ba ?_ ?_
    ·exact BY
    rfl
   obtain⟨b1,b2⟩:=hS.blk ES;have CN:=AE b2;have b3:=hE.Iu AS CN;rw[b2]at b3;have Ex:I2 AS (f.blocks.take k)=.os AS k 7:=by
    unfold I2;rw[A4 ES,OY]
   rw[Ex]at Ml;have XC:∀X,(O3.set AS .gone++X)[4]?=some (.cells [aI f.name,.os AS k 7]):=fun X=>D8 (EY Ml I);have Qd:=Xw hS.ls hS.cp.li;rw[OY]at Qd;have Hv:(Ct ss ids (f.blocks.take k)).take (k*7)=Ct ss ids (f.blocks.take k):=Cb I;have El:TI f (f.blocks.take k++[b]) O3.length (ids++[tid]) (ss++[O.length+1]) ((O3.set AS .gone++[A8.cells (Ct ss ids (f.blocks.take k)++H' (O.length+1) tid b)]).set 4 (.cells [aI f.name,.os O3.length (k+1) 7])):=by
    have:=hS.snoc (O1:=O3.set AS .gone) (b:=b) (tid:=tid) (sid:=O.length+1) ⟨I,by rw[Ap I];exact Bg⟩ dY abI (fun k hk Lh=>aat) (fun q=>⟨jD,aao⟩) (qaH hS.ls hS.cp.li (O.length+1) tid b).symm rfl;rw[B2,OY]at this;exact Cd
   refine ac9 Cg Ml ?_;refine GA.op rfl rfl (qnV hT rfl A6 bC rfl bB rfl rfl b3 rfl (by rw[Qd];exact B6 _) A6 Ai Ai) ?_;refine BL ?_;refine GA.PR ⟨true,true⟩ hT 2 rfl rfl A6 ?_;simp -dsimp only[simprocAttr,↓AG,zp,XC,Hv,LH,Kq]
   refine YZ ?_;refine GA.fin rfl ?_;refine Ak ?_;show AU prog _ _ _ ⟨_,_,(O3.set AS .gone++[A8.cells (Ct ss ids (f.blocks.take k)++H' (O.length+1) tid b)]).set 4 (.cells [aI f.name,.os O3.length (k+1) 7])⟩;generalize (O3.set AS .gone++[A8.cells (Ct ss ids (f.blocks.take k)++H' (O.length+1) tid b)]).set 4 (.cells [aI f.name,.os O3.length (k+1) 7])=O7 at *;refine acs ?_;refine Ba ?_ ?_
   ·exact BY
   rfl
  refine BO ?_;have SR:k=N:=by
   have:=G0 h;omega
  subst SR;rw[Cb I]at hS;have Cm:=hS.out;have hr3:=hS.r3;have Ex:I2 AS f.blocks=.os AS f.blocks.length 7:=A4 AT;rw[Ex]at Cm;have CN:=AE (hS.blk AT).2;have hR:=hS.fin AT (cs:=[aI f.name,.os AS f.blocks.length 7]) ⟨trivial,CN,trivial⟩;have Xa:=AE hr3;have oV:(O.set 3 (.cells [aI f.name,.os AS f.blocks.length 7]))[3]?=some (.cells [aI f.name,.os AS f.blocks.length 7]):=Bb Xa;refine KJ Cm hr3 ?_;exact ad8 oV hR
 exact Be
def fH(f:Func):A2:=if Cj f=0 then(if 128<f.blocks.length+(DI f).news.length then .Ab [.agg [aI 0,.A3 7 [] .sh],aI 2]else .Ab [(RS (DD f) (QC f)).enc,aI 0])else .Ab [.agg [aI 0,.A3 7 [] .sh],aI (Cj f)]
theorem qj4(id n sz:Nat):(A2.os id n sz).flat=True:=by simp[A2.flat]
theorem l7(n:Nat)(xs:List A2)(ow:Ec):(A2.A3 n xs ow).flat=True:=by simp[A2.flat]
structure Lx where
 k:Nat
 ss:List Nat
 L:List Block
 O:List A8
def Z2(b c:Block)(k id AS:Nat)(ss ids:List Nat)(L:List Block)(O:List A8):List A8:=if b.term.kind=3∧b.term.to.length=1 then O.set AS (.cells (As (Ct ss ids L) (k*7+2) [aI 1,aI 0,aI 0,.A3 1 [] .ex,.os id c.term.to.length 2]))else O
theorem qmB{P:Program}{kb:Nat}{cd:Code}{Q:E7->St->Prop}{n:Nat}{BG:List (Nat×A2)}{name:Int}{ids ss:List Nat}{X AS:Nat}{L:List Block}{O:List A8}(h:J7 name ids ss X AS L O){b c:Block}{k id s:Nat}(hs:ss[k]?=some s)(BN:ids[k]?=some id)(hc:L[k]?=some c)(Ll:c.term.to.length=b.term.to.length)
  (hA:AU P kb cd Q ⟨n,BG,O.set AS (.cells (Ct ss ids (Ii k b L)))⟩):AU P kb cd Q ⟨n,BG,Z2 b c k id AS ss ids L O⟩:=by
 unfold Z2;by_cases hq:b.term.kind=3∧b.term.to.length=1
 ·rw[A9 hq];rw[Ii,A9 hq,UG hc]at hA;have AT:c.term.to≠[]:=fun z=>by
   rw[z]at Ll;have:=hq.2;simp at Ll;omega
  have Fg:=AE hc;have B8:=Xw h.ls h.li;have El:=Zd (s':=s) (c:=bG c) (off:=2) (xs:=[aI 1,aI 0,aI 0,AA [],.os id c.term.to.length 2]) hs BN hc (by
   unfold H' bG Jh;simp only;rw[A4 AT];rfl) A6
  rw[kZ hs]at El;have HS:=fun(j:Nat) x y=>kP (O:=O.set AS (.cells (As (Ct ss ids L) (k*7+2) [aI 1,aI 0,aI 0,.A3 1 [] .ex,.os id c.term.to.length 2]))) (cs:=Ct ss ids L) (xs:=[aI 1,aI 0,aI 0,.A3 1 [] .ex,.os id c.term.to.length 2]) (ys:=[aI 1,aI 0,aI 0,AA [],.os id c.term.to.length 2]) (i:=k*7+2) rfl aaH (fun j x y h1 h2=>by
   match j,h1,h2 with
   | 0,h1,h2=>exact Sub.of_eq dR
   | 1,h1,h2=>exact Sub.of_eq dR
   | 2,h1,h2=>exact Sub.of_eq dR
   | 3,h1,h2 =>
    simp only[LY,Dh,AM]at h1 h2;subst h1;subst h2;exact fun _ _ _ h=>h.Xq
   | 4,h1,h2=>exact Sub.of_eq dR
   | j+5,h1,h2=>simp at h1) j x y
  rw[El]at HS;refine Lz AS (Ct ss ids (L.set k (bG c))) (Bb (AE h.bl)) aaI (p9 _ _ _) HS ?_;rw[Hr];exact hA
 rw[A4 hq];rw[Ii,A4 hq,Sg h.bl]at hA;exact hA
theorem qdQ(f:Func)(AO:f.fit):BR prog 55 [f.enc] (fH f):=by
 have Bg:=qdq f AO;unfold nF at Bg;unfold fH;by_cases hc:Cj f=0
 ·rw[A9 hc]at Bg ⊢;by_cases hm:128<f.blocks.length+(DI f).news.length
  ·rw[A9 hm]at Bg ⊢;refine zf true 0 func55 ntmps55 ?_;refine KK ?_ ?_
   ·refine BM ?_;refine zi Bg ?_;refine Ak ?_;refine BF ?_;exact acJ
   exact Be
  rw[A4 hm]at Bg ⊢;have bf:=cr AO I;have hcg:=cW AO hc I;have Tf:=Sa AO hc;have hv:=Sa bf hcg;have Lg:=og bf hcg;have Jq:=qck (DD f) Lg hv.fn.ne;have B0:=qdX f Tf.vals (by have:=Tf.fn.few;omega) (fun b hb=>by
   have h1:=(Tf.fn.blk b hb).few;have h2:=Tf.fn.ins b hb;omega)
  obtain⟨sp,oX⟩:∃sp,sp=QC f:=⟨_,rfl⟩
  rw[<-oX]at B0 ⊢;have qlZ:∀v∈G8 (DD f),v<sp:=fun v h=>by
   rw[so]at h;rw[oX];exact(Tf.below h).2.1
  generalize DD f=g at *;clear oX;refine zf true 0 func55 ntmps55 ?_;refine KK ?_ ?_
  ·refine BM ?_;refine zi Bg ?_;refine Ak ?_;show AU prog _ _ _ ⟨_,_,[.gone,.cells [aI 0,.A3 7 [] .ex]]++[.cells [aI g.name,AR g.blocks]]⟩;refine G4 4 ([aI g.name,AR g.blocks]) [(1,.ip none [aI f.name,AR f.blocks]),(2,.mp 1 0),(4,.ip none [aI g.name,AR g.blocks]),(5,aI 0)] Dc CX I Dc ?_ ?_ ?_
   ·simp[A8.upto,AQ,A2.upto,BU]
   ·simp[A2.upto,AQ,BU,Block.AX]
   refine BF ?_;apply AZ rfl<;>intro h
   ·cases h
   refine WW ?_;refine zi B0 ?_;refine Ak ?_;refine rQ ?_;refine⟨nt g,ZS rfl A6 rfl rfl Jq,fun r O' hR=>?_⟩;obtain⟨ids,ss0,AS,hr,AN,Qu,DJ,hbO,hco,AT,Nb,gI,X8⟩:=hR;subst hr;refine Ki ?_;have hL0:=J7.start AN DJ hbO hco AT Nb gI X8;have hW0:=NT.start g (m:=MP 0 0) (by rw[qf3];exact Lg.ins);generalize O'++[A8.cells [aI g.name,.os AS g.blocks.length 7]]=O0 at *;generalize O'.length=X at *;obtain⟨R,SL⟩:∃R,R=K0 g sp 0 g.blocks g.blocks:=⟨_,rfl⟩
   have R3:RS g sp=⟨g.name,M5 0 R⟩:=by rw[SL];rfl
   rw[R3];refine BF ?_;refine Al (BZ (ι:={Y:Lx // Y.k<=g.blocks.length∧J7 g.name ids Y.ss X AS Y.L Y.O∧NT g (MP Y.k 0) Y.L∧R=K0 g sp Y.k (g.blocks.drop Y.k) Y.L}) (fun Y=>⟨132,[(2,.mp 1 0),(4,.ip none [aI g.name,AR g.blocks]),(6,aI sp),(7,.mp X 0),(29,AR g.blocks),(30,aI g.blocks.length),(31,aI Y.1.k)],Y.1.O⟩) (fun Y=>g.blocks.length-Y.1.k) ⟨⟨0,ss0,g.blocks,O0⟩,A6,hL0,hW0,by simpa using SL⟩ ?_ ?_)
   ·refine C6 ?_
    all_goals rfl
   rintro⟨⟨k,ss,L,O⟩,hk,hL,hW,Af⟩;simp only at hk hL hW Af;refine C3 (fun h=>?_) (fun h=>?_)
   ·refine Az ?_;have AF:k<g.blocks.length:=Aa
    obtain⟨b,hb⟩:∃b,g.blocks[k]?=some b:=⟨_,AY AF⟩
    obtain⟨c,hc⟩:∃c,L[k]?=some c:=⟨L[k]' abc,AY _⟩
    obtain⟨id,BN⟩:∃id,ids[k]?=some id:=⟨ids[k]'(by rw[hL.li,hW.len];exact AF),AY _⟩
    obtain⟨s,hs⟩:∃s,ss[k]?=some s:=⟨ss[k]' abA,AY _⟩
    have C5:=AK hb;have Ll:=hW.to k b c hb hc;have hLl:=hW.len;have Pd:=AE hL.out;have On:=AE hL.bl;have Mc:=AE hL.r1;rw[D9 hb]at Af;simp only[K0]at Af;refine Ui ?_;refine PG hb ?_;refine G4 9 ([AA b.params,B7 b.ins,aI b.term.kind,aI b.term.arg,aI b.term.n,AA b.term.cases,An b.term.to]) [(2,.mp 1 0),(4,.ip none [aI g.name,AR g.blocks]),(6,aI sp),(7,.mp X 0),(29,AR g.blocks),(30,aI g.blocks.length),(31,aI k),(8,aI k),(9,.ip none [AA b.params,B7 b.ins,aI b.term.kind,aI b.term.arg,aI b.term.n,AA b.term.cases,An b.term.to])] Dc CX I Dc ?_ ?_ ?_
    ·exact hL.up
    ·simp[A2.upto,AQ,BU,Edge.AX,Ins.AX,Block.AX,Pd,On,Mc]
    have DM:c.term.to.length=1->c.term.to≠[]:=fun q z=>by rw[z]at q;simp at q
    refine LO (⟨132,[(2,.mp 1 0),(4,.ip none [aI g.name,AR g.blocks]),(6,aI sp),(7,.mp X 0),(29,AR g.blocks),(30,aI g.blocks.length),(31,aI k),(8,aI k),(9,.ip none [AA b.params,B7 b.ins,aI b.term.kind,aI b.term.arg,aI b.term.n,AA b.term.cases,An b.term.to])],Z2 b c k id AS ss ids L O⟩) ?_ ?_
    ·by_cases h3:b.term.kind=3
     ·have d3:decide (b.term.kind=3)=true:=Ar h3;by_cases h1:b.term.to.length=1
      ·have d1:decide ((b.term.to.length:Int)=1)=true:=Ar I;refine Jm d3 d1 ?_;refine FF ?_;have AT:=DM I;have Cm:=hL.out;have CN:=hL.bl;have Cg:(Ct ss ids L)[k*7+6]?=some (.os id c.term.to.length 2):=by
        rw[kg hs BN hc 6 I];show some (Jh id c.term.to)=_;rw[Jh,A4 AT]
       have B8:=Xw hL.ls hL.li;have hlT:Ii k b L=L.set k (bG c):=by rw[Ii,A9 ⟨h3,h1⟩,UG hc]
       refine Dn ?_;simp -dsimp only[simprocAttr,↓AG,zp,Cm,CN,Cg,B8,BH,qj4,Kq,CE,GD]
       refine Ef ?_
       refine⟨Vv [AS,X] O.length [.pure,.rd 1,.pure,.pure,.rd 1,.pure,.pure,.pure,.pure,.rd 0,.pure,.pure,.pure,.wr 2 [0]] (by simpa using hL.xb) Ai rfl rfl CW,Ga ?_⟩;show Hy _ _;refine C6 ?_;rw[Z2,A9 ⟨h3,h1⟩]
      have d1:decide ((b.term.to.length:Int)=1)=false:=Ac I;refine Jm d3 d1 ?_;refine PD ?_;rw[Z2,A4 (fun q=>h1 q.2)]
     have d3:decide (b.term.kind=3)=false:=Ac h3;refine Ch d3 ?_;refine PD ?_;rw[Z2,A4 (fun q=>h3 q.1)]
    refine qmB hL hs BN hc Ll ?_;have hL1:J7 g.name ids ss X AS (Ii k b L) (O.set AS (.cells (Ct ss ids (Ii k b L)))):=by
     by_cases hq:b.term.kind=3∧b.term.to.length=1
     ·rw[Ii,A9 hq,UG hc];exact hL.zD hc rfl rfl
     rw[Ii,A4 hq,Sg hL.bl];exact hL
    have hW1:NT g (MP k 0) (Ii k b L):=by
     by_cases hq:b.term.kind=3∧b.term.to.length=1
     ·rw[Ii,A9 hq,UG hc];exact hW.set hc rfl (hW.few c (AK hc)) (B6 _)
     rw[Ii,A4 hq];exact hW
    generalize O.set AS (.cells (Ct ss ids (Ii k b L)))=O1 at hL1 ⊢;generalize Ii k b L=L1 at hL1 hW1 Af ⊢;obtain⟨L2,hL2⟩:∃L2,L2=Mb g sp k b 0 b.term.to L1:=⟨_,rfl⟩
    rw[<-hL2]at Af;refine WY ?_;refine Al (BZ (ι:={Y:Lx // Y.k<=b.term.to.length∧J7 g.name ids Y.ss X AS Y.L Y.O∧NT g (MP k Y.k) Y.L∧L2=Mb g sp k b Y.k (b.term.to.drop Y.k) Y.L}) (fun Y=>⟨132,[(2,.mp 1 0),(4,.ip none [aI g.name,AR g.blocks]),(6,aI sp),(7,.mp X 0),(29,AR g.blocks),(30,aI g.blocks.length),(31,aI k),(8,aI k),(9,.ip none [AA b.params,B7 b.ins,aI b.term.kind,aI b.term.arg,aI b.term.n,AA b.term.cases,An b.term.to]),(62,An b.term.to),(63,aI b.term.to.length),(64,aI Y.1.k)],Y.1.O⟩) (fun Y=>b.term.to.length-Y.1.k) ⟨⟨0,ss,L1,O1⟩,A6,hL1,hW1,by simpa using hL2⟩ ?_ ?_)
    ·refine C6 ?_
     all_goals rfl
    rintro⟨⟨n,ss,L,O⟩,hz,hL,hW,CJ⟩;simp only at hz hL hW CJ;refine C3 (fun h=>?_) (fun h=>?_)
    ·refine Az ?_;have IA:n<b.term.to.length:=Aa
     obtain⟨x,hx⟩:∃x,b.term.to[n]?=some x:=⟨b.term.to[n],AY IA⟩
     have KU:=AK hx;have hMv:=mD hv qlZ C5 KU;have Oo:=sV hMv;have Lu:=hv.DN b C5 x KU;have hnf:=Lg.to b C5;have Pd:=AE hL.out;have On:=AE hL.bl;have Mc:=AE hL.r1;rw[D9 hx]at CJ;simp only[Mb,kU]at CJ;refine Ui ?_;refine PG hx ?_;refine G4 11 ([aI x.block,AA x.args]) [(2,.mp 1 0),(4,.ip none [aI g.name,AR g.blocks]),(6,aI sp),(7,.mp X 0),(29,AR g.blocks),(30,aI g.blocks.length),(31,aI k),(8,aI k),(9,.ip none [AA b.params,B7 b.ins,aI b.term.kind,aI b.term.arg,aI b.term.n,AA b.term.cases,An b.term.to]),(62,An b.term.to),(63,aI b.term.to.length),(64,aI n),(10,aI n),(11,.ip none [aI x.block,AA x.args])] Dc CX I Dc ?_ ?_ ?_
     ·exact hL.up
     ·simp[A2.upto,AQ,BU,Edge.AX,Ins.AX,Block.AX,Pd,On,Mc]
     refine BM ?_;refine .inr (.inl ⟨_,_,(qb2 hL.up g x sp hMv (by unfold Io at Oo;rw[BE]at Oo;omega)),.inl (B4 (zj ?_))⟩);refine Ak ?_;generalize Io g x sp=cp at Oo CJ ⊢;have hLX:J7 g.name ids ss X AS L (O++[A8.gone,.gone,.spare (HM g x).length,.spare cp.length]):=hL.ext (fun o ho=>by
      simp only[CL,GG,Di]at ho;rcases ho with rfl|rfl|rfl|rfl<;>trivial)
     have hLl:=hW.len;obtain⟨c,hc⟩:∃c,L[k]?=some c:=⟨L[k]' abc,AY _⟩
     obtain⟨s,hs⟩:∃s,ss[k]?=some s:=⟨ss[k]' abA,AY _⟩
     obtain⟨t,ht⟩:∃t,t=x.block.toNat:=⟨_,rfl⟩
     have htb:x.block=(t:Int):=I
     obtain⟨c2,Kk⟩:∃c,L[t]?=some c:=⟨L[t]'(by rw[hW.len];omega),AY _⟩
     obtain⟨s2,Vq⟩:∃s,ss[t]?=some s:=⟨ss[t]'(by rw[hL.ls,hW.len];omega),AY _⟩
     obtain⟨id2,yf⟩:∃id,ids[t]?=some id:=⟨ids[t]'(by rw[hL.li,hW.len];omega),AY _⟩
     have Ti:(O++[A8.gone,.gone,.spare (HM g x).length,.spare cp.length])[O.length+3]?=some (.spare cp.length):=by
      rw[Dg I,Sz];rfl
     have hTs:O.length+3 ∉ ss:=fun q=>by
      obtain⟨j,hj⟩:=List.mem_iff_getElem?.1 q;have Ff:=AE hj;have hd:L[j]?=some (L[j]'(by rw[<-hL.ls];exact Ff)):=AY _;have:=AE (hL.sp j _ _ hj hd).2;omega
     have Ko:=hL.x5;have qm1:(O++[A8.gone,.gone,.spare (HM g x).length,.spare cp.length]).length=O.length+4:=A6
     generalize O++[A8.gone,.gone,.spare (HM g x).length,.spare cp.length]=OX at hLX Ti qm1 ⊢;obtain⟨T,hT3⟩:∃T,T=O.length+3:=⟨_,rfl⟩
     rw[<-hT3]at Ti hTs ⊢;obtain⟨ss3,O3,VY,TQ,qmf⟩:∃ss3 O3,J7 g.name ids ss3 X AS (QK (decide (b.term.to.length=1)) cp k x L) O3 ∧
       (b.term.to.length=1->O3=(OX.set s (.spare (c.ins.length+cp.length))).set AS (.cells (As (Ct ss ids L) (k*7+1) [.A3 4 (c.ins.map Ins.enc++cp.map Ins.enc) (.tok s)]))) ∧
       (b.term.to.length≠1->O3=(OX.set (T) (.spare (cp.length+c2.ins.length))).set AS (.cells (As (Ct ss ids L) (t*7+1) [.A3 4 (cp.map Ins.enc++c2.ins.map Ins.enc) (.tok (T))]))):=by
      by_cases h1:b.term.to.length=1
      ·have:=hLX.row (c:=Yl cp c) (t:=s) hs hc rfl (.inl rfl);rw[<-Zd (off:=1) (xs:=[.A3 4 (c.ins.map Ins.enc++cp.map Ins.enc) (.tok s)]) hs BN hc (by simp[H',Yl,As]) A6]at this;refine⟨_,_,by rw[QK,A9 JT,UG hc];exact this,fun _=>?_,fun q=>B3 h1 q⟩;simp[Yl]
      have:=hLX.row (c:=Y3 cp c2) (t:=T) Vq Kk rfl (.inr ⟨I,hTs,_,Ti⟩);rw[<-Zd (off:=1) (xs:=[.A3 4 (cp.map Ins.enc++c2.ins.map Ins.enc) (.tok (T))]) Vq yf Kk (by simp[H',Y3,As]) A6]at this;refine⟨_,_,by rw[QK,A4 JT,<-ht,UG Kk];exact this,fun q=>B3 q h1,fun _=>?_⟩;simp[Y3]
     have hcw:=hW.few c (AK hc);have qom:=hW.few c2 (AK Kk);have Hc:=qj1 (k:=k) (n:=n) (by have:=Lg.few;omega) abj;have Xc:NT g (MP k (n+1)) (QK (decide (b.term.to.length=1)) cp k x L):=by
      have Au:=qf2 k n;by_cases h1:b.term.to.length=1
      ·rw[QK,A9 JT,UG hc];exact hW.set hc rfl (by simp[Yl];omega) I
      rw[QK,A4 JT,<-ht,UG Kk];exact hW.set Kk rfl (by simp[Y3];omega) I
     have Cm:=hLX.out;have CN:=hLX.bl;have B8:=Xw hL.ls hL.li;refine LO (⟨132,[(2,.mp 1 0),(4,.ip none [aI g.name,AR g.blocks]),(6,aI sp),(7,.mp X 0),(29,AR g.blocks),(30,aI g.blocks.length),(31,aI k),(8,aI k),(9,.ip none [AA b.params,B7 b.ins,aI b.term.kind,aI b.term.arg,aI b.term.n,AA b.term.cases,An b.term.to]),(62,An b.term.to),(63,aI b.term.to.length),(64,aI n),(10,aI n)],O3⟩) ?_ ?_
     ·by_cases h1:b.term.to.length=1
      ·have d1:decide ((b.term.to.length:Int)=1)=true:=Ar I;have Cg:(Ct ss ids L)[k*7+1]?=some (.A3 4 (c.ins.map Ins.enc) (.tok s)):=kg hs BN hc 1 I;have Bg:=(hLX.sp k s c hs hc).2;refine Uq d1 ?_;have Po:∀y,(OX.set s y)[AS]?=some (.cells (Ct ss ids L)):=fun y=>EY CN (fun q=>by rw[<-q,Bg]at CN;simp at CN);refine Dn ?_;simp -dsimp only[simprocAttr,↓AG,zp,Cm,CN,Cg,B8,Bg,Po,BH,l7,CE,GD]
       refine Ef ?_
       have qmT:AS≠s:=fun q=>by rw[<-q,CN]at Bg;simp at Bg
       have hsX:X≠s:=fun q=>by rw[<-q,Cm]at Bg;simp at Bg
       have EH:=AE Bg;refine⟨Vv [AS,X,s] OX.length [.pure,.rd 1,.pure,.pure,.rd 1,.pure,.pure,.pure,.rd 0,.pure,.wr 3 [2],.pure,.pure,.wr 3 [0]] (by simp[hL.xb,qmT,hsX]) Ai (by simp only[B2];rfl) rfl CW,Ga ?_⟩;show Hy _ _;refine C6 ?_;rw[TQ h1]
      have d1:decide ((b.term.to.length:Int)=1)=false:=Ac I;have Cg:(Ct ss ids L)[t*7+1]?=some (.A3 4 (c2.ins.map Ins.enc) (.tok s2)):=kg Vq yf Kk 1 I;refine Us d1 ?_;rw[htb];have hTb:∀y,(OX.set T y)[AS]?=some (.cells (Ct ss ids L)):=fun y=>EY CN I;refine B9 ?_;simp -dsimp only[simprocAttr,↓AG,zp,Cm,CN,B8,BH]
      refine D1 ?_;refine Dn ?_;simp -dsimp only[simprocAttr,↓AG,zp,Cm,CN,Cg,B8,Ti,hTb,BH,l7,CE,GD]
      refine Ef ?_
      refine Yc ?_;rw[qmf h1]
     generalize QK (decide (b.term.to.length=1)) cp k x L=L3 at VY Xc CJ;obtain⟨c3,SM⟩:∃c,L3[k]?=some c:=⟨L3[k]'(by rw[Xc.len];exact AF),AY _⟩
     obtain⟨s3,hs3⟩:∃s,ss3[k]?=some s:=⟨ss3[k]'(by rw[VY.ls,Xc.len];exact AF),AY _⟩
     have zA:=Xc.to k b c3 hb SM;have o7:c3.term.to≠[]:=fun z=>by
      rw[z]at zA;simp at zA;omega
     obtain⟨o1,o2,o3,o4⟩:=VY.own k id c3 BN SM o7;obtain⟨y,hy⟩:∃y,c3.term.to[n]?=some y:=⟨c3.term.to[n]' I,AY _⟩
     have qkB:(Ct ss3 ids L3)[k*7+6]?=some (.os id c3.term.to.length 2):=by
      rw[kg hs3 BN SM 6 I];show some (Jh id c3.term.to)=_;rw[Jh,A4 o7]
     have qmk:=Xw VY.ls VY.li;have IB:=Q5 c3.term.to;have qlE:=VY.out;have qlc:=VY.bl;have qoe:=Xc.len;have Fv:=AE o4;refine Dn ?_;simp -dsimp only[simprocAttr,↓AG,zp,qlE,qlc,qkB,qmk,o4,IB,BH,l7,CE,GD]
     refine D1 ?_;have El:=qfr hy;have HS:=fun(j:Nat) u v=>kP (O:=O3.set id (.cells (As (B5 c3.term.to) (n*2+1) [.v (.slice none 0 0)]))) (cs:=B5 c3.term.to) (xs:=[.v (.slice none 0 0)]) (ys:=[AA []]) (i:=n*2+1) rfl aB (fun j u v h1 h2=>by
      match j,h1,h2 with
      | 0,h1,h2 =>
       simp only[Dh,AM]at h1 h2;subst h1;subst h2;exact xg _
      | j+1,h1,h2=>simp at h1) j u v
     rw[El]at HS;refine Lz id (B5 (c3.term.to.set n ⟨y.block,[]⟩)) (Bb Fv) (by rw[<-El,P' aB,P' aB]) (qaA _) HS ?_;rw[Hr];have hL4:=VY.S4 BN SM o7 (l:=c3.term.to.set n ⟨y.block,[]⟩) B2;have hW4:NT g (MP k (n+1)) (L3.set k (Dq c3 (c3.term.to.set n ⟨y.block,[]⟩))):=Xc.set SM jU (Xc.few c3 (AK SM)) (B6 _);rw[UG SM,bR,hy]at CJ;simp only[Fp]at CJ;generalize O3.set id (.cells (B5 (c3.term.to.set n ⟨y.block,[]⟩)))=O4 at hL4 ⊢;refine Bw ?_;refine⟨⟨⟨n+1,ss3,_,O4⟩,IA,hL4,hW4,CJ⟩,Ai,?_⟩;refine Ba ?_ ?_
     ·exact BY
     rfl
    refine BO ?_;have IY:b.term.to.length<=n:=by
     have:=G0 h;omega
    rw[cy IY]at CJ;simp only[Mb]at CJ;subst CJ;have hkf:=Lg.few;refine Bw ?_;refine⟨⟨⟨k+1,ss,L2,O⟩,AF,hL,hW.mono (qf1 abj),Af⟩,Ai,?_⟩;refine Ba ?_ ?_
    ·exact BY
    rfl
   refine BO ?_;have SR:g.blocks.length<=k:=by
    have:=G0 h;omega
   rw[cy SR]at Af;simp only[K0]at Af;subst Af;have hLl:=hW.len;have Cm:=hL.out;have hRf:=Lg.few;refine Ej ?_;refine PG Cm ?_;refine Al (BZ (ι:={Y:Nat×List A8 // Y.1<=R.length∧J7 g.name ids ss X AS (MQ Y.1 R) Y.2}) (fun Y=>⟨132,[(2,.mp 1 0),(7,.mp X 0),(119,aI R.length),(120,aI Y.1.1)],Y.1.2⟩) (fun Y=>R.length-Y.1.1) ⟨⟨0,O⟩,A6,by rw[qf5];exact hL⟩ ?_ ?_)
   ·refine C6 ?_
    all_goals rfl
   rintro⟨⟨j,O⟩,hj,hL⟩;simp only at hj hL;have oM:=hL.ls;have qn1:=hL.li;rw[vw]at oM qn1;refine C3 (fun h=>?_) (fun h=>?_)
   ·refine Az ?_;have Hb:j<R.length:=Aa
    obtain⟨c,hc⟩:∃c,R[j]?=some c:=⟨R[j],AY Hb⟩
    have hcj:=qj2 hc;have Au:=qf4 hc;obtain⟨id,BN⟩:∃id,ids[j]?=some id:=⟨ids[j]' I,AY _⟩
    obtain⟨s,hs⟩:∃s,ss[j]?=some s:=⟨ss[j]' I,AY _⟩
    have B8:=Xw hL.ls hL.li;have qoh:=vw j R;refine DW (Al ?_);by_cases hj0:j=0
    ·have d1:decide ((0:Int)<(j:Int))=false:=Ac I;refine WY ?_;refine QS d1 ?_;refine ON ?_;refine Bw ?_;refine⟨⟨⟨j+1,O⟩,Hb,by
      simp only;rw[Au,A9 hj0,Sg hcj];exact hL⟩,Ai,?_⟩
     refine Ba ?_ ?_
     ·exact BY
     rfl
    have d1:decide ((0:Int)<(j:Int))=true:=Ar I;have Cm:=hL.out;have CN:=hL.bl;refine WY ?_;refine QS d1 ?_;refine FF ?_;refine Dn ?_;simp -dsimp only[simprocAttr,↓AG,zp,Cm,CN,B8,BH,l7,CE,GD]
    refine D1 ?_;have El:=Zd (s':=s) (c:=Uw c) (off:=0) (xs:=[AA []]) hs BN hcj rfl A6;rw[J4,kZ hs]at El;have HS:=fun(i:Nat) u v=>kP (O:=O.set AS (.cells (As (Ct ss ids (MQ j R)) (j*7) [.v (.slice none 0 0)]))) (cs:=Ct ss ids (MQ j R)) (xs:=[.v (.slice none 0 0)]) (ys:=[AA []]) (i:=j*7) rfl aaH (fun i u v h1 h2=>by
     match i,h1,h2 with
     | 0,h1,h2 =>
      simp only[Dh,AM]at h1 h2;subst h1;subst h2;exact xg _
     | i+1,h1,h2=>simp at h1) i u v
    rw[El]at HS;refine Lz AS (Ct ss ids ((MQ j R).set j (Uw c))) (Bb (AE CN)) aaI (p9 _ _ _) HS ?_;rw[Hr];have hL4:=hL.zD hcj (c:=Uw c) rfl rfl;generalize O.set AS (.cells (Ct ss ids ((MQ j R).set j (Uw c))))=O4 at hL4 ⊢;refine Bw ?_;refine⟨⟨⟨j+1,O4⟩,Hb,by
     simp only;rw[Au,A4 hj0];exact hL4⟩,Ai,?_⟩
    refine Ba ?_ ?_
    ·exact BY
    rfl
   refine BO ?_;have Ff:R.length<=j:=by
    have:=G0 h;omega
   rw[qgn Ff]at hL;have On:=RK 0 R;generalize M5 0 R=B at hL On ⊢;have Cm:=hL.out;have GW:=hL.r1;have NP:=hL.b5;have Ko:=hL.x5;have Mc:=AE GW;refine Jm Cm GW ?_;refine Lz AS (C9 ids B) (EY hL.bl I) (by rw[UE hL.li,Xw hL.ls hL.li]) (uJ _ _) (um _ hL.ls hL.li) ?_;refine aex (ids:=ids) (bs:=B) (T:=[]) (X:=1) (oid:=AS) (name:=g.name) hL.li I (by rw[Ap I];exact Bb Mc) (by rw[Bb (by rw[B2];exact AE hL.bl)];simp[AP]) (fun j id c h1 h2 h3=>?_) (fun i j id c d h1 h2 h3 h4 h5 h6=>hL.inj i j id c d h1 h2 h3 h4 h5 h6) fun O1 Bn X6=>?_
   ·obtain⟨o1,o2,o3,o4⟩:=hL.own j id c h1 h2 h3;exact⟨o2,I,by rw[Ap (Ne.symm o2),Ap I];exact o4⟩
   rw[F9]at X6;refine F3 ?_;simp -dsimp only[simprocAttr,↓AG,zp,zr,results55,X6];refine⟨?_,rfl⟩;exact ry
  exact Be
 rw[A4 hc]at Bg ⊢;obtain⟨e,he⟩:∃e,e=Cj f:=⟨_,rfl⟩
 rw[<-he]at hc Bg ⊢;have Ca:decide (e=0)=false:=Ac hc;refine zf true 0 func55 ntmps55 ?_;refine KK ?_ ?_
 ·refine BM ?_;refine zi Bg ?_;refine Rm Ca ?_;exact acJ
 exact Be
def Gc(er:Func->Int):List Func->Int
 | []=>0
 | f::r=>Fw (er f) (Gc er r)
theorem ZU{er:Func->Int}:∀{l:List Func},Gc er l=0->∀f∈l,er f=0
 | [],_,f,hf=>by cases hf
 | g::r,h,f,hf=>by
  have:=Mx h;rcases List.mem_cons.1 hf with q|q
  ·subst q;exact this.1
  exact ZU this.2 f q
def X'(gM:Func->Func)(er:Func->Int)(f:Func):A2:=if er f=0 then .Ab [(gM f).enc,aI 0]else .Ab [.agg [aI 0,.A3 7 [] .sh],aI (er f)]
def Ih(f:Func):Func:=RS (DD f) (QC f)
def Jv(f:Func):Int:=if 128<f.blocks.length+(DI f).news.length then 2 else 0
theorem qdK{f:Func}(hc:Cj f=0):fH f=X' Ih Jv f:=by
 unfold fH X' Jv;rw[A9 hc];by_cases h:128<f.blocks.length+(DI f).news.length
 ·rw[A9 h,A9 h,A4 EW]
 rw[A4 h,A4 h,A9 rfl];rfl
theorem tg{f:Func}(h:Jv f=0):f.blocks.length+(DI f).news.length<=128:=by
 unfold Jv at h;split at h
 ·simp at h
 omega
theorem qaE:∀{l:List Func},Gc Jv l≠0->Gc Jv l=2
 | [],h=>B3 rfl h
 | f::r,h=>by
  unfold Gc at h ⊢;by_cases he:Jv f=0
  ·rw[HK he]at h ⊢;exact qaE h
  rw[KZ he];unfold Jv at he ⊢;split at he
  ·rw[A9 I8]
  exact B3 rfl he
def Gp(u:Ad):Ad:=⟨u.fns.map Ih,u.main⟩
def zU:A2:=.agg [.A3 2 [] .sh,aI 0]
def UM(u:Ad):Int:=if GN u=0 then(if Gc Jv u.fns=0 then(if Hh (Gp u)=0 then 0 else 2)else 2)else GN u
def eY(u:Ad):A2:=if UM u=0 then .Ab [(Gp u).enc,aI 0]else .Ab [zU,aI (UM u)]
theorem qc1(u:Ad)(AO:u.fit)(qlJ:GN u=0->Gc Jv u.fns=0->(Gp u).fit):BR prog 28 [u.enc] (eY u):=by
 have Jo:=sT u AO;by_cases hc:GN u=0
 ·have Hg:UM u=if Gc Jv u.fns=0 then(if Hh (Gp u)=0 then 0 else 2)else 2:=A9 hc
  rw[hc]at Jo;have NK:=(vf AO hc).few;have FJ:∀f∈u.fns,BR prog 55 [f.enc] (X' Ih Jv f):=fun f hf=>by
   rw[<-qdK ((cT hc).2.2.2.1 f hf)];exact qdQ f (AO.2.2 f hf)
  obtain⟨R,hR⟩:∃R,R=Gc Jv u.fns:=⟨_,rfl⟩
  have Lr:=fun h=>aek (Gp u) (qlJ hc h);obtain⟨Y,hY⟩:∃Y,Y=eY u:=⟨_,rfl⟩
  rw[<-hY];unfold eY at hY;rw[Hg,<-hR]at hY;rw[<-hR]at Lr;refine zf true 0 func28 ntmps28 ?_;refine WQ ?_ ?_
  ·refine Rj ?_;refine AJ (fun h=>?_) (fun h=>?_)
   ·cases h
   refine Az ?_;refine Cc ?_;refine No 2 0 rfl rfl ?_;refine Ur ?_;refine Al (BZ (ι:={k:Nat // k<=u.fns.length∧R=Gc Jv (u.fns.drop k)}) (fun k=>⟨47,[(2,.mp 1 0),(3,aI 0),(5,.mp 2 0),(20,C8 u.fns),(21,aI u.fns.length),(22,aI k.1)],[.gone,.cells [.A3 2 [] .ex,aI 0],.cells [.A3 2 (((u.fns.take k.1).map Ih).map Func.enc) (.tok 3),aI u.main],.spare k.1]⟩) (fun k=>u.fns.length-k.1) ⟨0,I,hR⟩ ?_ ?_)
   ·refine C6 ?_
    all_goals rfl
   rintro⟨k,hk,IC⟩;refine C3 (fun h=>?_) (fun h=>?_)
   ·refine Az ?_;have AF:k<u.fns.length:=Aa
    obtain⟨f,hf⟩:∃f,u.fns[k]?=some f:=⟨u.fns[k],Gu⟩
    rw[D9 hf]at IC;simp only[Gc]at IC;have IE:=FJ f (AK hf);unfold X' at IE;have BA:(((u.fns.take (k+1)).map Ih).map Func.enc)=((u.fns.take k).map Ih).map Func.enc++[(Ih f).enc]:=by
     rw[Fs,hf];simp
    have CI:(((u.fns.take k).map Ih).map Func.enc).length=k:=by
     exact KM
    have Pb:∀n,AQ n (((u.fns.take k).map Ih).map Func.enc):=fun n=>Func.AX n _;have ZE:∀n,AQ n (((u.fns.take k).map Ih).map Func.enc++[(Ih f).enc]):=fun n=>by
     rw[<-BA];exact Func.AX n _
    generalize ((u.fns.take k).map Ih).map Func.enc=T at *;refine DR hf ?_;refine Cz 7 4 (.ip none [aI f.name,AR f.blocks]) rfl Bd trivial rfl ?_ ?_;rotate_left;refine BL ?_
    ·by_cases he:Jv f=0
     ·rw[A9 he]at IE;rw[HK he]at IC;generalize Ih f=g at *;unfold Func.enc at IE;refine adA ?_ ?_
      ·refine BF ?_;refine FE ?_;refine WX CI ?_;refine Ei 4 [(2,.mp 1 0),(3,aI 0),(5,.mp 2 0),(20,C8 u.fns),(21,aI u.fns.length),(22,aI k)] A6 I [.gone,.cells [.A3 2 [] .ex,aI 0],.cells [.A3 2 (T++[g.enc]) (.tok 3),aI u.main],.spare (k+1)] ?_ ?_ ?_ ?_ ?_
       ·rfl
       ·simp[A8.upto,AQ,A2.upto,BU,Func.AX,Block.AX,Pb,ZE]
       ·exact Es
       ·simp[A8.upto,AQ,A2.upto,BU,Func.AX,Block.AX,Pb]
       refine Bw ?_;refine⟨⟨k+1,AF,IC⟩,Ai,?_⟩;dsimp only;rw[BA];refine Ba ?_ ?_
       ·exact BY
       rfl
      exact Be
     rw[A4 he]at IE;rw[KZ he]at IC;have hR2:R=2:=by
      rw[hR];exact qaE (by rw[<-hR,IC];exact he)
     obtain⟨e,GV⟩:∃e,e=Jv f:=⟨_,rfl⟩
     rw[<-GV]at IE he IC;have Ca:decide (e=0)=false:=Ac he;rw[IC]at hR2;rw[A4 (show ¬(R=0) from qj),A4 EW]at hY;refine BM ?_;refine zi IE ?_;refine Rm Ca ?_;refine E3 ?_;refine jz ?_;rw[hR2,hY];simp[AQ,A2.upto,zU]
    exact Be
   refine BO ?_;have Bh:k=u.fns.length:=Ee
   subst Bh;rw[F']at IC;simp only[Gc]at IC;rw[A9 IC]at hY;rw[Jk];have hm:=Lr IC;unfold Ad.enc Gp at hm;have Pb:∀n,AQ n ((u.fns.map Ih).map Func.enc):=fun n=>Func.AX n _;obtain⟨e,GV⟩:∃e,e=Hh (Gp u):=⟨_,rfl⟩
   unfold Gp at GV;rw[<-GV]at hm;have oF:Hh (Gp u)=e:=by rw[GV];rfl
   rw[oF]at hY;by_cases he:e=0
   ·subst he;rw[A9 rfl,A9 rfl]at hY;refine GX ?_;refine zi hm ?_;refine ML ?_;refine D7 ?_;refine jz ?_;rw[hY];simp[AQ,A2.upto];rw[HV]at Pb;exact⟨Pb 0,by simp[Ad.enc,Gp]⟩
   have Ca:decide (e=0)=false:=Ac he;rw[A4 he,A4 EW]at hY;refine Ej ?_;refine Gi Ca ?_;refine .inl ⟨_,hm,MK,B4 ?_⟩;refine Gi Ca ?_;refine Ak ?_;apply AZ rfl<;>intro h
   ·refine D7 ?_;refine jz ?_;rw[hY];simp[AQ,A2.upto,zU]
   exfalso;simp[he]at h
  exact Be
 have Hg:UM u=GN u:=A4 hc;unfold eY;rw[Hg,A4 hc];obtain⟨e,GV⟩:∃e,e=GN u:=⟨_,rfl⟩
 rw[<-GV]at hc Jo ⊢;have Ca:decide (e=0)=false:=Ac hc;refine zf true 0 func28 ntmps28 ?_;refine WQ ?_ ?_
 ·refine Rj ?_;refine Uo Ca ?_;refine jz ?_;simp[AQ,A2.upto,zU]
 exact Be
def bpE(p:Nat)(k:Int)(es:List Edge):List Int:=(es.filter fun e=>decide (e.block=k)).map fun _=>(p:Int)
def bpL(k:Int):Nat->List Block->List Int
 | _,[]=>[]
 | p,b::r=>bpE p k b.term.to++bpL k (p+1) r
def bpM(f:Func)(k:Int):List Int:=bpL k 0 f.blocks
theorem qhq(p:Nat)(k:Int)(es:List Edge):(bpE p k es).length=FY k es:=by
 unfold bpE FY;rw[BE];exact(zm ..).symm
theorem wq(k:Int):∀(bs:List Block) (p:Nat),(bpL k p bs).length=Ld k bs
 | [],_=>rfl
 | b::r,p=>by
  rw[bpL,Bf,qhq,wq k r];rfl
end Go.Proofs.YtjdnhamngpafmaaGreat
